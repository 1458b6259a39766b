/- Find: annotation.Variables, grouping.Variables (given Normalize). -/
import Derived.Test.YtkjbbbjebidniaaGreatDoorZXF
namespace Go.Proofs.YtkjbbbjebidniaaGreatDoor
open Go Go.RowKit
set_option linter.unusedSimpArgs false
set_option linter.unusedVariables false
set_option maxRecDepth 100000
set_option maxHeartbeats 4000000

def ltP (a b : Int × Int) : Prop := a.1 < b.1 ∨ a.1 = b.1 ∧ a.2 < b.2
/-- Strictly sorted. -/
def SS (l : List (Int × Int)) : Prop := l.Pairwise ltP
/-- What Normalize answers. -/
def NormOk : Prop := ∀ (l : List (Int × Int)), l.length ≤ 1000000 → ∀ {Ψ : Psi} {w : AW} {u : Value}, Wt Ψ w → Den Ψ u (lst encP l) → CallP 28 [u] w (fun r w' => Gr w w' ∧ ∃ Ψ' m, PLe Ψ Ψ' ∧ Wt Ψ' w' ∧ Den Ψ' r (lst encP m) ∧ SS m ∧ (∀ p, p ∈ m ↔ p ∈ l) ∧ m.length ≤ l.length)

theorem Acc.val {s0 B : Nat} {ps : List (Int × Int)} {w : AW} (A : Acc s0 B ps w) : ∃ v, w.cell ⟨B, 0, none⟩ = some v ∧ oneC v = true := by
  obtain ⟨h1, h2, v, h3, h4⟩ := A
  refine ⟨v, by rw [cell_at h3]; rfl, ?_⟩
  rcases h4 with ⟨_, rfl⟩ | ⟨_, R, _, _, _, rfl, _⟩ <;> rfl
theorem Acc.den {s0 B : Nat} {ps : List (Int × Int)} {w0 w : AW} {Ψ : Psi} {v : Value} (A : Acc s0 B ps w) (W : Wt Ψ w0) (g : Gr w0 w) (hs : w0.size ≤ s0) (hv : w.cell ⟨B, 0, none⟩ = some v) : ∃ Ψ', PLe Ψ Ψ' ∧ Wt Ψ' w ∧ Den Ψ' v (lst encP ps) := by
  obtain ⟨h1, h2, v', h3, h4⟩ := A
  rw [cell_at h3] at hv
  simp only [List.getElem?_cons_zero, Option.some.injEq] at hv
  subst hv
  rcases h4 with ⟨rfl, rfl⟩ | ⟨_, R, q1, q2, q3, rfl, q5⟩
  · exact ⟨Ψ, PLe.refl _, W.gr g, ⟨rfl, rfl, rfl⟩⟩
  · exact ⟨Ψ.add R (ps.flatMap encP), Psi.add_le W _ (by omega), W.add g (by omega) q3 q5 (dens_flatP Ψ ps), Den.new Ψ R encP ps _⟩
/-- From where the box is new. -/
theorem Up.gr_of {s0 B : Nat} {ps : List (Int × Int)} {w0 w w' : AW} (u : Up B w w') (A : Acc s0 B ps w) (g : Gr w0 w) (hs : w0.size ≤ s0) : Gr w0 w' :=
  ⟨u.low.trans g.low, Nat.le_trans g.size u.size, fun i hi => ((u.same i (Nat.lt_of_lt_of_le hi g.size) (A.keep (.inl (by omega)))).1).trans (g.same i hi)⟩

section
variable {α : Type} {enc : α → Dt} {ok : α → Prop} {vr : α → List (Int × Int)}
def VarOk (ok : α → Prop) (enc : α → Dt) (vr : α → List (Int × Int)) : Prop := ∀ a, ok a → (vr a).length ≤ 1000000 → ∀ {Ψ : Psi} {w : AW} {u : Value}, Wt Ψ w → Den Ψ u (enc a) → CallP 27 [u] w (fun r w' => Gr w w' ∧ ∃ Ψ' m, PLe Ψ Ψ' ∧ Wt Ψ' w' ∧ Den Ψ' r (lst encP m) ∧ SS m ∧ (∀ p, p ∈ m ↔ p ∈ vr a) ∧ m.length ≤ (vr a).length)

theorem var27_ok (EV : EvOk ok enc vr) (NM : NormOk) : VarOk ok enc vr := by
  intro a ha hn Ψ w u W hu
  obtain ⟨w1, b1, g1, z1, r1⟩ := allocW_z al_38 z_38 w
  have A1 : Acc w.size w.size [] w1 := ⟨Nat.le_refl _, by omega, _, r1, .inl ⟨rfl, rfl⟩⟩
  obtain ⟨rv, w2, k2, u2, A2⟩ := EV a ha (W.gr g1) hu (fun b o h => (W.live b o h).1) (by rw [g1.low]; exact W.low) A1 (by simpa using hn)
  rw [List.nil_append] at A2
  have g2 := u2.gr_of A1 g1 (Nat.le_refl _)
  obtain ⟨v, hv, _⟩ := A2.val
  obtain ⟨Ψ2, p2, W2, hd2⟩ := A2.den W g2 (Nat.le_refl _) hv
  obtain ⟨r3, w3, k3, g3, Ψ3, m, p3, W3, hd3, hss, hmem, hlen⟩ := NM (vr a) hn W2 hd2
  refine CallP.of (t := 2) (args := [u]) Tryz.func27 rfl rfl (by simp) (by show _ ≤ 9; simp) ?_
  have a0 : argsE [u] 0 = u := rfl
  refine TF.seq ?_
  refine TF.reg (call := oracle []) (by show 9 ≤ 1000000; decide) (by kernel_rfl) (oracle_ok _ (by simp)) ?_
  simp (maxSteps := 2000000) only [EVS, EVL, Nat.reduceEqDiff, Nat.reduceAdd, reduceIte, XE.then, XE.out, b1, a0]
  refine TF.seq ?_
  refine TF.reg (call := oracle []) (by show 9 ≤ 1000000; decide) (by kernel_rfl) (oracle_ok _ (by simp)) ?_
  simp (maxSteps := 2000000) only [EVS, EVL, Nat.reduceEqDiff, Nat.reduceAdd, reduceIte, XE.then, XE.out, b1, a0]
  refine TF.seq ?_
  refine TF.reg (call := oracle [(51, ⟨[u, .func (.func 52) #[] #[.pointer (some ⟨w.size, 0, none⟩)]]⟩, w1, rv, w2)]) (by show 9 ≤ 1000000; decide) (by kernel_rfl) (oracle_ok _ (by simpa using k2)) ?_
  simp (maxSteps := 2000000) only [EVS, EVL, Nat.reduceEqDiff, Nat.reduceAdd, reduceIte, XE.then, XE.out, b1, a0]
  refine TF.seq ?_
  refine TF.reg (call := oracle [(28, ⟨[v]⟩, w2, r3, w3)]) (by show 9 ≤ 1000000; decide) (by kernel_rfl) (oracle_ok _ (by simpa using k3)) ?_
  simp (maxSteps := 2000000) only [EVS, EVL, Nat.reduceEqDiff, Nat.reduceAdd, reduceIte, XE.then, XE.out, b1, a0, hv]
  refine TF.ret ?_
  try simp (maxSteps := 2000000) only [EVS, EVL, Nat.reduceEqDiff, Nat.reduceAdd, reduceIte, XE.then, XE.out, b1, a0]
  exact ⟨g2.trans g3, Ψ3, m, p2.trans p3, W3, hd3, hss, hmem, hlen⟩

theorem clo26_ok (V : VarOk ok enc vr) (a : α) (ha : ok a) {Ψ : Psi} {w : AW} {u : Value} {s0 B : Nat} {ps : List (Int × Int)} (W : Wt Ψ w) (hu : Den Ψ u (enc a)) (hlow : w.low ≤ s0) (A : Acc s0 B ps w) (hn : ps.length + (vr a).length ≤ 1000000) : CallP 26 [u, .pointer (some ⟨B, 0, none⟩)] w (fun r w' => Up B w w' ∧ ∃ m, (∀ p, p ∈ m ↔ p ∈ vr a) ∧ m.length ≤ (vr a).length ∧ Acc s0 B (ps ++ m) w') := by
  have hA1 := A.1
  have hA2 := A.2.1
  obtain ⟨v, hv, _⟩ := A.val
  obtain ⟨r5, w1, k1, g1, Ψ1, m, p1, W1, hd1, hss, hmem, hlen⟩ := V a ha (by omega) W.rs hu
  have gX := rs_gr g1 W.low
  have glow_wX := g1.low
  obtain ⟨wX, hwX⟩ : ∃ wx, w1.lw w.low = wx := ⟨_, rfl⟩
  rw [hwX] at gX
  have rl_w := rs_lw w W.low
  have WX := W1.lw w.low
  rw [hwX] at WX
  obtain ⟨us, hrd, hus⟩ := WX.rd (f := encP) (k := 2) (fun _ => rfl) hd1
  have hus := dens_flatP_inv hus
  subst hus
  have sX := gX.size
  have hcap : isSl r5 = true := by obtain ⟨_, _, rfl⟩ := hd1.len; rfl
  obtain ⟨r, wa, wb, e1, e2, u2, A2⟩ := acc_putD (A.gr gX) (by omega) (by rw [gX.low]; exact hlow) (gX.cell' hA2 hv) hrd (by omega)
  have rlX := rs_lw wX WX.low
  refine CallP.ofR (args := [u, .pointer (some ⟨B, 0, none⟩)]) Tryz.func26 rfl (by simp) (by show _ ≤ 7; simp) ?_
  have a0 : argsE [u, .pointer (some ⟨B, 0, none⟩)] 0 = u := rfl
  have a1 : argsE [u, .pointer (some ⟨B, 0, none⟩)] 1 = .pointer (some ⟨B, 0, none⟩) := rfl
  refine TF.regD (call := oracle [(27, ⟨[u]⟩, w.rs, r5, w1)]) (by show 7 ≤ 1000000; decide) (by kernel_rfl) (oracle_ok _ (by simpa using k1)) ?_
  simp (maxSteps := 2000000) only [EVS, EVL, Nat.reduceEqDiff, Nat.reduceAdd, reduceIte, XE.then, XE.out, a0, a1, hv, hwX, glow_wX, rl_w, rlX, e1, e2]
  refine ⟨.inr (by kernel_rfl), .inr (by kernel_rfl), ?_⟩
  exact FinR.none rfl ⟨(gX.up hA2).trans u2, m, hmem, hlen, A2⟩


/-- What has been gathered so far says the same as the list. -/
def St (s0 B : Nat) (L : List (Int × Int)) (w : AW) : Prop := ∃ qs, Acc s0 B qs w ∧ (∀ p, p ∈ qs ↔ p ∈ L) ∧ qs.length ≤ L.length
theorem St.gr {s0 B : Nat} {L : List (Int × Int)} {w w' : AW} (h : St s0 B L w) (g : Gr w w') : St s0 B L w' := by obtain ⟨qs, A, h1, h2⟩ := h; exact ⟨qs, A.gr g, h1, h2⟩
theorem clo26_st (V : VarOk ok enc vr) (a : α) (ha : ok a) {Ψ : Psi} {w : AW} {u : Value} {s0 B : Nat} {L : List (Int × Int)} (W : Wt Ψ w) (hu : Den Ψ u (enc a)) (hlow : w.low ≤ s0) (hΨ : ∀ b o, Ψ.live b o → b < s0) (S : St s0 B L w) (hn : L.length + (vr a).length ≤ 1000000) : CallP 26 [u, .pointer (some ⟨B, 0, none⟩)] w (fun r w' => Up B w w' ∧ St s0 B (L ++ vr a) w' ∧ Wt Ψ w') := by
  obtain ⟨qs, A, h1, h2⟩ := S
  refine (clo26_ok V a ha W hu hlow A (by omega)).mono fun r w' ⟨u2, m, h3, h4, A2⟩ => ⟨u2, ⟨qs ++ m, A2, fun p => by rw [List.mem_append, List.mem_append, h1, h3], by rw [List.length_append, List.length_append]; omega⟩, u2.wt A W hΨ⟩
def vrI (vr : α → List (Int × Int)) (s : Int × List (Val3 × α)) : List (Int × Int) := s.2.flatMap (fun p => vr p.2)
def vrR (vr : α → List (Int × Int)) (x : ARow α) : List (Int × Int) := vr x.ann ++ x.sums.flatMap (vrI vr)

theorem anns_ok (V : VarOk ok enc vr) (rows : List (ARow α)) (hr : rows.length ≤ 1000000) (hok : ∀ x ∈ rows, okRow ok x) {Ψ : Psi} {w : AW} {ucol u uab : Value} {s0 B : Nat} (W : Wt Ψ w) (hu : Den Ψ u (lst (encRow enc) rows)) (hΨ : ∀ b o, Ψ.live b o → b < s0) (hlow : w.low ≤ s0) (S : St s0 B [] w) (hn : (rows.flatMap (vrR vr)).length ≤ 1000000) : CallP 25 [.agg ⟨[ucol, u, uab]⟩, .func (.func 26) #[] #[.pointer (some ⟨B, 0, none⟩)]] w (fun r w' => Up B w w' ∧ St s0 B (rows.flatMap (vrR vr)) w') := by
  obtain ⟨ua, uc, rfl⟩ := hu.len
  obtain ⟨hA1, hA2⟩ : s0 ≤ B ∧ B < w.size := by obtain ⟨_, A, _⟩ := S; exact ⟨A.1, A.2.1⟩
  obtain ⟨w1, b1, g1, z1, r1⟩ := boxW_ok 25 (.agg ⟨[ucol, .slice ua rows.length uc, uab]⟩) w
  have c1 : w1.cell ⟨w.size, 1, none⟩ = some (.slice ua rows.length uc) := by rw [cell_at r1]; rfl
  refine CallP.ofR (args := [.agg ⟨[ucol, .slice ua rows.length uc, uab]⟩, .func (.func 26) #[] #[.pointer (some ⟨B, 0, none⟩)]]) Tryz.func25 rfl (by simp) (by show _ ≤ 42; simp) ?_
  have a0 : argsE [.agg ⟨[ucol, .slice ua rows.length uc, uab]⟩, .func (.func 26) #[] #[.pointer (some ⟨B, 0, none⟩)]] 0 = .agg ⟨[ucol, .slice ua rows.length uc, uab]⟩ := rfl
  have a1 : argsE [.agg ⟨[ucol, .slice ua rows.length uc, uab]⟩, .func (.func 26) #[] #[.pointer (some ⟨B, 0, none⟩)]] 1 = .func (.func 26) #[] #[.pointer (some ⟨B, 0, none⟩)] := rfl
  refine TF.seq ?_
  refine TF.reg (call := oracle []) (by show 42 ≤ 1000000; decide) (by kernel_rfl) (oracle_ok _ (by simp)) ?_
  simp (maxSteps := 2000000) only [EVS, EVL, Nat.reduceEqDiff, Nat.reduceAdd, reduceIte, XE.then, XE.out, b1, c1, a0, a1]
  refine TF.seq ?_
  refine TF.reg (call := oracle []) (by show 42 ≤ 1000000; decide) (by kernel_rfl) (oracle_ok _ (by simp)) ?_
  simp (maxSteps := 2000000) only [EVS, EVL, Nat.reduceEqDiff, Nat.reduceAdd, reduceIte, XE.then, XE.out, b1, c1, a0, a1]
  refine TF.block ?_
  generalize hw0 : w = w0 at *
  refine TF.loopH (fun e w => ∃ i : Nat, i ≤ rows.length ∧ e 1 = .func (.func 26) #[] #[.pointer (some ⟨B, 0, none⟩)] ∧ e 11 = .slice ua rows.length uc ∧ e 12 = .int .i64 (rows.length : Int) ∧ e 13 = .int .i64 (i : Int) ∧ Wt Ψ w ∧ Up B w0 w ∧ St s0 B ((rows.take i).flatMap (vrR vr)) w) (fun e w => rows.length - natOf (e 13)) ?_ ?_
  · refine ⟨0, Nat.zero_le _, (by simp (maxSteps := 2000000) only [EVS, EVL, Nat.reduceEqDiff, Nat.reduceAdd, reduceIte, XE.then, XE.out, b1, c1, a0, a1]), (by simp (maxSteps := 2000000) only [EVS, EVL, Nat.reduceEqDiff, Nat.reduceAdd, reduceIte, XE.then, XE.out, b1, c1, a0, a1]), (by simp (maxSteps := 2000000) only [EVS, EVL, Nat.reduceEqDiff, Nat.reduceAdd, reduceIte, XE.then, XE.out, b1, c1, a0, a1]), rfl, W.gr g1, g1.up hA2, S.gr g1⟩
  · rintro e w2 ⟨i, hi1, h1, h11, h12, h13, W2, u2, S2⟩
    have s2 := u2.size
    refine TF.seq ?_
    refine TF.reg (call := oracle []) (by show 42 ≤ 1000000; decide) (by kernel_rfl) (oracle_ok _ (by simp)) ?_
    simp (maxSteps := 2000000) only [EVS, EVL, Nat.reduceEqDiff, Nat.reduceAdd, reduceIte, XE.then, XE.out, h1, h11, h12, h13]
    refine TF.seq ?_
    by_cases hlt : i < rows.length
    · have hc_hlt := hlt
      refine TF.cond (t := true) rfl (by simp (maxSteps := 2000000) only [EVS, EVL, Nat.reduceEqDiff, Nat.reduceAdd, reduceIte, XE.then, XE.out, h1, h11, h12, h13, hlt]) ?_
      simp (maxSteps := 2000000) only [EVS, EVL, Nat.reduceEqDiff, Nat.reduceAdd, reduceIte, XE.then, XE.out, h1, h11, h12, h13, hlt]
      refine TF.skip ?_
      try simp (maxSteps := 2000000) only [EVS, EVL, Nat.reduceEqDiff, Nat.reduceAdd, reduceIte, XE.then, XE.out, h1, h11, h12, h13, hlt]
      refine TF.seq ?_
      refine TF.block ?_
      refine TF.seq ?_
      have hx1 : rows[i]? = some rows[i] := List.getElem?_eq_getElem hlt
      obtain ⟨_, hsl, hxa, hxi⟩ := hok _ (List.getElem_mem hlt)
      generalize rows[i] = x at *
      obtain ⟨ub, uo, uc', xv, xs, xa, e1, _, hub, hcx, hdv, hds, hda⟩ := W2.rdRow hu hx1
      cases e1
      have hle1 := fm_le (vrR vr) hx1
      have hle0 : (vrR vr x).length = (vr x.ann).length + (x.sums.flatMap (vrI vr)).length := by unfold vrR; rw [List.length_append]
      obtain ⟨w3, w4, b3, b4, g4, z4, r4⟩ := new_box al_33 st_33 w2 W2.low [xv, xs, xa] rfl (by simp [hdv.one, hds.one, hda.one])
      have d2 : w4.cell ⟨w2.size, 2, none⟩ = some xa := by rw [cell_at r4]; rfl
      have K4 : Keep B w2.size w4 := by obtain ⟨_, A, _⟩ := S2; exact A.keep_new g4 (.inr (Nat.le_refl _))
      refine TF.reg (call := oracle []) (by show 42 ≤ 1000000; decide) (by kernel_rfl) (oracle_ok _ (by simp)) ?_
      simp (maxSteps := 2000000) only [EVS, EVL, Nat.reduceEqDiff, Nat.reduceAdd, reduceIte, XE.then, XE.out, h1, h11, h12, h13, hlt, hcx, b3, b4]
      refine TF.seq ?_
      obtain ⟨rv, w5, k5, u5, S5, W5⟩ := clo26_st V x.ann hxa (W2.gr g4) hda (by rw [g4.low, u2.low]; exact hlow) hΨ (S2.gr g4) (by omega)
      obtain ⟨r5, K5⟩ := u5.same _ (by omega) K4
      rw [r4] at r5
      have uu5 := u2.trans ((g4.up (by omega)).trans u5)
      have d1 : w5.cell ⟨w2.size, 1, none⟩ = some xs := by rw [cell_at r5]; rfl
      refine TF.reg (call := oracle [(26, ⟨[xa, .pointer (some ⟨B, 0, none⟩)]⟩, w4, rv, w5)]) (by show 42 ≤ 1000000; decide) (by kernel_rfl) (oracle_ok _ (by simpa using k5)) ?_
      simp (maxSteps := 2000000) only [EVS, EVL, Nat.reduceEqDiff, Nat.reduceAdd, reduceIte, XE.then, XE.out, h1, h11, h12, h13, hlt, d2, res_tmp, callV_26]
      refine TF.seq ?_
      obtain ⟨sa, sc, rfl⟩ := hds.len
      have s5 := uu5.size
      refine TF.reg (call := oracle []) (by show 42 ≤ 1000000; decide) (by kernel_rfl) (oracle_ok _ (by simp)) ?_
      simp (maxSteps := 2000000) only [EVS, EVL, Nat.reduceEqDiff, Nat.reduceAdd, reduceIte, XE.then, XE.out, h1, h11, h12, h13, hlt, d1]
      refine TF.block ?_
      generalize hP : (rows.take i).flatMap (vrR vr) ++ vr x.ann = P at *
      have hPl : P.length = ((rows.take i).flatMap (vrR vr)).length + (vr x.ann).length := by rw [← hP, List.length_append]
      refine TF.loopH (fun e w => ∃ j : Nat, j ≤ x.sums.length ∧ e 1 = .func (.func 26) #[] #[.pointer (some ⟨B, 0, none⟩)] ∧ e 11 = .slice (some ⟨ub, uo, none⟩) rows.length uc ∧ e 12 = .int .i64 (rows.length : Int) ∧ e 13 = .int .i64 (i : Int) ∧ e 22 = .slice sa x.sums.length sc ∧ e 23 = .int .i64 (x.sums.length : Int) ∧ e 24 = .int .i64 (j : Int) ∧ Wt Ψ w ∧ Up B w0 w ∧ St s0 B (P ++ (x.sums.take j).flatMap (vrI vr)) w) (fun e w => x.sums.length - natOf (e 24)) ?_ ?_
      · refine ⟨0, Nat.zero_le _, (by simp (maxSteps := 2000000) only [EVS, EVL, Nat.reduceEqDiff, Nat.reduceAdd, reduceIte, XE.then, XE.out, h1, h11, h12, h13, hlt]), (by simp (maxSteps := 2000000) only [EVS, EVL, Nat.reduceEqDiff, Nat.reduceAdd, reduceIte, XE.then, XE.out, h1, h11, h12, h13, hlt]), (by simp (maxSteps := 2000000) only [EVS, EVL, Nat.reduceEqDiff, Nat.reduceAdd, reduceIte, XE.then, XE.out, h1, h11, h12, h13, hlt]), (by simp (maxSteps := 2000000) only [EVS, EVL, Nat.reduceEqDiff, Nat.reduceAdd, reduceIte, XE.then, XE.out, h1, h11, h12, h13, hlt]), (by simp (maxSteps := 2000000) only [EVS, EVL, Nat.reduceEqDiff, Nat.reduceAdd, reduceIte, XE.then, XE.out, h1, h11, h12, h13, hlt]), (by simp (maxSteps := 2000000) only [EVS, EVL, Nat.reduceEqDiff, Nat.reduceAdd, reduceIte, XE.then, XE.out, h1, h11, h12, h13, hlt]), rfl, W5, uu5, ?_⟩
        rw [List.take_zero, List.flatMap_nil, List.append_nil]; exact S5
      · rintro e w7 ⟨j, hj1, h1, h11, h12, h13, h22, h23, h24, W7, u7, S7⟩
        have s7 := u7.size
        refine TF.seq ?_
        refine TF.reg (call := oracle []) (by show 42 ≤ 1000000; decide) (by kernel_rfl) (oracle_ok _ (by simp)) ?_
        simp (maxSteps := 2000000) only [EVS, EVL, Nat.reduceEqDiff, Nat.reduceAdd, reduceIte, XE.then, XE.out, h1, h11, h12, h13, hlt, h22, h23, h24]
        refine TF.seq ?_
        by_cases hlt2 : j < x.sums.length
        · have hc_hlt2 := hlt2
          refine TF.cond (t := true) rfl (by simp (maxSteps := 2000000) only [EVS, EVL, Nat.reduceEqDiff, Nat.reduceAdd, reduceIte, XE.then, XE.out, h1, h11, h12, h13, hlt, h22, h23, h24, hlt2]) ?_
          simp (maxSteps := 2000000) only [EVS, EVL, Nat.reduceEqDiff, Nat.reduceAdd, reduceIte, XE.then, XE.out, h1, h11, h12, h13, hlt, h22, h23, h24, hlt2]
          refine TF.skip ?_
          try simp (maxSteps := 2000000) only [EVS, EVL, Nat.reduceEqDiff, Nat.reduceAdd, reduceIte, XE.then, XE.out, h1, h11, h12, h13, hlt, h22, h23, h24, hlt2]
          refine TF.seq ?_
          refine TF.block ?_
          refine TF.seq ?_
          have hy1 : x.sums[j]? = some x.sums[j] := List.getElem?_eq_getElem hlt2
          obtain ⟨hyl, hyo⟩ := hxi _ (List.getElem_mem hlt2)
          generalize x.sums[j] = y at *
          obtain ⟨sb, so, sc', yi, e2, _, hsb, hcy, hdy, _⟩ := W7.rdSum hds hy1
          cases e2
          have hle2 := fm_le (vrI vr) hy1
          change _ + (y.2.flatMap (fun p => vr p.2)).length ≤ _ at hle2
          obtain ⟨w8, w9, b8, b9, g9, z9, r9⟩ := new_box al_64 st_64 w7 W7.low [.int .i64 y.1, yi] rfl (by have q5 := hdy.one; simp [oneI, q5])
          have f1 : w9.cell ⟨w7.size, 1, none⟩ = some yi := by rw [cell_at r9]; rfl
          have uu9 := u7.trans (g9.up (B := B) (by omega))
          refine TF.reg (call := oracle []) (by show 42 ≤ 1000000; decide) (by kernel_rfl) (oracle_ok _ (by simp)) ?_
          simp (maxSteps := 2000000) only [EVS, EVL, Nat.reduceEqDiff, Nat.reduceAdd, reduceIte, XE.then, XE.out, h1, h11, h12, h13, hlt, h22, h23, h24, hlt2, hcy, b8, b9]
          refine TF.seq ?_
          obtain ⟨ia, ic, rfl⟩ := hdy.len
          have s9 := uu9.size
          refine TF.reg (call := oracle []) (by show 42 ≤ 1000000; decide) (by kernel_rfl) (oracle_ok _ (by simp)) ?_
          simp (maxSteps := 2000000) only [EVS, EVL, Nat.reduceEqDiff, Nat.reduceAdd, reduceIte, XE.then, XE.out, h1, h11, h12, h13, hlt, h22, h23, h24, hlt2, f1]
          refine TF.block ?_
          generalize hP2 : P ++ (x.sums.take j).flatMap (vrI vr) = P2 at *
          have hP2l : P2.length = P.length + ((x.sums.take j).flatMap (vrI vr)).length := by rw [← hP2, List.length_append]
          refine TF.loopH (fun e w => ∃ q : Nat, q ≤ y.2.length ∧ e 1 = .func (.func 26) #[] #[.pointer (some ⟨B, 0, none⟩)] ∧ e 11 = .slice (some ⟨ub, uo, none⟩) rows.length uc ∧ e 12 = .int .i64 (rows.length : Int) ∧ e 13 = .int .i64 (i : Int) ∧ e 22 = .slice (some ⟨sb, so, none⟩) x.sums.length sc ∧ e 23 = .int .i64 (x.sums.length : Int) ∧ e 24 = .int .i64 (j : Int) ∧ e 29 = .slice ia y.2.length ic ∧ e 30 = .int .i64 (y.2.length : Int) ∧ e 31 = .int .i64 (q : Int) ∧ Wt Ψ w ∧ Up B w0 w ∧ St s0 B (P2 ++ (y.2.take q).flatMap (fun p => vr p.2)) w) (fun e w => y.2.length - natOf (e 31)) ?_ ?_
          · refine ⟨0, Nat.zero_le _, (by simp (maxSteps := 2000000) only [EVS, EVL, Nat.reduceEqDiff, Nat.reduceAdd, reduceIte, XE.then, XE.out, h1, h11, h12, h13, hlt, h22, h23, h24, hlt2]), (by simp (maxSteps := 2000000) only [EVS, EVL, Nat.reduceEqDiff, Nat.reduceAdd, reduceIte, XE.then, XE.out, h1, h11, h12, h13, hlt, h22, h23, h24, hlt2]), (by simp (maxSteps := 2000000) only [EVS, EVL, Nat.reduceEqDiff, Nat.reduceAdd, reduceIte, XE.then, XE.out, h1, h11, h12, h13, hlt, h22, h23, h24, hlt2]), (by simp (maxSteps := 2000000) only [EVS, EVL, Nat.reduceEqDiff, Nat.reduceAdd, reduceIte, XE.then, XE.out, h1, h11, h12, h13, hlt, h22, h23, h24, hlt2]), (by simp (maxSteps := 2000000) only [EVS, EVL, Nat.reduceEqDiff, Nat.reduceAdd, reduceIte, XE.then, XE.out, h1, h11, h12, h13, hlt, h22, h23, h24, hlt2]), (by simp (maxSteps := 2000000) only [EVS, EVL, Nat.reduceEqDiff, Nat.reduceAdd, reduceIte, XE.then, XE.out, h1, h11, h12, h13, hlt, h22, h23, h24, hlt2]), (by simp (maxSteps := 2000000) only [EVS, EVL, Nat.reduceEqDiff, Nat.reduceAdd, reduceIte, XE.then, XE.out, h1, h11, h12, h13, hlt, h22, h23, h24, hlt2]), (by simp (maxSteps := 2000000) only [EVS, EVL, Nat.reduceEqDiff, Nat.reduceAdd, reduceIte, XE.then, XE.out, h1, h11, h12, h13, hlt, h22, h23, h24, hlt2]), (by simp (maxSteps := 2000000) only [EVS, EVL, Nat.reduceEqDiff, Nat.reduceAdd, reduceIte, XE.then, XE.out, h1, h11, h12, h13, hlt, h22, h23, h24, hlt2]), rfl, W7.gr g9, uu9, ?_⟩
            rw [List.take_zero, List.flatMap_nil, List.append_nil]; exact S7.gr g9
          · rintro e w12 ⟨q6, hq6, h1, h11, h12, h13, h22, h23, h24, h29, h30, h31, W12, u12, S12⟩
            have s12 := u12.size
            refine TF.seq ?_
            refine TF.reg (call := oracle []) (by show 42 ≤ 1000000; decide) (by kernel_rfl) (oracle_ok _ (by simp)) ?_
            simp (maxSteps := 2000000) only [EVS, EVL, Nat.reduceEqDiff, Nat.reduceAdd, reduceIte, XE.then, XE.out, h1, h11, h12, h13, hlt, h22, h23, h24, hlt2, h29, h30, h31]
            refine TF.seq ?_
            by_cases hlt6 : q6 < y.2.length
            · have hc_hlt6 := hlt6
              refine TF.cond (t := true) rfl (by simp (maxSteps := 2000000) only [EVS, EVL, Nat.reduceEqDiff, Nat.reduceAdd, reduceIte, XE.then, XE.out, h1, h11, h12, h13, hlt, h22, h23, h24, hlt2, h29, h30, h31, hlt6]) ?_
              simp (maxSteps := 2000000) only [EVS, EVL, Nat.reduceEqDiff, Nat.reduceAdd, reduceIte, XE.then, XE.out, h1, h11, h12, h13, hlt, h22, h23, h24, hlt2, h29, h30, h31, hlt6]
              refine TF.skip ?_
              try simp (maxSteps := 2000000) only [EVS, EVL, Nat.reduceEqDiff, Nat.reduceAdd, reduceIte, XE.then, XE.out, h1, h11, h12, h13, hlt, h22, h23, h24, hlt2, h29, h30, h31, hlt6]
              refine TF.seq ?_
              refine TF.block ?_
              refine TF.seq ?_
              have hz1 : y.2[q6]? = some y.2[q6] := List.getElem?_eq_getElem hlt6
              have hzo := hyo _ (List.getElem_mem hlt6)
              generalize y.2[q6] = z at *
              obtain ⟨ib, io, ic', zu, e3, _, hub3, hcz, hdz, _⟩ := W12.rdI hdy hz1
              cases e3
              have hle5 := fm_le (fun p : Val3 × α => vr p.2) hz1
              obtain ⟨w13, w15, b13, b15, g15, z15, r15⟩ := new_box al_66 st_66 w12 W12.low [.int .i64 z.1.kind, .int .i64 z.1.int, .string z.1.text, zu] rfl (by have q5 := hdz.one; simp [oneI, oneS, q5])
              have f3 : w15.cell ⟨w12.size, 3, none⟩ = some zu := by rw [cell_at r15]; rfl
              refine TF.reg (call := oracle []) (by show 42 ≤ 1000000; decide) (by kernel_rfl) (oracle_ok _ (by simp)) ?_
              simp (maxSteps := 2000000) only [EVS, EVL, Nat.reduceEqDiff, Nat.reduceAdd, reduceIte, XE.then, XE.out, h1, h11, h12, h13, hlt, h22, h23, h24, hlt2, h29, h30, h31, hlt6, hcz, b13, b15]
              obtain ⟨rv16, w16, k16, u16, S16, W16⟩ := clo26_st V z.2 hzo (W12.gr g15) hdz (by rw [g15.low, u12.low]; exact hlow) hΨ (S12.gr g15) (by rw [List.length_append]; omega)
              refine TF.reg (call := oracle [(26, ⟨[zu, .pointer (some ⟨B, 0, none⟩)]⟩, w15, rv16, w16)]) (by show 42 ≤ 1000000; decide) (by kernel_rfl) (oracle_ok _ (by simpa using k16)) ?_
              simp (maxSteps := 2000000) only [EVS, EVL, Nat.reduceEqDiff, Nat.reduceAdd, reduceIte, XE.then, XE.out, h1, h11, h12, h13, hlt, h22, h23, h24, hlt2, h29, h30, h31, hlt6, f3, res_tmp, callV_26]
              refine TF.reg (call := oracle []) (by show 42 ≤ 1000000; decide) (by kernel_rfl) (oracle_ok _ (by simp)) ?_
              simp (maxSteps := 2000000) only [EVS, EVL, Nat.reduceEqDiff, Nat.reduceAdd, reduceIte, XE.then, XE.out, h1, h11, h12, h13, hlt, h22, h23, h24, hlt2, h29, h30, h31, hlt6, wr1 (show q6 < 4611686018427387904 by omega)]
              refine ⟨⟨q6 + 1, by omega, (by simp (maxSteps := 2000000) only [EVS, EVL, Nat.reduceEqDiff, Nat.reduceAdd, reduceIte, XE.then, XE.out, h1, h11, h12, h13, hlt, h22, h23, h24, hlt2, h29, h30, h31, hlt6, wr1 (show q6 < 4611686018427387904 by omega)]), (by simp (maxSteps := 2000000) only [EVS, EVL, Nat.reduceEqDiff, Nat.reduceAdd, reduceIte, XE.then, XE.out, h1, h11, h12, h13, hlt, h22, h23, h24, hlt2, h29, h30, h31, hlt6, wr1 (show q6 < 4611686018427387904 by omega)]), (by simp (maxSteps := 2000000) only [EVS, EVL, Nat.reduceEqDiff, Nat.reduceAdd, reduceIte, XE.then, XE.out, h1, h11, h12, h13, hlt, h22, h23, h24, hlt2, h29, h30, h31, hlt6, wr1 (show q6 < 4611686018427387904 by omega)]), (by simp (maxSteps := 2000000) only [EVS, EVL, Nat.reduceEqDiff, Nat.reduceAdd, reduceIte, XE.then, XE.out, h1, h11, h12, h13, hlt, h22, h23, h24, hlt2, h29, h30, h31, hlt6, wr1 (show q6 < 4611686018427387904 by omega)]), (by simp (maxSteps := 2000000) only [EVS, EVL, Nat.reduceEqDiff, Nat.reduceAdd, reduceIte, XE.then, XE.out, h1, h11, h12, h13, hlt, h22, h23, h24, hlt2, h29, h30, h31, hlt6, wr1 (show q6 < 4611686018427387904 by omega)]), (by simp (maxSteps := 2000000) only [EVS, EVL, Nat.reduceEqDiff, Nat.reduceAdd, reduceIte, XE.then, XE.out, h1, h11, h12, h13, hlt, h22, h23, h24, hlt2, h29, h30, h31, hlt6, wr1 (show q6 < 4611686018427387904 by omega)]), (by simp (maxSteps := 2000000) only [EVS, EVL, Nat.reduceEqDiff, Nat.reduceAdd, reduceIte, XE.then, XE.out, h1, h11, h12, h13, hlt, h22, h23, h24, hlt2, h29, h30, h31, hlt6, wr1 (show q6 < 4611686018427387904 by omega)]), (by simp (maxSteps := 2000000) only [EVS, EVL, Nat.reduceEqDiff, Nat.reduceAdd, reduceIte, XE.then, XE.out, h1, h11, h12, h13, hlt, h22, h23, h24, hlt2, h29, h30, h31, hlt6, wr1 (show q6 < 4611686018427387904 by omega)]), (by simp (maxSteps := 2000000) only [EVS, EVL, Nat.reduceEqDiff, Nat.reduceAdd, reduceIte, XE.then, XE.out, h1, h11, h12, h13, hlt, h22, h23, h24, hlt2, h29, h30, h31, hlt6, wr1 (show q6 < 4611686018427387904 by omega)]), (by simp (maxSteps := 2000000) only [EVS, EVL, Nat.reduceEqDiff, Nat.reduceAdd, reduceIte, XE.then, XE.out, h1, h11, h12, h13, hlt, h22, h23, h24, hlt2, h29, h30, h31, hlt6, wr1 (show q6 < 4611686018427387904 by omega)]), W16, u12.trans ((g15.up (by omega)).trans u16), ?_⟩, ?_⟩
              · rw [fm_step _ hz1, ← List.append_assoc]; exact S16
              · simp only [EVS, h31, wr1 (show q6 < 4611686018427387904 by omega), Nat.reduceEqDiff, if_true, if_false, reduceIte]; omega
            · have hc_hlt6 := hlt6
              refine TF.cond (t := false) rfl (by simp (maxSteps := 2000000) only [EVS, EVL, Nat.reduceEqDiff, Nat.reduceAdd, reduceIte, XE.then, XE.out, h1, h11, h12, h13, hlt, h22, h23, h24, hlt2, h29, h30, h31, hlt6]) ?_
              simp (maxSteps := 2000000) only [EVS, EVL, Nat.reduceEqDiff, Nat.reduceAdd, reduceIte, XE.then, XE.out, h1, h11, h12, h13, hlt, h22, h23, h24, hlt2, h29, h30, h31, hlt6]
              refine TF.exit ?_
              simp (maxSteps := 2000000) only [EVS, EVL, Nat.reduceEqDiff, Nat.reduceAdd, reduceIte, XE.then, XE.out, h1, h11, h12, h13, hlt, h22, h23, h24, hlt2, h29, h30, h31, hlt6]
              refine TF.reg (call := oracle []) (by show 42 ≤ 1000000; decide) (by kernel_rfl) (oracle_ok _ (by simp)) ?_
              simp (maxSteps := 2000000) only [EVS, EVL, Nat.reduceEqDiff, Nat.reduceAdd, reduceIte, XE.then, XE.out, h1, h11, h12, h13, hlt, h22, h23, h24, hlt2, h29, h30, h31, hlt6, wr1 (show j < 4611686018427387904 by omega)]
              refine ⟨⟨j + 1, by omega, (by simp (maxSteps := 2000000) only [EVS, EVL, Nat.reduceEqDiff, Nat.reduceAdd, reduceIte, XE.then, XE.out, h1, h11, h12, h13, hlt, h22, h23, h24, hlt2, h29, h30, h31, hlt6, wr1 (show j < 4611686018427387904 by omega)]), (by simp (maxSteps := 2000000) only [EVS, EVL, Nat.reduceEqDiff, Nat.reduceAdd, reduceIte, XE.then, XE.out, h1, h11, h12, h13, hlt, h22, h23, h24, hlt2, h29, h30, h31, hlt6, wr1 (show j < 4611686018427387904 by omega)]), (by simp (maxSteps := 2000000) only [EVS, EVL, Nat.reduceEqDiff, Nat.reduceAdd, reduceIte, XE.then, XE.out, h1, h11, h12, h13, hlt, h22, h23, h24, hlt2, h29, h30, h31, hlt6, wr1 (show j < 4611686018427387904 by omega)]), (by simp (maxSteps := 2000000) only [EVS, EVL, Nat.reduceEqDiff, Nat.reduceAdd, reduceIte, XE.then, XE.out, h1, h11, h12, h13, hlt, h22, h23, h24, hlt2, h29, h30, h31, hlt6, wr1 (show j < 4611686018427387904 by omega)]), (by simp (maxSteps := 2000000) only [EVS, EVL, Nat.reduceEqDiff, Nat.reduceAdd, reduceIte, XE.then, XE.out, h1, h11, h12, h13, hlt, h22, h23, h24, hlt2, h29, h30, h31, hlt6, wr1 (show j < 4611686018427387904 by omega)]), (by simp (maxSteps := 2000000) only [EVS, EVL, Nat.reduceEqDiff, Nat.reduceAdd, reduceIte, XE.then, XE.out, h1, h11, h12, h13, hlt, h22, h23, h24, hlt2, h29, h30, h31, hlt6, wr1 (show j < 4611686018427387904 by omega)]), (by simp (maxSteps := 2000000) only [EVS, EVL, Nat.reduceEqDiff, Nat.reduceAdd, reduceIte, XE.then, XE.out, h1, h11, h12, h13, hlt, h22, h23, h24, hlt2, h29, h30, h31, hlt6, wr1 (show j < 4611686018427387904 by omega)]), W12, u12, ?_⟩, ?_⟩
              · rw [fm_step _ hy1, ← List.append_assoc]; rw [fm_all _ hlt6, ← hP2] at S12; exact S12
              · simp only [EVS, h24, wr1 (show j < 4611686018427387904 by omega), Nat.reduceEqDiff, if_true, if_false, reduceIte]; omega
        · have hc_hlt2 := hlt2
          refine TF.cond (t := false) rfl (by simp (maxSteps := 2000000) only [EVS, EVL, Nat.reduceEqDiff, Nat.reduceAdd, reduceIte, XE.then, XE.out, h1, h11, h12, h13, hlt, h22, h23, h24, hlt2]) ?_
          simp (maxSteps := 2000000) only [EVS, EVL, Nat.reduceEqDiff, Nat.reduceAdd, reduceIte, XE.then, XE.out, h1, h11, h12, h13, hlt, h22, h23, h24, hlt2]
          refine TF.exit ?_
          simp (maxSteps := 2000000) only [EVS, EVL, Nat.reduceEqDiff, Nat.reduceAdd, reduceIte, XE.then, XE.out, h1, h11, h12, h13, hlt, h22, h23, h24, hlt2]
          refine TF.reg (call := oracle []) (by show 42 ≤ 1000000; decide) (by kernel_rfl) (oracle_ok _ (by simp)) ?_
          simp (maxSteps := 2000000) only [EVS, EVL, Nat.reduceEqDiff, Nat.reduceAdd, reduceIte, XE.then, XE.out, h1, h11, h12, h13, hlt, h22, h23, h24, hlt2, wr1 (show i < 4611686018427387904 by omega)]
          refine ⟨⟨i + 1, by omega, (by simp (maxSteps := 2000000) only [EVS, EVL, Nat.reduceEqDiff, Nat.reduceAdd, reduceIte, XE.then, XE.out, h1, h11, h12, h13, hlt, h22, h23, h24, hlt2, wr1 (show i < 4611686018427387904 by omega)]), (by simp (maxSteps := 2000000) only [EVS, EVL, Nat.reduceEqDiff, Nat.reduceAdd, reduceIte, XE.then, XE.out, h1, h11, h12, h13, hlt, h22, h23, h24, hlt2, wr1 (show i < 4611686018427387904 by omega)]), (by simp (maxSteps := 2000000) only [EVS, EVL, Nat.reduceEqDiff, Nat.reduceAdd, reduceIte, XE.then, XE.out, h1, h11, h12, h13, hlt, h22, h23, h24, hlt2, wr1 (show i < 4611686018427387904 by omega)]), (by simp (maxSteps := 2000000) only [EVS, EVL, Nat.reduceEqDiff, Nat.reduceAdd, reduceIte, XE.then, XE.out, h1, h11, h12, h13, hlt, h22, h23, h24, hlt2, wr1 (show i < 4611686018427387904 by omega)]), W7, u7, ?_⟩, ?_⟩
          · rw [fm_step _ hx1]; rw [fm_all _ hlt2, ← hP, List.append_assoc] at S7; exact S7
          · simp only [EVS, h13, wr1 (show i < 4611686018427387904 by omega), Nat.reduceEqDiff, if_true, if_false, reduceIte]; omega
    · have hc_hlt := hlt
      refine TF.cond (t := false) rfl (by simp (maxSteps := 2000000) only [EVS, EVL, Nat.reduceEqDiff, Nat.reduceAdd, reduceIte, XE.then, XE.out, h1, h11, h12, h13, hlt]) ?_
      simp (maxSteps := 2000000) only [EVS, EVL, Nat.reduceEqDiff, Nat.reduceAdd, reduceIte, XE.then, XE.out, h1, h11, h12, h13, hlt]
      refine TF.exit ?_
      simp (maxSteps := 2000000) only [EVS, EVL, Nat.reduceEqDiff, Nat.reduceAdd, reduceIte, XE.then, XE.out, h1, h11, h12, h13, hlt]
      refine FinR.none rfl ⟨u2, ?_⟩
      rw [fm_all _ hlt] at S2; exact S2

theorem vars_ok (V : VarOk ok enc vr) (NM : NormOk) (rows : List (ARow α)) (hr : rows.length ≤ 1000000) (hok : ∀ x ∈ rows, okRow ok x) {Ψ : Psi} {w : AW} {ucol u uab : Value} (W : Wt Ψ w) (hu : Den Ψ u (lst (encRow enc) rows)) (h1c : oneC ucol = true) (h2c : oneC uab = true) (hn : (rows.flatMap (vrR vr)).length ≤ 1000000) : CallP 9 [.agg ⟨[ucol, u, uab]⟩] w (fun r w' => Gr w w' ∧ ∃ Ψ' m, PLe Ψ Ψ' ∧ Wt Ψ' w' ∧ Den Ψ' r (lst encP m) ∧ SS m ∧ (∀ p, p ∈ m ↔ p ∈ rows.flatMap (vrR vr))) := by
  obtain ⟨w1, b1, g1, z1, r1⟩ := boxW_ok 25 (.agg ⟨[ucol, u, uab]⟩) w
  change w1.heap.get w.size = some (.row [ucol, u, uab] 25 0) at r1
  obtain ⟨w2, b2, g2, z2, r2⟩ := allocW_z al_38 z_38 w1
  have cc := (g2.cells' (by omega) (row_cells (n := 3) r1 rfl))
  have A2 : Acc w1.size w1.size [] w2 := ⟨Nat.le_refl _, by omega, _, r2, .inl ⟨rfl, rfl⟩⟩
  have g12 := g1.trans g2
  obtain ⟨rv, w3, k3, u3, qs, A3, hq1, hq2⟩ := anns_ok V rows hr hok (W.gr g12) hu (s0 := w1.size) (B := w1.size) (fun b o h => Nat.lt_of_lt_of_le (W.live b o h).1 g1.size) (by rw [g12.low]; exact Nat.le_trans W.low g1.size) ⟨[], A2, fun p => Iff.rfl, Nat.le_refl _⟩ hn
  have g3 := u3.gr_of A2 g12 g1.size
  obtain ⟨v, hv, _⟩ := A3.val
  obtain ⟨Ψ3, p3, W3, hd3⟩ := A3.den W g3 g1.size hv
  obtain ⟨r4, w4, k4, g4, Ψ4, m, p4, W4, hd4, hss, hmem, _⟩ := NM qs (by omega) W3 hd3
  refine CallP.of (t := 2) (args := [.agg ⟨[ucol, u, uab]⟩]) Tryz.func9 rfl rfl (by simp) (by show _ ≤ 9; simp) ?_
  have a0 : argsE [.agg ⟨[ucol, u, uab]⟩] 0 = .agg ⟨[ucol, u, uab]⟩ := rfl
  refine TF.seq ?_
  refine TF.reg (call := oracle []) (by show 9 ≤ 1000000; decide) (by kernel_rfl) (oracle_ok _ (by simp)) ?_
  simp (maxSteps := 2000000) only [EVS, EVL, Nat.reduceEqDiff, Nat.reduceAdd, reduceIte, XE.then, XE.out, b1, b2, a0]
  refine TF.seq ?_
  refine TF.reg (call := oracle []) (by show 9 ≤ 1000000; decide) (by kernel_rfl) (oracle_ok _ (by simp)) ?_
  simp (maxSteps := 2000000) only [EVS, EVL, Nat.reduceEqDiff, Nat.reduceAdd, reduceIte, XE.then, XE.out, b1, b2, a0]
  refine TF.seq ?_
  refine TF.reg (call := oracle [(25, ⟨[.agg ⟨[ucol, u, uab]⟩, .func (.func 26) #[] #[.pointer (some ⟨w1.size, 0, none⟩)]]⟩, w2, rv, w3)]) (by show 9 ≤ 1000000; decide) (by kernel_rfl) (oracle_ok _ (by simpa using k3)) ?_
  simp (maxSteps := 2000000) only [EVS, EVL, Nat.reduceEqDiff, Nat.reduceAdd, reduceIte, XE.then, XE.out, b1, b2, a0, cc]
  refine TF.seq ?_
  refine TF.reg (call := oracle [(28, ⟨[v]⟩, w3, r4, w4)]) (by show 9 ≤ 1000000; decide) (by kernel_rfl) (oracle_ok _ (by simpa using k4)) ?_
  simp (maxSteps := 2000000) only [EVS, EVL, Nat.reduceEqDiff, Nat.reduceAdd, reduceIte, XE.then, XE.out, b1, b2, a0, hv]
  refine TF.ret ?_
  try simp (maxSteps := 2000000) only [EVS, EVL, Nat.reduceEqDiff, Nat.reduceAdd, reduceIte, XE.then, XE.out, b1, b2, a0]
  exact ⟨g3.trans g4, Ψ4, m, p3.trans p4, W4, hd4, hss, fun p => (hmem p).trans (hq1 p)⟩
end

end Go.Proofs.YtkjbbbjebidniaaGreatDoor
