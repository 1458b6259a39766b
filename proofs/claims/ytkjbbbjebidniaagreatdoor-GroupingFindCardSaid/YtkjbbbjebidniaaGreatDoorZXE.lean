/- Find: copiedRow, grouping.Find. -/
import Derived.Test.YtkjbbbjebidniaaGreatDoorZXD
namespace Go.Proofs.YtkjbbbjebidniaaGreatDoor
open Go Go.RowKit
set_option linter.unusedSimpArgs false
set_option linter.unusedVariables false
set_option maxRecDepth 100000
set_option maxHeartbeats 4000000

/-- A box that may hold anything. -/
theorem Dens.anys {Ψ : Psi} : ∀ {l : List Value}, l.all oneC = true → Dens Ψ l (List.replicate l.length .any)
  | [], _ => .nil
  | a :: l, h => by
    simp only [List.all_cons, Bool.and_eq_true] at h
    exact .cons (Den.of_any h.1) (Dens.anys h.2)
theorem put_any {Ψ : Psi} {b o n : Nat} {l : List Value} (h1 : l.all oneC = true) (ha : ∀ j d, Ψ.at' b j = some d → d = .any) : ∀ (j : Nat) (u : Value), l[j]? = some u → ∀ d, Ψ.at' b (o + j) = some d → Den Ψ u d := by
  intro j u hj d hd
  rw [ha _ _ hd]
  exact Den.of_any (List.all_eq_true.1 h1 u (List.mem_of_getElem? hj))

theorem copyA (n : Nat) : CopyOk 45 (okA 1000000 n) (encA n) := by
  induction n with
  | zero => exact fun a => nomatch a
  | succ n ih => exact fun d hd _ _ _ W hu => copied_ok ih d hd W hu

section
variable {α : Type} {enc : α → Dt} {ok : α → Prop}
theorem dens_Row' {Ψ : Psi} {x : ARow α} {u v y : Value} (h1 : Den Ψ u (lst encV x.vals)) (h2 : Den Ψ v (lst (encSum enc) x.sums)) (h3 : Den Ψ y (enc x.ann)) : Dens Ψ [u, v, y] (encRow enc x) := .cons h1 (.cons h2 (.cons h3 .nil))
def okRow (ok : α → Prop) (x : ARow α) : Prop := x.vals.length ≤ 1000000 ∧ x.sums.length ≤ 1000000 ∧ ok x.ann ∧ ∀ s ∈ x.sums, s.2.length ≤ 1000000 ∧ ∀ p ∈ s.2, ok p.2


theorem FinR.one {fn : Func} {Φ : Value → AW → Prop} {a t : Nat} {e : Env} {w : AW} {p : Addr} {l : Value} (hr : fn.results.toList = [.cell a t]) (ha : e a = .pointer (some p)) (hl : loadC Tryz.prog t p w = some l) (h : Φ l w) : FinR fn Φ .ret e w :=
  ⟨.inr rfl, [l], by rw [hr]; simp only [resultsE, resultE, ha, hl], h⟩
def zeroOf (P : Program) (el : TypeId) : Option (List Value) :=
  match P.info? el with
  | some i => i.zero.map (·.cells.toList)
  | none => none
theorem allocW_z {el n : Nat} {l : List Value} (h : alOk Tryz.prog el n = true) (hz : zeroOf Tryz.prog el = some l) (w : AW) : ∃ w1, allocW Tryz.prog el w = some (.pointer (some ⟨w.size, 0, none⟩), w1) ∧ Gr w w1 ∧ w1.size = w.size + 1 ∧ w1.heap.get w.size = some (.row l el 0) := by
  unfold alOk at h
  split at h
  case h_2 => cases h
  rename_i i hi
  split at h
  case h_2 => cases h
  rename_i z hzz
  simp only [Bool.and_eq_true] at h
  unfold zeroOf at hz
  simp only [hi, hzz, Option.map_some, Option.some.injEq] at hz
  obtain ⟨w1, hp⟩ := push_some w (.row z.cells.toList el 0)
  obtain ⟨g1, g2, g3⟩ := push_gr hp
  refine ⟨w1, ?_, g1, g2, by rw [← hz]; exact g3⟩
  unfold allocW m_alloc
  simp only [hi, hzz, h.1, cond_true, hp]
theorem z_33 : zeroOf Tryz.prog 33 = some [.slice none 0 0, .slice none 0 0, .slice none 0 0] := by kernel_rfl

theorem copiedRow_ok (H : CopyOk 45 ok enc) (x : ARow α) (hx : okRow ok x) {Ψ : Psi} {w : AW} {u1 u2 u3 : Value} (W : Wt Ψ w) (hu1 : Den Ψ u1 (lst encV x.vals)) (hu2 : Den Ψ u2 (lst (encSum enc) x.sums)) (hu3 : Den Ψ u3 (enc x.ann)) : CallP 21 [.agg ⟨[u1, u2, u3]⟩] w (fun r w' => Gr w w' ∧ ∃ Ψ', PLe Ψ Ψ' ∧ Wt Ψ' w' ∧ ∃ v1 v2 v3, r = .agg ⟨[v1, v2, v3]⟩ ∧ Den Ψ' v1 (lst encV x.vals) ∧ Den Ψ' v2 (lst (encSum enc) x.sums) ∧ Den Ψ' v3 (enc x.ann)) := by
  obtain ⟨hxv, hxs, hxa, hxi⟩ := hx
  obtain ⟨w1, b1, g1, z1, r1⟩ := boxW_ok 33 (.agg ⟨[u1, u2, u3]⟩) w
  change w1.heap.get w.size = some (.row [u1, u2, u3] 33 0) at r1
  have W1 := W.add g1 (Nat.le_refl _) (by omega) r1 (dens_Row' hu1 hu2 hu3)
  have p1 := Psi.add_le W (encRow enc x) (Nat.le_refl _)
  have hat1 := Psi.add_at Ψ w.size (encRow enc x)
  have hlv1 := Psi.add_live Ψ w.size (encRow enc x) 3 (Nat.le_refl _)
  generalize Ψ.add w.size (encRow enc x) = Ψ1 at *
  have sh1 : Shape w.size 3 w1 := ⟨_, _, _, r1, Nat.zero_le _, rfl⟩
  obtain ⟨w2, b2, g2, z2, r2⟩ := allocW_z al_33 z_33 w1
  have W2 := W1.add g2 (Nat.le_refl _) (by omega) r2 (Dens.anys rfl)
  have p2 := Psi.add_le W1 (List.replicate 3 .any) (Nat.le_refl _)
  have hat2 := Psi.add_at Ψ1 w1.size (List.replicate 3 .any)
  change Wt (Ψ1.add w1.size (List.replicate 3 .any)) w2 at W2
  have hlv2 := Psi.add_live Ψ1 w1.size (List.replicate 3 .any) 3 (Nat.le_refl _)
  generalize Ψ1.add w1.size (List.replicate 3 .any) = Ψ2 at *
  have sh2 : Shape w1.size 3 w2 := ⟨_, _, _, r2, Nat.zero_le _, rfl⟩
  replace sh1 := (g2.S (s0 := 0) (by omega)).shape _ _ (by omega) sh1
  have hlowA := W.low
  have c0 : w2.cell ⟨w.size, 0, none⟩ = some u1 := g2.cell' (by omega) (by rw [cell_at r1]; rfl)
  have c1 : w2.cell ⟨w.size, 1, none⟩ = some u2 := g2.cell' (by omega) (by rw [cell_at r1]; rfl)
  have c2 : w2.cell ⟨w.size, 2, none⟩ = some u3 := g2.cell' (by omega) (by rw [cell_at r1]; rfl)
  have p12 := p1.trans p2
  refine CallP.ofR (args := [.agg ⟨[u1, u2, u3]⟩]) Tryz.func21 rfl (by simp) (by show _ ≤ 35; simp) ?_
  have a0 : argsE [.agg ⟨[u1, u2, u3]⟩] 0 = .agg ⟨[u1, u2, u3]⟩ := rfl
  refine TF.seq ?_
  refine TF.reg (call := oracle []) (by show 35 ≤ 1000000; decide) (by kernel_rfl) (oracle_ok _ (by simp)) ?_
  simp (maxSteps := 2000000) only [EVS, EVL, Nat.reduceEqDiff, Nat.reduceAdd, reduceIte, XE.then, XE.out, b1, b2, a0]
  refine TF.seq ?_
  obtain ⟨ra, wa, k1, ga, Ψa, pa, Wa, hda, _⟩ := clone_44 (F := encV) (fun _ => rfl) x.vals hxv W2.rs (hu1.mono p12)
  have gA := rs_gr ga W2.low
  have glow_wA := ga.low
  obtain ⟨wA, hwA⟩ : ∃ wx, wa.lw w2.low = wx := ⟨_, rfl⟩
  rw [hwA] at gA
  have rl_w2 := rs_lw w2 W2.low
  have WA := Wa.lw w2.low
  rw [hwA] at WA
  obtain ⟨rb, wb, k2, gb, Ψb, pb, Wb, hdb⟩ := H x.ann hxa WA.rs (hu3.mono (p12.trans pa))
  have gB := rs_gr gb WA.low
  have glow_wB := gb.low
  obtain ⟨wB, hwB⟩ : ∃ wx, wb.lw wA.low = wx := ⟨_, rfl⟩
  rw [hwB] at gB
  have rl_wA := rs_lw wA WA.low
  have WB := Wb.lw wA.low
  rw [hwB] at WB
  obtain ⟨rc, wc, k3, gc, Ψc, pc, Wc, hdc, ownc⟩ := clone_46 (F := encSum enc) (fun _ => rfl) x.sums hxs WB.rs (hu2.mono (p12.trans (pa.trans pb)))
  have gC := rs_gr gc WB.low
  have glow_wC := gc.low
  obtain ⟨wC, hwC⟩ : ∃ wx, wc.lw wB.low = wx := ⟨_, rfl⟩
  rw [hwC] at gC
  have rl_wB := rs_lw wB WB.low
  have WC := Wc.lw wB.low
  rw [hwC] at WC
  have sA := gA.size
  have sB := gB.size
  have sC := gC.size
  have zB : w2.size ≤ wB.size := by omega
  change Own 2 wB.size wc x.sums.length rc at ownc
  have zc : wc.size = wC.size := by rw [← hwC]; rfl
  have shc : ∀ b n, Shape b n wc → Shape b n wC := fun b n h => by rw [← hwC]; exact h
  have cA2 : wA.cell ⟨w.size, 2, none⟩ = some u3 := gA.cell' (by omega) c2
  have cB1 : wB.cell ⟨w.size, 1, none⟩ = some u2 := (gA.trans gB).cell' (by omega) c1
  have cA2' : wa.cell ⟨w.size, 2, none⟩ = some u3 := by rw [← hwA] at cA2; exact cA2
  have cB1' : wb.cell ⟨w.size, 1, none⟩ = some u2 := by rw [← hwB] at cB1; exact cB1
  have zwA : wa.size = wA.size := by rw [← hwA]; rfl
  have zwB : wb.size = wB.size := by rw [← hwB]; rfl
  have zwC : wc.size = wC.size := by rw [← hwC]; rfl
  have q2C := p2.trans (pa.trans (pb.trans pc))
  have gAC := ((gA.trans (gB.trans gC)).S (s0 := w.size) (by omega))
  have shC := gAC.shape _ _ (by omega) sh1
  have hlowC : wC.low ≤ w.size := by rw [gAC.low, g2.low, g1.low]; exact hlowA
  obtain ⟨wd, sd, WD, gD, zD, _, _⟩ := putD_ok st_26 WC (s0 := w.size) shC (b := w.size) (o := 0) (Nat.le_refl _) (by omega) hlowC (v := ra) (l := [ra]) (flatten_one hda.one) rfl (by simp [hda.one]) (by omega) (put1 (q2C.at' _ _ _ (hat1 0)) (hda.mono (pb.trans pc)))
  obtain ⟨wD, hwD⟩ : ∃ wx, wd.lw wC.low = wx := ⟨_, rfl⟩
  rw [hwD] at WD gD zD
  obtain ⟨we, se, WE, gE, zE, _, _⟩ := putD_ok st_31 WD (s0 := w.size) (gD.shape _ _ (by omega) shC) (b := w.size) (o := 2) (Nat.le_refl _) (by omega) (by rw [gD.low]; exact hlowC) (v := rb) (l := [rb]) (flatten_one hdb.one) rfl (by simp [hdb.one]) (by omega) (put1 (q2C.at' _ _ _ (hat1 2)) (hdb.mono pc))
  obtain ⟨wE, hwE⟩ : ∃ wx, we.lw wD.low = wx := ⟨_, rfl⟩
  rw [hwE] at WE gE zE
  obtain ⟨wf, sf, WF, gF, zF, _, ccF⟩ := putD_ok st_29 WE (s0 := w.size) (gE.shape _ _ (by omega) (gD.shape _ _ (by omega) shC)) (b := w.size) (o := 1) (Nat.le_refl _) (by omega) (by rw [gE.low, gD.low]; exact hlowC) (v := rc) (l := [rc]) (flatten_one hdc.one) rfl (by simp [hdc.one]) (by omega) (put1 (q2C.at' _ _ _ (hat1 1)) hdc)
  obtain ⟨wF, hwF⟩ : ∃ wx, wf.lw wE.low = wx := ⟨_, rfl⟩
  rw [hwF] at WF gF zF ccF
  have zwD : wd.size = wD.size := by rw [← hwD]; rfl
  have zwE : we.size = wE.size := by rw [← hwE]; rfl
  have rl_C := rs_lw wC WC.low
  have rl_D := rs_lw wD WD.low
  have rl_E := rs_lw wE WE.low
  have cF1 := cell_of0 ccF rfl
  obtain ⟨sa, sc, rfl⟩ := hdc.len
  have gAF := gAC.trans (gD.trans (gE.trans gF))
  refine TF.regD (call := oracle [(44, ⟨[u1]⟩, w2.rs, ra, wa), (45, ⟨[u3]⟩, wA.rs, rb, wb), (46, ⟨[u2]⟩, wB.rs, .slice sa x.sums.length sc, wc)]) (by show 35 ≤ 1000000; decide) (by kernel_rfl) (oracle_ok _ (by simpa using ⟨k1, k2, k3⟩)) ?_
  simp (maxSteps := 2000000) only [EVS, EVL, Nat.reduceEqDiff, Nat.reduceAdd, reduceIte, XE.then, XE.out, b1, b2, a0, c0, cA2, cB1, zwA, zwB, zwC, zwD, zwE, cA2', cB1', hwA, hwB, hwC, hwD, hwE, hwF, glow_wA, glow_wB, glow_wC, rl_w2, rl_wA, rl_wB, rl_C, rl_D, rl_E, sd, se, sf, oracle_skip (show (45 : FuncId) ≠ 44 by decide), oracle_skip (show (46 : FuncId) ≠ 44 by decide), oracle_skip (show (46 : FuncId) ≠ 45 by decide)]
  refine ⟨.inr (by kernel_rfl), .inr (by kernel_rfl), .inr (by kernel_rfl), ?_⟩
  refine TF.seq ?_
  refine TF.seq ?_
  refine TF.reg (call := oracle []) (by show 35 ≤ 1000000; decide) (by kernel_rfl) (oracle_ok _ (by simp)) ?_
  simp (maxSteps := 2000000) only [EVS, EVL, Nat.reduceEqDiff, Nat.reduceAdd, reduceIte, XE.then, XE.out, b1, b2, a0, cF1]
  refine TF.block ?_
  generalize hw0 : w = w0 at *
  refine TF.loopH (fun e w => ∃ (i : Nat) (Ψi : Psi), i ≤ x.sums.length ∧ e 1 = .pointer (some ⟨w0.size, 0, none⟩) ∧ e 2 = .pointer (some ⟨w1.size, 0, none⟩) ∧ e 18 = .slice sa x.sums.length sc ∧ e 19 = .int .i64 (x.sums.length : Int) ∧ e 20 = .int .i64 (i : Int) ∧ PLe Ψc Ψi ∧ Wt Ψi w ∧ Den Ψi (.slice sa x.sums.length sc) (lst (encSum enc) x.sums) ∧ GrS w0.size wF w ∧ w.cell ⟨w0.size, 1, none⟩ = some (.slice sa x.sums.length sc)) (fun e w => x.sums.length - natOf (e 20)) ?_ ?_
  · exact ⟨0, Ψc, Nat.zero_le _, (by simp (maxSteps := 2000000) only [EVS, EVL, Nat.reduceEqDiff, Nat.reduceAdd, reduceIte, XE.then, XE.out, b1, b2, a0]), (by simp (maxSteps := 2000000) only [EVS, EVL, Nat.reduceEqDiff, Nat.reduceAdd, reduceIte, XE.then, XE.out, b1, b2, a0]), (by simp (maxSteps := 2000000) only [EVS, EVL, Nat.reduceEqDiff, Nat.reduceAdd, reduceIte, XE.then, XE.out, b1, b2, a0]), (by simp (maxSteps := 2000000) only [EVS, EVL, Nat.reduceEqDiff, Nat.reduceAdd, reduceIte, XE.then, XE.out, b1, b2, a0]), rfl, PLe.refl _, WF, hdc, GrS.refl _ _, cF1⟩
  · rintro e w3 ⟨i, Ψi, hi1, h1, h2, h18, h19, h20, pi, Wi, hdi, gi, ci⟩
    have s3 := gi.size
    refine TF.seq ?_
    refine TF.reg (call := oracle []) (by show 35 ≤ 1000000; decide) (by kernel_rfl) (oracle_ok _ (by simp)) ?_
    simp (maxSteps := 2000000) only [EVS, EVL, Nat.reduceEqDiff, Nat.reduceAdd, reduceIte, XE.then, XE.out, h1, h2, h18, h19, h20]
    refine TF.seq ?_
    by_cases hlt : i < x.sums.length
    · have hc_hlt := hlt
      refine TF.cond (t := true) rfl (by simp (maxSteps := 2000000) only [EVS, EVL, Nat.reduceEqDiff, Nat.reduceAdd, reduceIte, XE.then, XE.out, h1, h2, h18, h19, h20, hlt]) ?_
      simp (maxSteps := 2000000) only [EVS, EVL, Nat.reduceEqDiff, Nat.reduceAdd, reduceIte, XE.then, XE.out, h1, h2, h18, h19, h20, hlt]
      refine TF.skip ?_
      simp (maxSteps := 2000000) only [EVS, EVL, Nat.reduceEqDiff, Nat.reduceAdd, reduceIte, XE.then, XE.out, h1, h2, h18, h19, h20, hlt]
      refine TF.seq ?_
      refine TF.block ?_
      refine TF.seq ?_
      obtain ⟨b, eb, hb1, hb2, hsh⟩ := ownc (by omega)
      cases eb
      have hx1 : x.sums[i]? = some x.sums[i] := List.getElem?_eq_getElem hlt
      obtain ⟨hyl, hyo⟩ := hxi _ (List.getElem_mem hlt)
      generalize x.sums[i] = y at *
      obtain ⟨ub, uo, uc', yu, e1, _, hub, hcx, hdx, hat⟩ := Wi.rdSum hdi hx1
      cases e1
      simp only [Nat.zero_add] at hcx hat
      obtain ⟨w3', w4, b3, b4, g4, z4, r4⟩ := new_box al_64 st_64 w3 Wi.low [.int .i64 y.1, yu] rfl (by have q5 := hdx.one; simp [oneI, q5])
      have W4 := Wi.gr g4
      have f1 : w4.cell ⟨w3.size, 1, none⟩ = some yu := by rw [cell_at r4]; rfl
      refine TF.reg (call := oracle []) (by show 35 ≤ 1000000; decide) (by kernel_rfl) (oracle_ok _ (by simp)) ?_
      simp (maxSteps := 2000000) only [EVS, EVL, Nat.reduceEqDiff, Nat.reduceAdd, reduceIte, XE.then, XE.out, h1, h2, h18, h19, h20, hlt, hcx, b3, b4]
      have ci4 := g4.cell' (by omega) ci
      obtain ⟨r5, w5, k5, g5, Ψ5, p5, W5, hd5⟩ := weighted_ok H y.2 hyl hyo W4.rs hdx
      have g5' := rs_gr g5 W4.low
      have glow_wX := g5.low
      obtain ⟨wX, hwX⟩ : ∃ wx, w5.lw w4.low = wx := ⟨_, rfl⟩
      rw [hwX] at g5'
      have rl_w4 := rs_lw w4 W4.low
      have WX := W5.lw w4.low
      rw [hwX] at WX
      have s5 := g5'.size
      have shX := ((g4.trans g5').S (s0 := 0) (by omega)).shape _ _ (by omega) (gi.shape _ _ (by omega) ((gD.trans (gE.trans gF)).shape _ _ (by omega) (shc _ _ hsh)))
      obtain ⟨w6, s6, W6, g6, z6, o6, _⟩ := putD_ok st_62 WX (s0 := w0.size) shX (b := b) (o := i * 2 + 1) (by omega) (by omega) (by rw [(g4.trans g5').low, gi.low, gF.low, gE.low, gD.low]; exact hlowC) (v := r5) (l := [r5]) (flatten_one hd5.one) rfl (by simp [hd5.one]) (by have := Nat.mul_le_mul_right 2 (Nat.succ_le_of_lt hlt); omega) (put1 (p5.at' _ _ _ (hat 1 _ rfl)) hd5)
      have rlX := rs_lw wX WX.low
      refine TF.regD (call := oracle [(47, ⟨[yu]⟩, w4.rs, r5, w5)]) (by show 35 ≤ 1000000; decide) (by kernel_rfl) (oracle_ok _ (by simpa using k5)) ?_
      simp (maxSteps := 2000000) only [EVS, EVL, Nat.reduceEqDiff, Nat.reduceAdd, reduceIte, XE.then, XE.out, h1, h2, h18, h19, h20, hlt, ci4, f1, hwX, glow_wX, rl_w4, rlX, s6]
      refine ⟨.inr (by kernel_rfl), ?_⟩
      refine TF.reg (call := oracle []) (by show 35 ≤ 1000000; decide) (by kernel_rfl) (oracle_ok _ (by simp)) ?_
      simp (maxSteps := 2000000) only [EVS, EVL, Nat.reduceEqDiff, Nat.reduceAdd, reduceIte, XE.then, XE.out, h1, h2, h18, h19, h20, hlt, wr1 (show i < 4611686018427387904 by omega)]
      refine ⟨⟨i + 1, Ψ5, by omega, (by simp (maxSteps := 2000000) only [EVS, EVL, Nat.reduceEqDiff, Nat.reduceAdd, reduceIte, XE.then, XE.out, h1, h2, h18, h19, h20, hlt, wr1 (show i < 4611686018427387904 by omega)]), (by simp (maxSteps := 2000000) only [EVS, EVL, Nat.reduceEqDiff, Nat.reduceAdd, reduceIte, XE.then, XE.out, h1, h2, h18, h19, h20, hlt, wr1 (show i < 4611686018427387904 by omega)]), (by simp (maxSteps := 2000000) only [EVS, EVL, Nat.reduceEqDiff, Nat.reduceAdd, reduceIte, XE.then, XE.out, h1, h2, h18, h19, h20, hlt, wr1 (show i < 4611686018427387904 by omega)]), (by simp (maxSteps := 2000000) only [EVS, EVL, Nat.reduceEqDiff, Nat.reduceAdd, reduceIte, XE.then, XE.out, h1, h2, h18, h19, h20, hlt, wr1 (show i < 4611686018427387904 by omega)]), (by simp (maxSteps := 2000000) only [EVS, EVL, Nat.reduceEqDiff, Nat.reduceAdd, reduceIte, XE.then, XE.out, h1, h2, h18, h19, h20, hlt, wr1 (show i < 4611686018427387904 by omega)]), pi.trans p5, W6, hdi.mono p5, gi.trans (((g4.trans g5').S (by omega)).trans g6), cell_same (o6 _ (by omega)) ((g4.trans g5').cell' (by omega) ci)⟩, ?_⟩
      simp only [EVS, h20, wr1 (show i < 4611686018427387904 by omega), Nat.reduceEqDiff, if_true, if_false, reduceIte]; omega
    · have hc_hlt := hlt
      refine TF.cond (t := false) rfl (by simp (maxSteps := 2000000) only [EVS, EVL, Nat.reduceEqDiff, Nat.reduceAdd, reduceIte, XE.then, XE.out, h1, h2, h18, h19, h20, hlt]) ?_
      simp (maxSteps := 2000000) only [EVS, EVL, Nat.reduceEqDiff, Nat.reduceAdd, reduceIte, XE.then, XE.out, h1, h2, h18, h19, h20, hlt]
      refine TF.exit ?_
      simp (maxSteps := 2000000) only [EVS, EVL, Nat.reduceEqDiff, Nat.reduceAdd, reduceIte, XE.then, XE.out, h1, h2, h18, h19, h20, hlt]
      refine TF.seq ?_
      have q2i := q2C.trans pi
      have q3i := (pa.trans (pb.trans pc)).trans pi
      have hli : Ψi.live w0.size (0 + (encRow enc x).length) := by rw [Nat.zero_add]; exact q2i.live _ _ hlv1
      obtain ⟨us, cus, hus⟩ := Wi.cells (o := 0) hli (fun k d hk => by rw [Nat.zero_add]; exact q2i.at' _ _ _ ((hat1 k).trans hk))
      obtain ⟨v1, v2, v3, rfl, hv1, hv2, hv3⟩ := dens_Row hus
      change w3.cells _ 3 = _ at cus
      have h1s : ([v1, v2, v3] : List Value).all oneC = true := by simp [hv1.one, hv2.one, hv3.one]
      obtain ⟨w7, s7, W7, g7, z7, _, cc7⟩ := putS_ok st_33 Wi (s0 := w0.size) (gi.shape _ _ (by omega) (gAF.shape _ _ (by omega) sh2)) (b := w1.size) (o := 0) (by omega) (by omega) (by rw [gi.low, gF.low, gE.low, gD.low]; exact hlowC) (v := .agg ⟨[v1, v2, v3]⟩) (l := [v1, v2, v3]) rfl rfl h1s (by omega) (fun j u hj d hd => by have hj3 := (List.getElem?_eq_some_iff.1 hj).1; rw [Nat.zero_add, q3i.at' _ _ _ ((hat2 j).trans (List.getElem?_replicate_of_lt hj3))] at hd; cases hd; exact Den.of_any (List.all_eq_true.1 h1s u (List.mem_of_getElem? hj)))
      refine TF.reg (call := oracle []) (by show 35 ≤ 1000000; decide) (by kernel_rfl) (oracle_ok _ (by simp)) ?_
      simp (maxSteps := 2000000) only [EVS, EVL, Nat.reduceEqDiff, Nat.reduceAdd, reduceIte, XE.then, XE.out, h1, h2, h18, h19, h20, hlt, cus, s7]
      refine TF.ret ?_
      try simp (maxSteps := 2000000) only [EVS, EVL, Nat.reduceEqDiff, Nat.reduceAdd, reduceIte, XE.then, XE.out, h1, h2, h18, h19, h20, hlt]
      refine FinR.one rfl (by simp only [EVS, h2, Nat.reduceEqDiff, if_true, if_false, reduceIte]) (ldc_agg ty_33 cc7) ⟨?_, Ψi, p12.trans q3i, W7, v1, v2, v3, rfl, hv1, hv2, hv3⟩
      exact (((g1.trans g2).S (Nat.le_refl _)).trans (gAF.trans (gi.trans g7))).gr

theorem find_ok (H : CopyOk 45 ok enc) (rows : List (ARow α)) (ys : List Val3) (hn : rows.length < 4611686018427387904) (hok : ∀ x ∈ rows, okRow ok x) {Ψ : Psi} {w : AW} {ucol u uab v : Value} (W : Wt Ψ w) (hu : Den Ψ u (lst (encRow enc) rows)) (hv : Den Ψ v (lst encV ys)) : CallP 6 [.agg ⟨[ucol, u, uab]⟩, v] w (fun r w' => Gr w w' ∧ ∃ Ψ', PLe Ψ Ψ' ∧ Wt Ψ' w' ∧ FindRes enc rows ys Ψ' r) := by
  obtain ⟨ua, uc, rfl⟩ := hu.len
  obtain ⟨w1, b1, g1, z1, r1⟩ := boxW_ok 25 (.agg ⟨[ucol, .slice ua rows.length uc, uab]⟩) w
  obtain ⟨w2, b2, g2, z2, r2⟩ := boxW_ok 26 v w1
  rw [flatten_one hv.one] at r2
  obtain ⟨w3, b3, g3, z3, r3⟩ := allocW_z al_33 z_33 w2
  have W2 := W.gr (g1.trans g2)
  have W3 := W2.add g3 (Nat.le_refl _) (by omega) r3 (Dens.anys rfl)
  have p3 := Psi.add_le W2 (List.replicate 3 .any) (Nat.le_refl _)
  have hat3 := Psi.add_at Ψ w2.size (List.replicate 3 .any)
  change Wt (Ψ.add w2.size (List.replicate 3 .any)) w3 at W3
  generalize Ψ.add w2.size (List.replicate 3 .any) = Ψ3 at *
  have sh3 : Shape w2.size 3 w3 := ⟨_, _, _, r3, Nat.zero_le _, rfl⟩
  have hlowA := W.low
  have g13 := g1.trans (g2.trans g3)
  have c1 : w3.cell ⟨w.size, 1, none⟩ = some (.slice ua rows.length uc) := (g2.trans g3).cell' (by omega) (by rw [cell_at r1]; rfl)
  have c2 : w3.cell ⟨w1.size, 0, none⟩ = some v := g3.cell' (by omega) (by rw [cell_at r2]; rfl)
  obtain ⟨rv, w4, k4, g4, hk⟩ := index_ok rows ys hn (fun x hx => Nat.lt_of_le_of_lt (hok x hx).1 (by decide)) W3 (hu.mono p3) (hv.mono p3) (bp := w1.size) (by omega) c2
  obtain ⟨k, rfl, hk1, hk2⟩ : ∃ k : Int, rv = .int .i64 k ∧ (k < 0 → ∀ (j : Nat) x, rows[j]? = some x → x.vals ≠ ys) ∧ (¬ k < 0 → ∃ (i : Nat) (x : ARow α), k = (i : Int) ∧ rows[i]? = some x ∧ x.vals = ys ∧ ∀ (j : Nat) z, j < i → rows[j]? = some z → z.vals ≠ ys) := by
    rcases hk with ⟨rfl, h⟩ | ⟨i, x, rfl, h1, h2, h3⟩
    · exact ⟨-1, rfl, fun _ => h, fun h => absurd (by decide) h⟩
    · exact ⟨i, rfl, fun h => by omega, fun _ => ⟨i, x, rfl, h1, h2, h3⟩⟩
  have s4 := g4.size
  refine CallP.ofR (args := [.agg ⟨[ucol, .slice ua rows.length uc, uab]⟩, v]) Tryz.func6 rfl (by simp) (by show _ ≤ 20; simp) ?_
  have a0 : argsE [.agg ⟨[ucol, .slice ua rows.length uc, uab]⟩, v] 0 = .agg ⟨[ucol, .slice ua rows.length uc, uab]⟩ := rfl
  have a1 : argsE [.agg ⟨[ucol, .slice ua rows.length uc, uab]⟩, v] 1 = v := rfl
  refine TF.seq ?_
  refine TF.reg (call := oracle []) (by show 20 ≤ 1000000; decide) (by kernel_rfl) (oracle_ok _ (by simp)) ?_
  simp (maxSteps := 2000000) only [EVS, EVL, Nat.reduceEqDiff, Nat.reduceAdd, reduceIte, XE.then, XE.out, b1, b2, b3, c1, a0, a1]
  refine TF.seq ?_
  refine TF.reg (call := oracle [(18, ⟨[.slice ua rows.length uc, .func (.func 19) #[] #[.pointer (some ⟨w1.size, 0, none⟩)]]⟩, w3, .int .i64 k, w4)]) (by show 20 ≤ 1000000; decide) (by kernel_rfl) (oracle_ok _ (by simpa using k4)) ?_
  simp (maxSteps := 2000000) only [EVS, EVL, Nat.reduceEqDiff, Nat.reduceAdd, reduceIte, XE.then, XE.out, b1, b2, b3, c1, a0, a1]
  refine TF.seq ?_
  refine TF.seq ?_
  refine TF.reg (call := oracle []) (by show 20 ≤ 1000000; decide) (by kernel_rfl) (oracle_ok _ (by simp)) ?_
  simp (maxSteps := 2000000) only [EVS, EVL, Nat.reduceEqDiff, Nat.reduceAdd, reduceIte, XE.then, XE.out, b1, b2, b3, c1, a0, a1]
  by_cases hneg : k < 0
  · have hc_hneg := hneg
    refine TF.cond (t := true) rfl (by simp (maxSteps := 2000000) only [EVS, EVL, Nat.reduceEqDiff, Nat.reduceAdd, reduceIte, XE.then, XE.out, b1, b2, b3, c1, a0, a1, hneg]) ?_
    simp (maxSteps := 2000000) only [EVS, EVL, Nat.reduceEqDiff, Nat.reduceAdd, reduceIte, XE.then, XE.out, b1, b2, b3, c1, a0, a1, hneg]
    refine TF.seq ?_
    obtain ⟨w5, s1, s2, s3, s4', s5⟩ := store_box st_33 (t := 33) (b := w2.size) (l := [.slice none 0 0, .slice none 0 0, .slice none 0 0]) (c := [.slice none 0 0, .slice none 0 0, .slice none 0 0]) rfl rfl rfl (by rw [g4.same _ (by omega)]; exact r3) (g13.trans g4) W.low (by omega) (by omega)
    refine TF.reg (call := oracle []) (by show 20 ≤ 1000000; decide) (by kernel_rfl) (oracle_ok _ (by simp)) ?_
    simp (maxSteps := 2000000) only [EVS, EVL, Nat.reduceEqDiff, Nat.reduceAdd, reduceIte, XE.then, XE.out, b1, b2, b3, c1, a0, a1, hneg, res_build, bld33, s1]
    refine TF.ret ?_
    try simp (maxSteps := 2000000) only [EVS, EVL, Nat.reduceEqDiff, Nat.reduceAdd, reduceIte, XE.then, XE.out, b1, b2, b3, c1, a0, a1, hneg]
    refine FinR.two rfl (by simp only [EVS, Nat.reduceEqDiff, if_true, if_false, reduceIte]) (ldc_agg ty_33 (row_cells s4' rfl)) ⟨s2, Ψ, PLe.refl _, W.gr s2, .inr ⟨hk1 hneg, ?_⟩⟩
    simp only [EVS, Nat.reduceEqDiff, if_true, if_false, reduceIte]
  · have hc_hneg := hneg
    refine TF.cond (t := false) rfl (by simp (maxSteps := 2000000) only [EVS, EVL, Nat.reduceEqDiff, Nat.reduceAdd, reduceIte, XE.then, XE.out, b1, b2, b3, c1, a0, a1, hneg]) ?_
    simp (maxSteps := 2000000) only [EVS, EVL, Nat.reduceEqDiff, Nat.reduceAdd, reduceIte, XE.then, XE.out, b1, b2, b3, c1, a0, a1, hneg]
    refine TF.skip ?_
    simp (maxSteps := 2000000) only [EVS, EVL, Nat.reduceEqDiff, Nat.reduceAdd, reduceIte, XE.then, XE.out, b1, b2, b3, c1, a0, a1, hneg]
    refine TF.seq ?_
    obtain ⟨i, x, rfl, hx1, hx2, hx3⟩ := hk2 hneg
    have hox := hok x (List.mem_of_getElem? hx1)
    have W4 := W3.gr g4
    obtain ⟨ub, uo, uc', uv, us, uw, e1, hlt, hbub, hcx, hdv, hds, hda⟩ := W4.rdRow (hu.mono p3) hx1
    cases e1
    have d1 := g4.cell' (by omega) c1
    obtain ⟨rr, w5, k5, g5, Ψ5, p5, W5, v1, v2, v3, rfl, hv1, hv2, hv3⟩ := copiedRow_ok H x hox W4 hdv hds hda
    have s5 := g5.size
    have h1s : ([v1, v2, v3] : List Value).all oneC = true := by simp [hv1.one, hv2.one, hv3.one]
    obtain ⟨w7, s7, W7, g7, z7, _, cc7⟩ := putS_ok st_33 W5 (s0 := w.size) (((g4.trans g5).S (s0 := 0) (by omega)).shape _ _ (by omega) sh3) (b := w2.size) (o := 0) (by omega) (by omega) (by rw [(g13.trans (g4.trans g5)).low]; exact hlowA) (v := .agg ⟨[v1, v2, v3]⟩) (l := [v1, v2, v3]) rfl rfl h1s (by omega) (fun j u hj d hd => by have hj3 := (List.getElem?_eq_some_iff.1 hj).1; rw [Nat.zero_add, p5.at' _ _ _ ((hat3 j).trans (List.getElem?_replicate_of_lt hj3))] at hd; cases hd; exact Den.of_any (List.all_eq_true.1 h1s u (List.mem_of_getElem? hj)))
    refine TF.reg (call := oracle [(21, ⟨[.agg ⟨[uv, us, uw]⟩]⟩, w4, .agg ⟨[v1, v2, v3]⟩, w5)]) (by show 20 ≤ 1000000; decide) (by kernel_rfl) (oracle_ok _ (by simpa using k5)) ?_
    simp (maxSteps := 2000000) only [EVS, EVL, Nat.reduceEqDiff, Nat.reduceAdd, reduceIte, XE.then, XE.out, b1, b2, b3, c1, a0, a1, hneg, d1, hcx, s7, ixV_at _ _ _ _ _ _ _ hlt]
    refine TF.ret ?_
    try simp (maxSteps := 2000000) only [EVS, EVL, Nat.reduceEqDiff, Nat.reduceAdd, reduceIte, XE.then, XE.out, b1, b2, b3, c1, a0, a1, hneg]
    refine FinR.two rfl (by simp only [EVS, Nat.reduceEqDiff, if_true, if_false, reduceIte]) (ldc_agg ty_33 cc7) ⟨(((g13.trans (g4.trans g5)).S (Nat.le_refl _)).trans g7).gr, Ψ5, p3.trans p5, W7, .inl ⟨i, x, v1, v2, v3, hx1, hx2, hx3, ?_, hv1, hv2, hv3⟩⟩
    simp only [EVS, Nat.reduceEqDiff, if_true, if_false, reduceIte]
end

end Go.Proofs.YtkjbbbjebidniaaGreatDoor
