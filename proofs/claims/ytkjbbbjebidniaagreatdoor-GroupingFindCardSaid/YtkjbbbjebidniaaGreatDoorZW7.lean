/- Find: the law, over the own heap. -/
import Derived.Test.YtkjbbbjebidniaaGreatDoorZW6
namespace Go.Proofs.YtkjbbbjebidniaaGreatDoor
open Go Go.RowKit
set_option linter.unusedSimpArgs false
set_option linter.unusedVariables false
set_option maxRecDepth 100000
set_option maxHeartbeats 4000000

theorem awakeT (wa : AW) : CallT [0] Tryz.prog 4 ⟨[]⟩ wa (.bool true) wa := by
  intro ρ w args' S hg hv
  have h0 := hg 0 (by simp)
  have hw : 0 < w.heap.size := (S.dom 0 _ h0).2
  obtain ⟨l⟩ := args'
  have : l = [] := by cases hv; rfl
  subst this
  refine (awake_calls w hw).mono fun e w' ⟨h1, h2⟩ => ?_
  obtain ⟨h3, h4⟩ := below_sat S h2
  exact ⟨ρ, .bool true, h1, .bool _, h3, h4⟩
theorem bin_bneq (xt : TypeId) (h : Tryz.prog.underlying xt = some .bool) (x y : Operand) (a b : Bool) : binV Tryz.prog .neq xt x y (.bool a) (.bool b) = some (.bool (a != b)) := by
  unfold binV
  have hg : pureA Tryz.prog (eqGuard .neq xt x y (.bool a) (.bool b)) = some () := rfl
  have he : pureA Tryz.prog (Op.equal xt (.bool a) (.bool b)) = some (a == b) := by
    show pureA Tryz.prog (Op.equalIn (9999 + 1) xt _ _) = _
    unfold Op.equalIn
    rw [pureA_bind, pureA_underlying h]
    rfl
  have hb : binOp .neq xt (.bool a) (.bool b) = (Op.equal xt (.bool a) (.bool b) >>= fun q => pure (.bool !q)) := by simp [binOp]
  simp only [flatV, flat1, Bool.and_self, cond_true]
  rw [pureA_bind, hg]
  simp only [Option.bind_some]
  rw [hb, pureA_bind, he]
  rfl
theorem un_4 : Tryz.prog.underlying 4 = some .bool := by kernel_rfl

/-- Two strictly sorted lists with the same members. -/
theorem ss_ext : ∀ {a b : List (Int × Int)}, SS a → SS b → (∀ p, p ∈ a ↔ p ∈ b) → a = b
  | [], [], _, _, _ => rfl
  | [], y :: b, _, _, h => by have := (h y).2 (by simp); simp at this
  | x :: a, [], _, _, h => by have := (h x).1 (by simp); simp at this
  | x :: a, y :: b, ha, hb, h => by
    obtain ⟨a1, a2⟩ := List.pairwise_cons.1 ha
    obtain ⟨b1, b2⟩ := List.pairwise_cons.1 hb
    have hxy : x = y := by
      rcases List.mem_cons.1 ((h x).1 (by simp)) with e | e
      · exact e
      · rcases List.mem_cons.1 ((h y).2 (by simp)) with e2 | e2
        · exact e2.symm
        · exact absurd (ltP_tr (a1 y e2) (b1 x e)) (ltP_irr x)
    subst hxy
    congr 1
    refine ss_ext a2 b2 fun p => ⟨fun hp => ?_, fun hp => ?_⟩
    · rcases List.mem_cons.1 ((h p).1 (by simp [hp])) with e | e
      · subst e; exact absurd (a1 p hp) (ltP_irr p)
      · exact e
    · rcases List.mem_cons.1 ((h p).2 (by simp [hp])) with e | e
      · subst e; exact absurd (b1 p hp) (ltP_irr p)
      · exact e

section
variable {α : Type}
/-- The first row with these values. -/
def IsFirst (rows : List (ARow α)) (ys : List Val3) : Option (ARow α) → Prop
  | some x => ∃ i : Nat, rows[i]? = some x ∧ x.vals = ys ∧ ∀ (j : Nat) z, j < i → rows[j]? = some z → z.vals ≠ ys
  | none => ∀ (j : Nat) z, rows[j]? = some z → z.vals ≠ ys
theorem IsFirst.uniq {rows : List (ARow α)} {ys : List Val3} : ∀ {a b : Option (ARow α)}, IsFirst rows ys a → IsFirst rows ys b → a = b
  | none, none, _, _ => rfl
  | some x, none, ⟨i, h1, h2, _⟩, h => absurd h2 (h i x h1)
  | none, some x, h, ⟨i, h1, h2, _⟩ => absurd h2 (h i x h1)
  | some x, some y, ⟨i, h1, h2, h3⟩, ⟨j, k1, k2, k3⟩ => by
    rcases Nat.lt_trichotomy i j with h | h | h
    · exact absurd h2 (k3 i x h h1)
    · subst h; rw [h1] at k1; cases k1; rfl
    · exact absurd k2 (h3 j y h k1)
theorem fm_bound {β γ : Type} (f : β → List γ) {B : Nat} : ∀ (l : List β), (∀ x ∈ l, (f x).length ≤ B) → (l.flatMap f).length ≤ l.length * B
  | [], _ => by simp
  | a :: l, h => by
    have h1 := h a (by simp)
    have h2 := fm_bound f l fun x hx => h x (by simp [hx])
    rw [List.flatMap_cons, List.length_append, List.length_cons, Nat.succ_mul]
    omega
end
def zRow (n : Nat) : ARow (DA (n + 1)) := ⟨[], [], ([] : List (Term (DA n)))⟩
theorem FindRes.norm {n : Nat} {rows : List (ARow (DA (n + 1)))} {ys : List Val3} {Ψ : Psi} {r : Value} (h : FindRes (encA (n + 1)) rows ys Ψ r) :
    ∃ (o : Option (ARow (DA (n + 1)))) (uv us ua : Value), IsFirst rows ys o ∧ r = .tuple ⟨[.agg ⟨[uv, us, ua]⟩, .bool o.isSome]⟩ ∧ Den Ψ uv (lst encV (o.getD (zRow n)).vals) ∧ Den Ψ us (lst (encSum (encA (n + 1))) (o.getD (zRow n)).sums) ∧ Den Ψ ua (encA (n + 1) (o.getD (zRow n)).ann) := by
  rcases h with ⟨i, x, uv, us, ua, h1, h2, h3, h4, h5, h6, h7⟩ | ⟨h1, h2⟩
  · exact ⟨some x, uv, us, ua, ⟨i, h1, h2, h3⟩, h4, h5, h6, h7⟩
  · exact ⟨none, _, _, _, h1, h2, ⟨rfl, rfl, rfl⟩, ⟨rfl, rfl, rfl⟩, ⟨rfl, rfl, rfl⟩⟩
theorem IsFirst.mem {n : Nat} {rows : List (ARow (DA (n + 1)))} {ys : List Val3} {o : Option (ARow (DA (n + 1)))} (h : IsFirst rows ys o) : o.getD (zRow n) = zRow n ∨ o.getD (zRow n) ∈ rows := by
  cases o with
  | none => exact .inl rfl
  | some x => obtain ⟨i, h1, _⟩ := h; exact .inr (List.mem_of_getElem? h1)
/-- What Few gives. -/
theorem few_row {n : Nat} {x : ARow (DA (n + 1))} (h : fewRow (wA (n + 1)) x) : okRow (okA 1000000 (n + 1)) x ∧ (vrR (vrA (n + 1)) x).length ≤ 24060 := by
  obtain ⟨h1, h2, h3, h4⟩ := h
  have l1 := lightA 60 (n + 1) x.ann h3
  have l2 : ∀ s ∈ x.sums, ∀ p ∈ s.2, okA 60 (n + 1) p.2 ∧ (vrA (n + 1) p.2).length ≤ 60 := fun s hs p hp => by
    have h5 := (h4 s hs).2 p hp
    have := lightA 60 (n + 1) p.2 h5
    exact ⟨this.1, Nat.le_trans this.2 h5⟩
  refine ⟨⟨by omega, by omega, okA_mono (by decide) _ _ l1.1, fun s hs => ⟨by have := (h4 s hs).1; omega, fun p hp => okA_mono (by decide) _ _ (l2 s hs p hp).1⟩⟩, ?_⟩
  have k1 : ∀ s ∈ x.sums, (vrI (vrA (n + 1)) s).length ≤ 1200 := fun s hs => by
    have := fm_bound (fun p : Val3 × DA (n + 1) => vrA (n + 1) p.2) s.2 (B := 60) fun p hp => (l2 s hs p hp).2
    have h5 := (h4 s hs).1
    show (s.2.flatMap _).length ≤ _
    have : s.2.length * 60 ≤ 20 * 60 := Nat.mul_le_mul_right _ h5
    omega
  have k2 := fm_bound (vrI (vrA (n + 1))) x.sums k1
  have k3 : x.sums.length * 1200 ≤ 20 * 1200 := Nat.mul_le_mul_right _ h2
  unfold vrR
  rw [List.length_append]
  omega

theorem law_ok (n : Nat) (cols : List (ByteArray × Int)) (rows : List (ARow (DA (n + 1)))) (ys : List Val3) (hc : cols.length < 4611686018427387904) (hr : rows.length < 4611686018427387904) (hbig : ∀ x ∈ rows, bgRow (bgA (n + 1)) x) {Ψ : Psi} {w : AW} {ucol u uab v : Value} (W : Wt Ψ w) (hu0 : Den Ψ ucol (lst encC cols)) (hu : Den Ψ u (lst (encRow (encA (n + 1))) rows)) (h2 : oneC uab = true) (hv : Den Ψ v (lst encV ys)) : CallP 3 [.agg ⟨[ucol, u, uab]⟩, v] w (fun r w' => r = .bool true ∧ Gr w w') := by
  obtain ⟨w1, b1, g1, z1, r1⟩ := boxW_ok 25 (.agg ⟨[ucol, u, uab]⟩) w
  change w1.heap.get w.size = some (.row [ucol, u, uab] 25 0) at r1
  have cc := row_cells (n := 3) r1 rfl
  have k4 := awakeT w1
  obtain ⟨rf, w2, k5, g2, tf, rfl, hfew⟩ := few_ok (weightA (n + 1)) cols rows hc hr hbig (W.gr g1) hu0 hu
  have k4' := awakeT w2
  obtain ⟨va, vc, rfl⟩ := hv.len
  have cc2 := g2.cells' (by omega) cc
  refine CallP.of (t := 4) (args := [.agg ⟨[ucol, u, uab]⟩, .slice va ys.length vc]) Tryz.func3 rfl rfl (by simp) (by show _ ≤ 70; simp) ?_
  have a0 : argsE [.agg ⟨[ucol, u, uab]⟩, .slice va ys.length vc] 0 = .agg ⟨[ucol, u, uab]⟩ := rfl
  have a1 : argsE [.agg ⟨[ucol, u, uab]⟩, .slice va ys.length vc] 1 = .slice va ys.length vc := rfl
  refine TF.seq ?_
  refine TF.reg (call := oracle []) (by show 70 ≤ 1000000; decide) (by kernel_rfl) (oracle_ok _ (by simp)) ?_
  simp (maxSteps := 2000000) only [EVS, EVL, Nat.reduceEqDiff, Nat.reduceAdd, reduceIte, XE.then, XE.out, b1, cc, a0, a1]
  refine TF.seq ?_
  refine TF.seq ?_
  by_cases hF : tf = true
  · have hc_hF := hF
    subst hF
    refine TF.reg (call := oracle [(4, ⟨[]⟩, w1, .bool true, w1), (5, ⟨[.agg ⟨[ucol, u, uab]⟩, .int .i64 8, .int .i64 60]⟩, w1, .bool true, w2)]) (by show 70 ≤ 1000000; decide) (by kernel_rfl) (oracle_ok _ (by simpa using ⟨k4, k5⟩)) ?_
    simp (maxSteps := 2000000) only [EVS, EVL, Nat.reduceEqDiff, Nat.reduceAdd, reduceIte, XE.then, XE.out, b1, cc, a0, a1, res_not, isBl_bool, notV_bool, Bool.not_true, Bool.not_false, oracle_skip (show (5 : FuncId) ≠ 4 by decide)]
    by_cases hv20 : ((ys.length : Nat) : Int) > 20
    · have hc_hv20 := hv20
      refine TF.cond (t := true) rfl (by simp (maxSteps := 2000000) only [EVS, EVL, Nat.reduceEqDiff, Nat.reduceAdd, reduceIte, XE.then, XE.out, b1, cc, a0, a1, hv20]) ?_
      simp (maxSteps := 2000000) only [EVS, EVL, Nat.reduceEqDiff, Nat.reduceAdd, reduceIte, XE.then, XE.out, b1, cc, a0, a1, hv20]
      refine TF.seq ?_
      refine TF.reg (call := oracle [(4, ⟨[]⟩, w2, .bool true, w2)]) (by show 70 ≤ 1000000; decide) (by kernel_rfl) (oracle_ok _ (by simpa using k4')) ?_
      simp (maxSteps := 2000000) only [EVS, EVL, Nat.reduceEqDiff, Nat.reduceAdd, reduceIte, XE.then, XE.out, b1, cc, a0, a1, hv20]
      refine TF.ret ?_
      try simp (maxSteps := 2000000) only [EVS, EVL, Nat.reduceEqDiff, Nat.reduceAdd, reduceIte, XE.then, XE.out, b1, cc, a0, a1, hv20]
      exact g1.trans g2
    · have hc_hv20 := hv20
      refine TF.cond (t := false) rfl (by simp (maxSteps := 2000000) only [EVS, EVL, Nat.reduceEqDiff, Nat.reduceAdd, reduceIte, XE.then, XE.out, b1, cc, a0, a1, hv20]) ?_
      simp (maxSteps := 2000000) only [EVS, EVL, Nat.reduceEqDiff, Nat.reduceAdd, reduceIte, XE.then, XE.out, b1, cc, a0, a1, hv20]
      refine TF.skip ?_
      try simp (maxSteps := 2000000) only [EVS, EVL, Nat.reduceEqDiff, Nat.reduceAdd, reduceIte, XE.then, XE.out, b1, cc, a0, a1, hv20]
      refine TF.seq ?_
      obtain ⟨hf1, hf2⟩ := hfew rfl
      have hokr : ∀ x ∈ rows, okRow (okA 1000000 (n + 1)) x := fun x hx => (few_row (hf2 x hx)).1
      have g12 := g1.trans g2
      obtain ⟨r6, w3, k6, g3, Ψ3, p3, W3, hfr⟩ := find_ok (ucol := ucol) (uab := uab) (copyA (n + 1)) rows ys hr hokr (W.gr g12) hu hv
      obtain ⟨o1, uv, us, ua, hi1, rfl, hd1, hd2, hd3⟩ := hfr.norm
      obtain ⟨w4, w5, b4, b5, g5, z5, r5⟩ := new_box al_33 st_33 w3 W3.low [uv, us, ua] rfl (by simp [hd1.one, hd2.one, hd3.one])
      have W5 := W3.gr g5
      have g15 := g12.trans (g3.trans g5)
      refine TF.reg (call := oracle [(6, ⟨[.agg ⟨[ucol, u, uab]⟩, .slice va ys.length vc]⟩, w2, .tuple ⟨[.agg ⟨[uv, us, ua]⟩, .bool o1.isSome]⟩, w3)]) (by show 70 ≤ 1000000; decide) (by kernel_rfl) (oracle_ok _ (by simpa using k6)) ?_
      simp (maxSteps := 2000000) only [EVS, EVL, Nat.reduceEqDiff, Nat.reduceAdd, reduceIte, XE.then, XE.out, b1, cc, a0, a1, hv20, cc2, b4, b5, v_extract]
      refine TF.seq ?_
      have cc5 := (g2.trans (g3.trans g5)).cells' (by omega) cc
      obtain ⟨r7, w6, k7, g6, hrr⟩ := rfind_ok (ucol := ucol) (uab := uab) rows ys hr (fun x hx => Nat.lt_of_le_of_lt (hokr x hx).1 (by decide)) W5 (hu.mono p3) (hv.mono p3)
      obtain ⟨o2, uv', us', ua', hi2, rfl, hd1', hd2', hd3'⟩ := hrr.norm
      cases hi1.uniq hi2
      obtain ⟨w7, w8, b7, b8, g8, z8, r8⟩ := new_box al_33 st_33 w6 (g6.lowle W5.low) [uv', us', ua'] rfl (by simp [hd1'.one, hd2'.one, hd3'.one])
      have W8 := W5.gr (g6.trans g8)
      have g58 := g6.trans g8
      have e1 := row_cells (n := 3) r8 rfl
      have s3 := g3.size
      have s6 := g6.size
      have e2 := g58.cells' (by omega) (row_cells (n := 3) r5 rfl)
      refine TF.reg (call := oracle [(7, ⟨[.agg ⟨[ucol, u, uab]⟩, .slice va ys.length vc]⟩, w5, .tuple ⟨[.agg ⟨[uv', us', ua']⟩, .bool o1.isSome]⟩, w6)]) (by show 70 ≤ 1000000; decide) (by kernel_rfl) (oracle_ok _ (by simpa using k7)) ?_
      simp (maxSteps := 2000000) only [EVS, EVL, Nat.reduceEqDiff, Nat.reduceAdd, reduceIte, XE.then, XE.out, b1, cc, a0, a1, hv20, cc5, b7, b8, v_extract]
      refine TF.seq ?_
      refine TF.seq ?_
      have hbx : okRow (okA 1000000 (n + 1)) (o1.getD (zRow n)) := hi1.mem.elim (fun h => by rw [h]; exact ⟨Nat.zero_le _, Nat.zero_le _, ⟨Nat.zero_le _, fun t ht => by cases ht⟩, fun s hs => by cases hs⟩) (hokr _)
      obtain ⟨hb1, hb2, hb3, hb4⟩ := hbx
      obtain ⟨r9, w9, k8, rfl, g9⟩ := sameRow_ok (cmpA0 1000000 (by decide) (n + 1)) (o1.getD (zRow n)) (by omega) (by omega) (fun s hs => by have := (hb4 s hs).1; omega) hb3 (fun s hs => (hb4 s hs).2) W8 hd1 hd2 hd3 hd1' hd2' hd3'
      refine TF.reg (call := oracle [(8, ⟨[.agg ⟨[uv, us, ua]⟩, .agg ⟨[uv', us', ua']⟩]⟩, w8, .bool true, w9)]) (by show 70 ≤ 1000000; decide) (by kernel_rfl) (oracle_ok _ (by simpa using k8)) ?_
      simp (maxSteps := 2000000) only [EVS, EVL, Nat.reduceEqDiff, Nat.reduceAdd, reduceIte, XE.then, XE.out, b1, cc, a0, a1, hv20, e1, e2, bin_bneq 4 un_4, bne_self_eq_false, res_not, isBl_bool, notV_bool, Bool.not_true, Bool.not_false]
      refine TF.cond (t := false) rfl (by simp (maxSteps := 2000000) only [EVS, EVL, Nat.reduceEqDiff, Nat.reduceAdd, reduceIte, XE.then, XE.out, b1, cc, a0, a1, hv20]) ?_
      simp (maxSteps := 2000000) only [EVS, EVL, Nat.reduceEqDiff, Nat.reduceAdd, reduceIte, XE.then, XE.out, b1, cc, a0, a1, hv20]
      refine TF.skip ?_
      try simp (maxSteps := 2000000) only [EVS, EVL, Nat.reduceEqDiff, Nat.reduceAdd, reduceIte, XE.then, XE.out, b1, cc, a0, a1, hv20]
      refine TF.seq ?_
      have W9 := W8.gr g9
      have hnb : (rows.flatMap (vrR (vrA (n + 1)))).length ≤ 1000000 := Nat.le_trans (fm_bound _ rows (B := 24060) fun x hx => (few_row (hf2 x hx)).2) (by have : rows.length * 24060 ≤ 8 * 24060 := Nat.mul_le_mul_right _ hf1; omega)
      have hr6 : rows.length ≤ 1000000 := by omega
      have cc9 := (g2.trans (g3.trans (g5.trans (g58.trans g9)))).cells' (by omega) cc
      have g59 := g58.trans g9
      obtain ⟨r10, w10, k9, g10, Ψ4, m1, p4, W10, hd10, hss1, hm1⟩ := vars_ok (ucol := ucol) (uab := uab) (varA (n + 1)) norm_ok rows hr6 hokr W9.rs (hu.mono p3) hu0.one h2 hnb
      have gA := rs_gr g10 W9.low
      have glA := g10.low
      obtain ⟨wA, hwA⟩ : ∃ wx, w10.lw w9.low = wx := ⟨_, rfl⟩
      have zwA : w10.size = wA.size := by rw [← hwA]; rfl
      rw [hwA] at gA
      have WA := W10.lw w9.low
      rw [hwA] at WA
      have rl9 := rs_lw w9 W9.low
      have rlA := rs_lw wA WA.low
      have s9 : w.size < w9.size := by have := g59.size; have := g5.size; have := g3.size; have := g2.size; omega
      have ccA := gA.cells' s9 cc9
      have cc10 : w10.cells ⟨w.size, 0, none⟩ 3 = some [ucol, u, uab] := by rw [← hwA] at ccA; exact ccA
      obtain ⟨r11, w11, k10, g11, m2, ⟨b2', kk2, rfl, ok2, hb2'⟩, hss2, hm2, _⟩ := rvars_ok (ucol := ucol) (uab := uab) (rvarA (n + 1)) rows hr6 hokr WA.rs ((hu.mono p3).mono p4) hnb
      cases ss_ext hss1 hss2 (fun p => (hm1 p).trans (hm2 p).symm)
      have gB := rs_gr g11 WA.low
      have glB := g11.low
      obtain ⟨wB, hwB⟩ : ∃ wx, w11.lw wA.low = wx := ⟨_, rfl⟩
      have zwB : w11.size = wB.size := by rw [← hwB]; rfl
      rw [hwB] at gB
      have WB := WA.gr gB
      have rlB := rs_lw wB WB.low
      have okB : wB.heap.get b2' = some (.row (flatP m1 ++ []) 41 kk2) := by rw [← hwB, List.append_nil]; exact ok2.1
      obtain ⟨la, lc, rfl⟩ := hd10.len
      have hm6 : m1.length < 4611686018427387904 := by have := List.Nodup.length_le_of_subset (l₁ := m1) (l₂ := rows.flatMap (vrR (vrA (n + 1)))) (hss1.imp fun {a b} h => by rintro rfl; exact ltP_irr _ h) (fun p hp => (hm1 p).1 hp); omega
      refine TF.regD (call := oracle [(9, ⟨[.agg ⟨[ucol, u, uab]⟩]⟩, w9.rs, .slice la m1.length lc, w10), (10, ⟨[.agg ⟨[ucol, u, uab]⟩]⟩, wA.rs, .slice (some ⟨b2', 0, none⟩) m1.length m1.length, w11)]) (by show 70 ≤ 1000000; decide) (by kernel_rfl) (oracle_ok _ (by simpa using ⟨k9, k10⟩)) ?_
      simp (maxSteps := 2000000) only [EVS, EVL, Nat.reduceEqDiff, Nat.reduceAdd, reduceIte, XE.then, XE.out, b1, cc, a0, a1, hv20, cc9, cc10, ccA, hwA, hwB, glA, glB, zwA, zwB, rl9, rlA, rlB, oracle_skip (show (10 : FuncId) ≠ 9 by decide)]
      refine TF.seq ?_
      refine TF.seq ?_
      refine TF.reg (call := oracle []) (by show 70 ≤ 1000000; decide) (by kernel_rfl) (oracle_ok _ (by simp)) ?_
      simp (maxSteps := 2000000) only [EVS, EVL, Nat.reduceEqDiff, Nat.reduceAdd, reduceIte, XE.then, XE.out, b1, cc, a0, a1, hv20]
      refine TF.cond (t := false) rfl (by simp only [EVS]; simp) ?_
      simp (maxSteps := 2000000) only [EVS, EVL, Nat.reduceEqDiff, Nat.reduceAdd, reduceIte, XE.then, XE.out, b1, cc, a0, a1, hv20]
      refine TF.skip ?_
      try simp (maxSteps := 2000000) only [EVS, EVL, Nat.reduceEqDiff, Nat.reduceAdd, reduceIte, XE.then, XE.out, b1, cc, a0, a1, hv20]
      refine TF.seq ?_
      refine TF.seq ?_
      refine TF.reg (call := oracle []) (by show 70 ≤ 1000000; decide) (by kernel_rfl) (oracle_ok _ (by simp)) ?_
      simp (maxSteps := 2000000) only [EVS, EVL, Nat.reduceEqDiff, Nat.reduceAdd, reduceIte, XE.then, XE.out, b1, cc, a0, a1, hv20]
      refine TF.block ?_
      refine TF.loopH (fun e w => ∃ i : Nat, i ≤ m1.length ∧ e 9 = .slice la m1.length lc ∧ e 10 = .slice (some ⟨b2', 0, none⟩) m1.length m1.length ∧ e 56 = .int .i64 (m1.length : Int) ∧ e 57 = .int .i64 (i : Int) ∧ w = wB) (fun e w => m1.length - natOf (e 57)) ?_ ?_
      · exact ⟨0, Nat.zero_le _, (by simp (maxSteps := 2000000) only [EVS, EVL, Nat.reduceEqDiff, Nat.reduceAdd, reduceIte, XE.then, XE.out, b1, cc, a0, a1, hv20]), (by simp (maxSteps := 2000000) only [EVS, EVL, Nat.reduceEqDiff, Nat.reduceAdd, reduceIte, XE.then, XE.out, b1, cc, a0, a1, hv20]), (by simp (maxSteps := 2000000) only [EVS, EVL, Nat.reduceEqDiff, Nat.reduceAdd, reduceIte, XE.then, XE.out, b1, cc, a0, a1, hv20]), rfl, rfl⟩
      · rintro e w12 ⟨i, hi1', h9, h10, h56, h57, rfl⟩
        refine TF.seq ?_
        refine TF.reg (call := oracle []) (by show 70 ≤ 1000000; decide) (by kernel_rfl) (oracle_ok _ (by simp)) ?_
        simp (maxSteps := 2000000) only [EVS, EVL, Nat.reduceEqDiff, Nat.reduceAdd, reduceIte, XE.then, XE.out, h9, h10, h56, h57]
        refine TF.seq ?_
        by_cases hlt : i < m1.length
        · have hc_hlt := hlt
          refine TF.cond (t := true) rfl (by simp (maxSteps := 2000000) only [EVS, EVL, Nat.reduceEqDiff, Nat.reduceAdd, reduceIte, XE.then, XE.out, h9, h10, h56, h57, hlt]) ?_
          simp (maxSteps := 2000000) only [EVS, EVL, Nat.reduceEqDiff, Nat.reduceAdd, reduceIte, XE.then, XE.out, h9, h10, h56, h57, hlt]
          refine TF.skip ?_
          try simp (maxSteps := 2000000) only [EVS, EVL, Nat.reduceEqDiff, Nat.reduceAdd, reduceIte, XE.then, XE.out, h9, h10, h56, h57, hlt]
          refine TF.seq ?_
          refine TF.block ?_
          refine TF.seq ?_
          refine TF.reg (call := oracle []) (by show 70 ≤ 1000000; decide) (by kernel_rfl) (oracle_ok _ (by simp)) ?_
          simp (maxSteps := 2000000) only [EVS, EVL, Nat.reduceEqDiff, Nat.reduceAdd, reduceIte, XE.then, XE.out, h9, h10, h56, h57, hlt]
          refine TF.seq ?_
          have hx1 : m1[i]? = some m1[i] := List.getElem?_eq_getElem hlt
          generalize m1[i] = p at *
          obtain ⟨lb, lo, lc', e3, _, hlb, hcl⟩ := WB.rdP (hd10) hx1
          cases e3
          have hcr := row_at okB hx1
          have hpe : pEq p p = true := (pEq_iff p p).2 rfl
          refine TF.regD (call := oracle []) (by show 70 ≤ 1000000; decide) (by kernel_rfl) (oracle_ok _ (by simp)) ?_
          simp (maxSteps := 2000000) only [EVS, EVL, Nat.reduceEqDiff, Nat.reduceAdd, reduceIte, XE.then, XE.out, h9, h10, h56, h57, hlt, hcl, hcr, rlB, bin_pneq, hpe, Bool.not_true, ixV_at _ _ _ _ _ _ _ hlt]
          refine TF.cond (t := false) rfl (by simp (maxSteps := 2000000) only [EVS, EVL, Nat.reduceEqDiff, Nat.reduceAdd, reduceIte, XE.then, XE.out, h9, h10, h56, h57, hlt]) ?_
          simp (maxSteps := 2000000) only [EVS, EVL, Nat.reduceEqDiff, Nat.reduceAdd, reduceIte, XE.then, XE.out, h9, h10, h56, h57, hlt]
          refine TF.skip ?_
          try simp (maxSteps := 2000000) only [EVS, EVL, Nat.reduceEqDiff, Nat.reduceAdd, reduceIte, XE.then, XE.out, h9, h10, h56, h57, hlt]
          refine TF.reg (call := oracle []) (by show 70 ≤ 1000000; decide) (by kernel_rfl) (oracle_ok _ (by simp)) ?_
          simp (maxSteps := 2000000) only [EVS, EVL, Nat.reduceEqDiff, Nat.reduceAdd, reduceIte, XE.then, XE.out, h9, h10, h56, h57, hlt, wr1 (show i < 4611686018427387904 by omega)]
          refine ⟨⟨i + 1, by omega, (by simp (maxSteps := 2000000) only [EVS, EVL, Nat.reduceEqDiff, Nat.reduceAdd, reduceIte, XE.then, XE.out, h9, h10, h56, h57, hlt, wr1 (show i < 4611686018427387904 by omega)]), (by simp (maxSteps := 2000000) only [EVS, EVL, Nat.reduceEqDiff, Nat.reduceAdd, reduceIte, XE.then, XE.out, h9, h10, h56, h57, hlt, wr1 (show i < 4611686018427387904 by omega)]), (by simp (maxSteps := 2000000) only [EVS, EVL, Nat.reduceEqDiff, Nat.reduceAdd, reduceIte, XE.then, XE.out, h9, h10, h56, h57, hlt, wr1 (show i < 4611686018427387904 by omega)]), (by simp (maxSteps := 2000000) only [EVS, EVL, Nat.reduceEqDiff, Nat.reduceAdd, reduceIte, XE.then, XE.out, h9, h10, h56, h57, hlt, wr1 (show i < 4611686018427387904 by omega)]), rfl⟩, ?_⟩
          simp only [EVS, h57, wr1 (show i < 4611686018427387904 by omega), Nat.reduceEqDiff, if_true, if_false, reduceIte]; omega
        · have hc_hlt := hlt
          refine TF.cond (t := false) rfl (by simp (maxSteps := 2000000) only [EVS, EVL, Nat.reduceEqDiff, Nat.reduceAdd, reduceIte, XE.then, XE.out, h9, h10, h56, h57, hlt]) ?_
          simp (maxSteps := 2000000) only [EVS, EVL, Nat.reduceEqDiff, Nat.reduceAdd, reduceIte, XE.then, XE.out, h9, h10, h56, h57, hlt]
          refine TF.exit ?_
          simp (maxSteps := 2000000) only [EVS, EVL, Nat.reduceEqDiff, Nat.reduceAdd, reduceIte, XE.then, XE.out, h9, h10, h56, h57, hlt]
          refine TF.seq ?_
          refine TF.reg (call := oracle []) (by show 70 ≤ 1000000; decide) (by kernel_rfl) (oracle_ok _ (by simp)) ?_
          simp (maxSteps := 2000000) only [EVS, EVL, Nat.reduceEqDiff, Nat.reduceAdd, reduceIte, XE.then, XE.out, h9, h10, h56, h57, hlt]
          refine TF.ret ?_
          try simp (maxSteps := 2000000) only [EVS, EVL, Nat.reduceEqDiff, Nat.reduceAdd, reduceIte, XE.then, XE.out, h9, h10, h56, h57, hlt]
          exact g15.trans (g59.trans (gA.trans gB))
  · have hc_hF := hF
    rw [Bool.not_eq_true] at hF
    subst hF
    refine TF.reg (call := oracle [(4, ⟨[]⟩, w1, .bool true, w1), (5, ⟨[.agg ⟨[ucol, u, uab]⟩, .int .i64 8, .int .i64 60]⟩, w1, .bool false, w2)]) (by show 70 ≤ 1000000; decide) (by kernel_rfl) (oracle_ok _ (by simpa using ⟨k4, k5⟩)) ?_
    simp (maxSteps := 2000000) only [EVS, EVL, Nat.reduceEqDiff, Nat.reduceAdd, reduceIte, XE.then, XE.out, b1, cc, a0, a1, res_not, isBl_bool, notV_bool, Bool.not_true, Bool.not_false, oracle_skip (show (5 : FuncId) ≠ 4 by decide)]
    refine TF.cond (t := true) rfl (by simp (maxSteps := 2000000) only [EVS, EVL, Nat.reduceEqDiff, Nat.reduceAdd, reduceIte, XE.then, XE.out, b1, cc, a0, a1]) ?_
    simp (maxSteps := 2000000) only [EVS, EVL, Nat.reduceEqDiff, Nat.reduceAdd, reduceIte, XE.then, XE.out, b1, cc, a0, a1]
    refine TF.seq ?_
    refine TF.reg (call := oracle [(4, ⟨[]⟩, w2, .bool true, w2)]) (by show 70 ≤ 1000000; decide) (by kernel_rfl) (oracle_ok _ (by simpa using k4')) ?_
    simp (maxSteps := 2000000) only [EVS, EVL, Nat.reduceEqDiff, Nat.reduceAdd, reduceIte, XE.then, XE.out, b1, cc, a0, a1]
    refine TF.ret ?_
    try simp (maxSteps := 2000000) only [EVS, EVL, Nat.reduceEqDiff, Nat.reduceAdd, reduceIte, XE.then, XE.out, b1, cc, a0, a1]
    exact g1.trans g2

end Go.Proofs.YtkjbbbjebidniaaGreatDoor
