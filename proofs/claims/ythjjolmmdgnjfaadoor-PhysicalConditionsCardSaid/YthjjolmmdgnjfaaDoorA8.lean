/- 'keyOf' and the reference's 'key' compute one function. -/
import Derived.Test.YthjjolmmdgnjfaaDoorA7
namespace Go.Proofs.YthjjolmmdgnjfaaDoor
open Go.RowKit Go.Proofs.YthjjolmmdgnjfaaDoorW.PrintWords Go.Proofs.YthjjolmmdgnjfaaDoorW.PrintLast Go.Proofs.YthjjolmmdgnjfaaDoorW.PrintMore PPhysicalConditions
set_option linter.unusedVariables false
attribute [local go_sem] max2_int min2_int max_two min_two max_three min_three max_four min_four

def isCol (x : S26) : Bool := x.f0 == 1 && ((x.f4.length : Int) == 0)
def isCon (x : S26) : Bool := x.f0 == 0 && ((x.f4.length : Int) == 0)
def isKey (x : S26) : Bool := x.f0 == 2 && (x.f3 == 5 && ((x.f4.length : Int) == 2 && (isCol (rd_T26 x.f4 0) && isCol (rd_T26 x.f4 1))))
def keyF (x : S26) (left : Int) : Option (Int × Int) :=
  if isKey x = true ∧ 0 ≤ min (rd_T26 x.f4 0).f1 (rd_T26 x.f4 1).f1 ∧ min (rd_T26 x.f4 0).f1 (rd_T26 x.f4 1).f1 < left ∧ left ≤ max (rd_T26 x.f4 0).f1 (rd_T26 x.f4 1).f1 then some (min (rd_T26 x.f4 0).f1 (rd_T26 x.f4 1).f1, wrap64 (max (rd_T26 x.f4 0).f1 (rd_T26 x.f4 1).f1 - left)) else none
def KeyPost (x : S26) (left : Int) (w : World) (e : Ending) (w' : World) : Prop := ∃ (p q : Int) (b : Bool), e = .returned (.tuple #[.int .i64 p, .int .i64 q, .bool b]) ∧ b = (keyF x left).isSome ∧ (∀ r, keyF x left = some r → r = (p, q)) ∧ Below w.heap.size w w'
theorem keyPost_none {x : S26} {left p q : Int} {w w' : World} (h : keyF x left = none) (hb : Below w.heap.size w w') : KeyPost x left w (.returned (.tuple #[.int .i64 p, .int .i64 q, .bool false])) w' :=
  ⟨p, q, false, rfl, by rw [h]; rfl, (fun r hr => by rw [h] at hr; cases hr), hb⟩
theorem keyPost_some {x : S26} {left p q : Int} {w w' : World} (h : keyF x left = some (p, q)) (hb : Below w.heap.size w w') : KeyPost x left w (.returned (.tuple #[.int .i64 p, .int .i64 q, .bool true])) w' :=
  ⟨p, q, true, rfl, by rw [h]; rfl, (fun r hr => by rw [h] at hr; cases hr; rfl), hb⟩
theorem keyF_none {x : S26} {left : Int} (h : isKey x = false) : keyF x left = none := by unfold keyF; rw [if_neg (by simp [h])]
set_option maxRecDepth 100000 in
set_option maxHeartbeats 2000000 in
theorem keyOf_calls (x : S26) (A : Option Addr) (c : Nat) (left : Int) (P : Nat → Prop) (w : World) (hc : x.f4.length ≤ c) (hF : Kd.F k26 w P A x.f4.length x.f4) : Calls Tryd.prog 20 #[Ag x A c, .int .i64 left] w (KeyPost x left w) := by
  have HF := Aside0.mk hF
  clear hF
  cases t0 : (x.f0 == 2)
  case false =>
    have t0' : (x.f0 != 2) = true := by simpa using t0
    have HV := Aside0.mk (show keyF x left = none from keyF_none (by simp [isKey, t0]))
    go_enter Tryd.func20, Tryd.ntmps20
    go_wp2
    refine bodyPost_ret (v := .tuple #[.int .i64 0, .int .i64 0, .bool false]) (by simp [results, Tryd.results20, go_sem]) rfl ?_
    exact keyPost_none HV.out (below_alloc (Below.refl _ _) _)
  have t0' : (x.f0 != 2) = false := by simpa using t0
  cases t3 : (x.f3 == 5)
  case false =>
    have t3' : (x.f3 != 5) = true := by simpa using t3
    have HV := Aside0.mk (show keyF x left = none from keyF_none (by simp [isKey, t0, t3]))
    go_enter Tryd.func20, Tryd.ntmps20
    go_wp2
    refine bodyPost_ret (v := .tuple #[.int .i64 0, .int .i64 0, .bool false]) (by simp [results, Tryd.results20, go_sem]) rfl ?_
    exact keyPost_none HV.out (below_alloc (Below.refl _ _) _)
  have t3' : (x.f3 != 5) = false := by simpa using t3
  cases t4 : ((x.f4.length : Int) == 2)
  case false =>
    have t4' : ((x.f4.length : Int) != 2) = true := by simpa using t4
    have HV := Aside0.mk (show keyF x left = none from keyF_none (by simp [isKey, t0, t3, t4]))
    go_enter Tryd.func20, Tryd.ntmps20
    go_wp2
    refine bodyPost_ret (v := .tuple #[.int .i64 0, .int .i64 0, .bool false]) (by simp [results, Tryd.results20, go_sem]) rfl ?_
    exact keyPost_none HV.out (below_alloc (Below.refl _ _) _)
  have t4' : ((x.f4.length : Int) != 2) = false := by simpa using t4
  have HL := Aside0.mk (show (x.f4.length : Int) = 2 by simpa using t4)
  have i0 : 0 < x.f4.length := by have := HL.out; omega
  have i1 : (1 : Int) < (x.f4.length : Int) := by have := HL.out; omega
  have HB := Aside0.mk (below_alloc (Below.refl w.heap.size w) (.cells (Cs x A c) 26))
  have HX := Aside0.mk (blk_new w (.cells (Cs x A c) 26))
  have HF1 := Aside0.mk (Kd.F_alloc HF.out (.cells (Cs x A c) 26))
  have HK := Aside0.mk (show isKey x = (isCol (rd_T26 x.f4 0) && isCol (rd_T26 x.f4 1)) by simp [isKey, t0, t3, t4])
  clear t0 t3 t4
  go_enter Tryd.func20, Tryd.ntmps20
  go_upto_region 1 with (fail)
  obtain ⟨W0, hW0⟩ : ∃ W0 : World, w.alloc (.cells (Cs x A c) 26) = W0 := ⟨_, rfl⟩
  rw [hW0] at HB HX HF1 ⊢
  clear hW0
  obtain ⟨a0, a1, a2, a3, a4, a5, a6⟩ := box7 HX.out
  obtain ⟨ad, A0, c0, A1, c1, e0, ⟨x0, x1, x2, x3, x4, x5, x6⟩, ⟨y0, y1, y2, y3, y4, y5, y6⟩, ⟨l0, g0⟩, ⟨l1, g1⟩, p0⟩ := at26F01 HF1.out (by have := HL.out; omega)
  subst e0
  clear l0 g0 l1 g1 p0
  obtain ⟨u, hu⟩ : ∃ u, rd_T26 x.f4 0 = u := ⟨_, rfl⟩
  obtain ⟨v, hv⟩ : ∃ v, rd_T26 x.f4 1 = v := ⟨_, rfl⟩
  have HU := Aside0.mk (And.intro hu hv)
  rw [hu] at x0 x1 x2 x3 x4 x5 x6 HK
  rw [hv] at y0 y1 y2 y3 y4 y5 y6 HK
  clear hu hv
  cases q0 : isCol u
  case false =>
    have HV := Aside0.mk (show keyF x left = none from keyF_none (by rw [HK.out, q0]; rfl))
    go_wp2_with (first | (go_at_call 35; refine (isLeaf_calls u A0 c0 1 _).mono ?_; rintro e w' ⟨rfl, hb⟩; rw [show (u.f0 == 1 && ((u.f4.length : Int) == 0)) = false from q0]) | fail)
    refine bodyPost_ret (v := .tuple #[.int .i64 0, .int .i64 0, .bool false]) (by simp [results, Tryd.results20, go_sem]) rfl ?_
    exact keyPost_none HV.out (below_then HB.out HB.out.size hb)
  case true =>
  have q0' : (u.f0 == 1 && ((u.f4.length : Int) == 0)) = true := q0
  cases q1 : isCol v
  case false =>
    have q1' : (v.f0 == 1 && ((v.f4.length : Int) == 0)) = false := q1
    have HV := Aside0.mk (show keyF x left = none from keyF_none (by rw [HK.out, q0, q1]; rfl))
    go_wp2_with (first | (go_at_call 35; (with_reducible refine (isLeaf_calls u A0 c0 1 _).mono ?_); rintro e w1 ⟨rfl, hb1⟩; rw [q0']; replace a6 := cell_later hb1 a6; replace y0 := cell_later hb1 y0; replace y1 := cell_later hb1 y1; replace y2 := cell_later hb1 y2; replace y3 := cell_later hb1 y3; replace y4 := cell_later hb1 y4; replace y5 := cell_later hb1 y5; replace y6 := cell_later hb1 y6) | (go_at_call 35; (with_reducible refine (isLeaf_calls v A1 c1 1 _).mono ?_); rintro e w2 ⟨rfl, hb2⟩; rw [q1']) | fail)
    refine bodyPost_ret (v := .tuple #[.int .i64 0, .int .i64 0, .bool false]) (by simp [results, Tryd.results20, go_sem]) rfl ?_
    exact keyPost_none HV.out (below_then (below_then HB.out HB.out.size hb1) (Nat.le_trans HB.out.size hb1.size) hb2)
  have q1' : (v.f0 == 1 && ((v.f4.length : Int) == 0)) = true := q1
  have HK2 := Aside0.mk (show isKey x = true by rw [HK.out, q0, q1]; rfl)
  go_wp2_with (first | (go_at_call 35; (with_reducible refine (isLeaf_calls u A0 c0 1 _).mono ?_); rintro e w1 ⟨rfl, hb1⟩; rw [q0']; replace a6 := cell_later hb1 a6; replace x1 := cell_later hb1 x1; replace y0 := cell_later hb1 y0; replace y1 := cell_later hb1 y1; replace y2 := cell_later hb1 y2; replace y3 := cell_later hb1 y3; replace y4 := cell_later hb1 y4; replace y5 := cell_later hb1 y5; replace y6 := cell_later hb1 y6) | (go_at_call 35; (with_reducible refine (isLeaf_calls v A1 c1 1 _).mono ?_); rintro e w2 ⟨rfl, hb2⟩; rw [q1']; replace a6 := cell_later hb2 a6; replace x1 := cell_later hb2 x1; replace y1 := cell_later hb2 y1) | fail)
  have HB2 := Aside0.mk (below_then (below_then HB.out HB.out.size hb1) (Nat.le_trans HB.out.size hb1.size) hb2)
  clear hb1 hb2 a0 a1 a2 a3 a4 a5 x2 x3 x4 x5 y2 y3 y4 y5 y6 q0 q1 q0' q1'
  have HQ := Aside0.mk (show keyF x left = if 0 ≤ min u.f1 v.f1 ∧ min u.f1 v.f1 < left ∧ left ≤ max u.f1 v.f1 then some (min u.f1 v.f1, wrap64 (max u.f1 v.f1 - left)) else none by
    unfold keyF
    rw [HU.out.1, HU.out.2, HK2.out]
    simp)
  clear HK HK2 HU HF HF1 HX HL x0 x6 y0 t0' t3' t4' i0 hc HB
  by_cases hz : v.f1 < u.f1
  · have hy : ¬ u.f1 < v.f1 := by omega
    have e0 := eq_true hz
    have e1 := eq_false hy
    by_cases c0 : 0 ≤ v.f1
    case neg =>
      have b0 : decide (0 ≤ v.f1) = false := decide_eq_false c0
      have HV := Aside0.mk (show ¬ (0 ≤ min u.f1 v.f1 ∧ min u.f1 v.f1 < left ∧ left ≤ max u.f1 v.f1) by omega)
      clear hz hy c0
      go_quiet (fail)
      go_wp2
      refine bodyPost_ret (v := .tuple #[.int .i64 v.f1, .int .i64 (wrap64 (u.f1 - left)), .bool false]) (by simp [results, Tryd.results20, go_sem]) rfl ?_
      exact keyPost_none (by rw [HQ.out, if_neg HV.out]) (pw_below_drewN HB2.out _)
    have b0 : decide (0 ≤ v.f1) = true := decide_eq_true c0
    by_cases c1 : v.f1 < left
    case neg =>
      have b1 : decide (v.f1 < left) = false := decide_eq_false c1
      have HV := Aside0.mk (show ¬ (0 ≤ min u.f1 v.f1 ∧ min u.f1 v.f1 < left ∧ left ≤ max u.f1 v.f1) by omega)
      clear hz hy c0 c1
      go_quiet (fail)
      go_wp2
      refine bodyPost_ret (v := .tuple #[.int .i64 v.f1, .int .i64 (wrap64 (u.f1 - left)), .bool false]) (by simp [results, Tryd.results20, go_sem]) rfl ?_
      exact keyPost_none (by rw [HQ.out, if_neg HV.out]) (pw_below_drewN HB2.out _)
    have b1 : decide (v.f1 < left) = true := decide_eq_true c1
    by_cases c2 : left ≤ u.f1
    case neg =>
      have b2 : decide (left ≤ u.f1) = false := decide_eq_false c2
      have HV := Aside0.mk (show ¬ (0 ≤ min u.f1 v.f1 ∧ min u.f1 v.f1 < left ∧ left ≤ max u.f1 v.f1) by omega)
      clear hz hy c0 c1 c2
      go_quiet (fail)
      go_wp2
      refine bodyPost_ret (v := .tuple #[.int .i64 v.f1, .int .i64 (wrap64 (u.f1 - left)), .bool false]) (by simp [results, Tryd.results20, go_sem]) rfl ?_
      exact keyPost_none (by rw [HQ.out, if_neg HV.out]) (pw_below_drewN HB2.out _)
    have b2 : decide (left ≤ u.f1) = true := decide_eq_true c2
    have HV := Aside0.mk (show (0 ≤ min u.f1 v.f1 ∧ min u.f1 v.f1 < left ∧ left ≤ max u.f1 v.f1) ∧ min u.f1 v.f1 = v.f1 ∧ max u.f1 v.f1 = u.f1 by omega)
    clear hz hy c0 c1 c2
    go_quiet (fail)
    go_wp2
    refine bodyPost_ret (v := .tuple #[.int .i64 v.f1, .int .i64 (wrap64 (u.f1 - left)), .bool true]) (by simp [results, Tryd.results20, go_sem]) rfl ?_
    exact keyPost_some (by rw [HQ.out, if_pos HV.out.1, HV.out.2.1, HV.out.2.2]) (pw_below_drewN HB2.out _)
  have e0 := eq_false hz
  by_cases hy : u.f1 < v.f1
  · have e1 := eq_true hy
    by_cases c0 : 0 ≤ u.f1
    case neg =>
      have b0 : decide (0 ≤ u.f1) = false := decide_eq_false c0
      have HV := Aside0.mk (show ¬ (0 ≤ min u.f1 v.f1 ∧ min u.f1 v.f1 < left ∧ left ≤ max u.f1 v.f1) by omega)
      clear hz hy c0
      go_quiet (fail)
      go_wp2
      refine bodyPost_ret (v := .tuple #[.int .i64 u.f1, .int .i64 (wrap64 (v.f1 - left)), .bool false]) (by simp [results, Tryd.results20, go_sem]) rfl ?_
      exact keyPost_none (by rw [HQ.out, if_neg HV.out]) (pw_below_drewN HB2.out _)
    have b0 : decide (0 ≤ u.f1) = true := decide_eq_true c0
    by_cases c1 : u.f1 < left
    case neg =>
      have b1 : decide (u.f1 < left) = false := decide_eq_false c1
      have HV := Aside0.mk (show ¬ (0 ≤ min u.f1 v.f1 ∧ min u.f1 v.f1 < left ∧ left ≤ max u.f1 v.f1) by omega)
      clear hz hy c0 c1
      go_quiet (fail)
      go_wp2
      refine bodyPost_ret (v := .tuple #[.int .i64 u.f1, .int .i64 (wrap64 (v.f1 - left)), .bool false]) (by simp [results, Tryd.results20, go_sem]) rfl ?_
      exact keyPost_none (by rw [HQ.out, if_neg HV.out]) (pw_below_drewN HB2.out _)
    have b1 : decide (u.f1 < left) = true := decide_eq_true c1
    by_cases c2 : left ≤ v.f1
    case neg =>
      have b2 : decide (left ≤ v.f1) = false := decide_eq_false c2
      have HV := Aside0.mk (show ¬ (0 ≤ min u.f1 v.f1 ∧ min u.f1 v.f1 < left ∧ left ≤ max u.f1 v.f1) by omega)
      clear hz hy c0 c1 c2
      go_quiet (fail)
      go_wp2
      refine bodyPost_ret (v := .tuple #[.int .i64 u.f1, .int .i64 (wrap64 (v.f1 - left)), .bool false]) (by simp [results, Tryd.results20, go_sem]) rfl ?_
      exact keyPost_none (by rw [HQ.out, if_neg HV.out]) (pw_below_drewN HB2.out _)
    have b2 : decide (left ≤ v.f1) = true := decide_eq_true c2
    have HV := Aside0.mk (show (0 ≤ min u.f1 v.f1 ∧ min u.f1 v.f1 < left ∧ left ≤ max u.f1 v.f1) ∧ min u.f1 v.f1 = u.f1 ∧ max u.f1 v.f1 = v.f1 by omega)
    clear hz hy c0 c1 c2
    go_quiet (fail)
    go_wp2
    refine bodyPost_ret (v := .tuple #[.int .i64 u.f1, .int .i64 (wrap64 (v.f1 - left)), .bool true]) (by simp [results, Tryd.results20, go_sem]) rfl ?_
    exact keyPost_some (by rw [HQ.out, if_pos HV.out.1, HV.out.2.1, HV.out.2.2]) (pw_below_drewN HB2.out _)
  have e1 := eq_false hy
  by_cases c0 : 0 ≤ u.f1
  case neg =>
    have b0 : decide (0 ≤ u.f1) = false := decide_eq_false c0
    have HV := Aside0.mk (show ¬ (0 ≤ min u.f1 v.f1 ∧ min u.f1 v.f1 < left ∧ left ≤ max u.f1 v.f1) by omega)
    clear hz hy c0
    go_quiet (fail)
    go_wp2
    refine bodyPost_ret (v := .tuple #[.int .i64 u.f1, .int .i64 (wrap64 (u.f1 - left)), .bool false]) (by simp [results, Tryd.results20, go_sem]) rfl ?_
    exact keyPost_none (by rw [HQ.out, if_neg HV.out]) (pw_below_drewN HB2.out _)
  have b0 : decide (0 ≤ u.f1) = true := decide_eq_true c0
  by_cases c1 : u.f1 < left
  case neg =>
    have b1 : decide (u.f1 < left) = false := decide_eq_false c1
    have HV := Aside0.mk (show ¬ (0 ≤ min u.f1 v.f1 ∧ min u.f1 v.f1 < left ∧ left ≤ max u.f1 v.f1) by omega)
    clear hz hy c0 c1
    go_quiet (fail)
    go_wp2
    refine bodyPost_ret (v := .tuple #[.int .i64 u.f1, .int .i64 (wrap64 (u.f1 - left)), .bool false]) (by simp [results, Tryd.results20, go_sem]) rfl ?_
    exact keyPost_none (by rw [HQ.out, if_neg HV.out]) (pw_below_drewN HB2.out _)
  have b1 : decide (u.f1 < left) = true := decide_eq_true c1
  by_cases c2 : left ≤ u.f1
  case neg =>
    have b2 : decide (left ≤ u.f1) = false := decide_eq_false c2
    have HV := Aside0.mk (show ¬ (0 ≤ min u.f1 v.f1 ∧ min u.f1 v.f1 < left ∧ left ≤ max u.f1 v.f1) by omega)
    clear hz hy c0 c1 c2
    go_quiet (fail)
    go_wp2
    refine bodyPost_ret (v := .tuple #[.int .i64 u.f1, .int .i64 (wrap64 (u.f1 - left)), .bool false]) (by simp [results, Tryd.results20, go_sem]) rfl ?_
    exact keyPost_none (by rw [HQ.out, if_neg HV.out]) (pw_below_drewN HB2.out _)
  have b2 : decide (left ≤ u.f1) = true := decide_eq_true c2
  have HV := Aside0.mk (show (0 ≤ min u.f1 v.f1 ∧ min u.f1 v.f1 < left ∧ left ≤ max u.f1 v.f1) ∧ min u.f1 v.f1 = u.f1 ∧ max u.f1 v.f1 = u.f1 by omega)
  clear hz hy c0 c1 c2
  go_quiet (fail)
  go_wp2
  refine bodyPost_ret (v := .tuple #[.int .i64 u.f1, .int .i64 (wrap64 (u.f1 - left)), .bool true]) (by simp [results, Tryd.results20, go_sem]) rfl ?_
  exact keyPost_some (by rw [HQ.out, if_pos HV.out.1, HV.out.2.1, HV.out.2.2]) (pw_below_drewN HB2.out _)
end Go.Proofs.YthjjolmmdgnjfaaDoor
