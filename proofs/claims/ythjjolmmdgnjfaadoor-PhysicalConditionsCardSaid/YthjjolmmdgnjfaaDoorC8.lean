/- The law 'PhysicalConditions' returns true, given that 'awake' does. -/
import Derived.Test.YthjjolmmdgnjfaaDoorC6
namespace Go.Proofs.YthjjolmmdgnjfaaDoor
open Go.RowKit Go.Proofs.YthjjolmmdgnjfaaDoorW.PrintWords PPhysicalConditions
set_option linter.unusedVariables false
def AwakeOk : Prop := ∀ w : World, Mir w → Calls Tryd.prog 5 #[] w fun e w' => e = .returned (.bool true) ∧ Below w.heap.size w w'
set_option maxRecDepth 100000 in
set_option maxHeartbeats 4000000 in
theorem law_of_awake (hA : AwakeOk) (x : S26) (A : Option Addr) (c : Nat) (left id : Int) (nm : ByteArray) (cols : List Int) (Ad : Option Addr) (cd : Nat) (P : Nat → Prop) (w : World) (hok : okT x) (hM : Mir w) (hc : x.f4.length ≤ c) (hF : Kd.F k26 w P A x.f4.length x.f4) (hD : Kd.C (Kd.int .i64) w Ad cols.length cols) :
    Calls Tryd.prog 3 #[Ag x A c, .int .i64 left, .agg #[.int .i64 id, .string nm, .slice Ad cols.length cd]] w fun e w' => e = .returned (.bool true) ∧ Below w.heap.size w w' := by
  have HA := Aside0.mk hA
  have HF := Aside0.mk hF
  have HC := Aside0.mk hc
  have HM := Aside0.mk (And.intro hok hM)
  have HD := Aside0.mk hD
  clear hA hF hc hD hok hM
  go_enter Tryd.func3, Tryd.ntmps3
  go_upto_region 1 with (fail)
  have HB0 := Aside0.mk (below_alloc (below_alloc (Below.refl w.heap.size w) (.cells (Cs x A c) 26)) (.cells #[.int .i64 id, .string nm, .slice Ad cols.length cd] 29))
  have HX0 := Aside0.mk (blk_alloc (blk_new w (.cells (Cs x A c) 26)) (.cells #[.int .i64 id, .string nm, .slice Ad cols.length cd] 29))
  have HY0 := Aside0.mk (show ((w.alloc (.cells (Cs x A c) 26)).alloc (.cells #[.int .i64 id, .string nm, .slice Ad cols.length cd] 29)).heap[w.heap.size + 1]? = some (.cells #[.int .i64 id, .string nm, .slice Ad cols.length cd] 29 (0, 0)) by
    have := blk_new (w.alloc (.cells (Cs x A c) 26)) (.cells #[.int .i64 id, .string nm, .slice Ad cols.length cd] 29)
    rwa [World.size_alloc] at this)
  obtain ⟨W0, hW0⟩ : ∃ W0 : World, (w.alloc (.cells (Cs x A c) 26)).alloc (.cells #[.int .i64 id, .string nm, .slice Ad cols.length cd] 29) = W0 := ⟨_, rfl⟩
  rw [hW0] at HB0 HX0 HY0 ⊢
  clear hW0
  obtain ⟨a0, a1, a2, a3, a4, a5, a6⟩ := box7 HX0.out
  go_wp2_with fail
  refine (few_calls (sz x) x A c 30 _ (Nat.le_refl _) (by decide) (by decide) HC.out (Kd.C_below (Kd.F_now HF.out) HB0.out)).mono ?_
  rintro e w1 ⟨b, rfl, hfew, hb1⟩
  have HB1 := Aside0.mk (below_then HB0.out HB0.out.size hb1)
  have HX1 := Aside0.mk (blk_below HX0.out hb1)
  have HY1 := Aside0.mk (blk_below HY0.out hb1)
  have HM1 := Aside0.mk (HM.out.2.later HB1.out)
  have HF1 := Aside0.mk (Kd.F_below HF.out HB1.out)
  have HD1 := Aside0.mk (Kd.C_below HD.out HB1.out)
  clear hb1 a0 a1 a2 a3 a4 a5 a6 HX0 HY0 HB0
  cases b
  case false =>
    clear hfew
    go_wp2_with fail
    refine (HA.out w1 HM1.out).mono ?_
    rintro e w2 ⟨rfl, hb2⟩
    go_wp2
    go_ret
    exact ⟨rfl, below_then HB1.out HB1.out.size hb2⟩
  have HN := Aside0.mk (show sz x ≤ 30 by have := hfew rfl; omega)
  clear hfew
  obtain ⟨q0, q1, q2⟩ := box3 HY1.out
  by_cases hlen : (12 : Int) < cols.length
  · have hd : decide ((12 : Int) < cols.length) = true := decide_eq_true hlen
    clear hlen
    go_wp2_with fail
    refine (HA.out w1 HM1.out).mono ?_
    rintro e w2 ⟨rfl, hb2⟩
    go_wp2
    go_ret
    exact ⟨rfl, below_then HB1.out HB1.out.size hb2⟩
  have hd : decide ((12 : Int) < cols.length) = false := decide_eq_false hlen
  have HL := Aside0.mk (show cols.length ≤ 12 by omega)
  clear hlen
  obtain ⟨a0, a1, a2, a3, a4, a5, a6⟩ := box7 HX1.out
  go_upto_region 4 with (first | (go_at_call 6; refine (keys_calls 30 x A c left P _ HN.out (by decide) HC.out HF1.out).mono ?_; rintro e w2 ⟨A1, c1, A2, c2, A3, c3, rfl, k1, k2, l3, k3, hb2⟩) | fail)
  clear a0 a1 a2 a3 a4 a5 a6 q0 q1 q2
  obtain ⟨ls, hls⟩ : ∃ l, lsF left (conjN 30 x) = l := ⟨_, rfl⟩
  obtain ⟨rs, hrs⟩ : ∃ l, rsF left (conjN 30 x) = l := ⟨_, rfl⟩
  obtain ⟨re, hre⟩ : ∃ l, andL (restF left (conjN 30 x)) = l := ⟨_, rfl⟩
  rw [hls] at k1 ⊢
  rw [hrs] at k2 ⊢
  rw [hre] at l3 k3 ⊢
  have HH := Aside0.mk (And.intro hls (And.intro hrs hre))
  clear hls hrs hre
  have hba := below_alloc (Below.refl w2.heap.size w2) (.cells (Cs re A3 c3) 26)
  have HB2 := Aside0.mk (below_then (below_then HB1.out HB1.out.size hb2) (Nat.le_trans HB1.out.size hb2.size) hba)
  have HX2 := Aside0.mk (blk_below (blk_below HX1.out hb2) hba)
  have HY2 := Aside0.mk (blk_below (blk_below HY1.out hb2) hba)
  have HZ2 := Aside0.mk (blk_new w2 (.cells (Cs re A3 c3) 26))
  have HK2 := Aside0.mk (And.intro (Kd.C_below k1 hba) (And.intro (Kd.C_below k2 hba) (And.intro l3 (Kd.C_below k3 hba))))
  have HF2 := Aside0.mk (Kd.F_below (Kd.F_below HF1.out hb2) hba)
  obtain ⟨W2, hW2⟩ : ∃ W2 : World, w2.alloc (.cells (Cs re A3 c3) 26) = W2 := ⟨_, rfl⟩
  rw [hW2] at HB2 HX2 HY2 HZ2 HK2 HF2 ⊢
  clear hW2 hba k1 k2 k3 l3 hb2
  obtain ⟨a0, a1, a2, a3, a4, a5, a6⟩ := box7 HX2.out
  go_upto_region 5 with (first | (go_at_call 7; refine (rkeys_calls 30 x A c left P _ HN.out (by decide) HC.out HF2.out).mono ?_; rintro e w3 ⟨D1, e1, D2, e2, D3, e3, rfl, k1, k2, l3, k3, hb3⟩; rw [HH.out.1] at k1 ⊢; rw [HH.out.2.1] at k2 ⊢; rw [HH.out.2.2] at l3 k3 ⊢) | fail)
  clear a0 a1 a2 a3 a4 a5 a6
  have hba := below_alloc (Below.refl w3.heap.size w3) (.cells (Cs re D3 e3) 26)
  have HB3 := Aside0.mk (below_then (below_then HB2.out HB2.out.size hb3) (Nat.le_trans HB2.out.size hb3.size) hba)
  have HX3 := Aside0.mk (blk_below (blk_below HX2.out hb3) hba)
  have HY3 := Aside0.mk (blk_below (blk_below HY2.out hb3) hba)
  have HZ3 := Aside0.mk (And.intro (blk_below (blk_below HZ2.out hb3) hba) (blk_new w3 (.cells (Cs re D3 e3) 26)))
  have HK3 := Aside0.mk (And.intro (Kd.C_below (Kd.C_below HK2.out.1 hb3) hba) (And.intro (Kd.C_below (Kd.C_below HK2.out.2.1 hb3) hba) (And.intro HK2.out.2.2.1 (Kd.C_below (Kd.C_below HK2.out.2.2.2 hb3) hba))))
  have HJ3 := Aside0.mk (And.intro (Kd.C_below k1 hba) (And.intro (Kd.C_below k2 hba) (And.intro l3 (Kd.C_below k3 hba))))
  have HF3 := Aside0.mk (Kd.F_below (Kd.F_below HF2.out hb3) hba)
  have HM3 := Aside0.mk (HM.out.2.later HB3.out)
  have HD3 := Aside0.mk (Kd.C_below HD.out HB3.out)
  obtain ⟨W3, hW3⟩ : ∃ W3 : World, w3.alloc (.cells (Cs re D3 e3) 26) = W3 := ⟨_, rfl⟩
  rw [hW3] at HB3 HX3 HY3 HZ3 HK3 HJ3 HF3 HM3 HD3 ⊢
  clear hW3 hba k1 k2 k3 l3 hb3 HX2 HY2 HZ2 HK2 HF2
  obtain ⟨a0, a1, a2, a3, a4, a5, a6⟩ := box7 HX3.out
  obtain ⟨q0, q1, q2⟩ := box3 HY3.out
  go_upto_region 6 with (first | (go_at_call 8; refine (bounds_calls 30 x A c id nm cols Ad cd P _ HN.out (by decide) HM.out.1 HM3.out HC.out HF3.out HD3.out HL.out).mono ?_; rintro e w4 ⟨G1, g1, G2, g2, rfl, m1, m2, hb4⟩) | fail)
  clear a0 a1 a2 a3 a4 a5 a6 q0 q1 q2
  obtain ⟨bs, hbs⟩ : ∃ b, bndA (findP ((conjN 30 x).filterMap cmpF)) cols [] [] = b := ⟨_, rfl⟩
  have HH2 := Aside0.mk (show bndA (firstF (conjN 30 x)) cols [] [] = bs by rw [bounds_same, hbs])
  rw [hbs] at m1 m2 ⊢
  clear hbs
  have HB4 := Aside0.mk (below_then HB3.out HB3.out.size hb4)
  have HX4 := Aside0.mk (blk_below HX3.out hb4)
  have HY4 := Aside0.mk (blk_below HY3.out hb4)
  have HF4 := Aside0.mk (Kd.F_below HF3.out hb4)
  have HD4 := Aside0.mk (Kd.C_below HD3.out hb4)
  have HE4 := Aside0.mk (And.intro m1 m2)
  have HW4 := Aside0.mk hb4
  clear m1 m2 hb4
  obtain ⟨a0, a1, a2, a3, a4, a5, a6⟩ := box7 HX4.out
  obtain ⟨q0, q1, q2⟩ := box3 HY4.out
  go_upto_region 7 with (first | (go_at_call 9; refine (rbounds_calls 30 x A c id nm cols Ad cd P _ HN.out (by decide) HC.out HF4.out HD4.out HL.out).mono ?_; rintro e w5 ⟨L1, l1, L2, l2, rfl, m1, m2, hb5⟩; rw [HH2.out] at m1 m2 ⊢) | fail)
  clear a0 a1 a2 a3 a4 a5 a6 q0 q1 q2
  have HB5 := Aside0.mk (below_then HB4.out HB4.out.size hb5)
  have HZ5 := Aside0.mk (And.intro (blk_below (blk_below HZ3.out.1 HW4.out) hb5) (blk_below (blk_below HZ3.out.2 HW4.out) hb5))
  have HK5 := Aside0.mk (And.intro (Kd.C_below (Kd.C_below HK3.out.1 HW4.out) hb5) (And.intro (Kd.C_below (Kd.C_below HK3.out.2.1 HW4.out) hb5) (Kd.C_below (Kd.C_below HK3.out.2.2.2 HW4.out) hb5)))
  have HJ5 := Aside0.mk (And.intro (Kd.C_below (Kd.C_below HJ3.out.1 HW4.out) hb5) (And.intro (Kd.C_below (Kd.C_below HJ3.out.2.1 HW4.out) hb5) (Kd.C_below (Kd.C_below HJ3.out.2.2.2 HW4.out) hb5)))
  have HE5 := Aside0.mk (And.intro (Kd.C_below HE4.out.1 hb5) (Kd.C_below HE4.out.2 hb5))
  have HL5 := Aside0.mk (And.intro m1 m2)
  clear m1 m2 hb5 HX3 HY3 HZ3 HX4 HY4 HF4 HD4 HF3 HD3 HE4 HW4
  have HM5 := Aside0.mk (HM.out.2.later HB5.out)
  have heq : eqS re re = true := eqS_true.2 rfl
  obtain ⟨okb, hokb⟩ : ∃ b : Bool, decide (0 < bs.fst.length + bs.snd.length) = b := ⟨_, rfl⟩
  rw [hokb]
  clear hokb
  have hoo : (okb == okb) = true := by cases okb <;> rfl
  go_wp2_with (first
    | (go_at_call 10; (with_reducible refine (sameints_calls ls A1 D1 c1 e1 _ HK5.out.1 HJ5.out.1).mono ?_); rintro e w6 ⟨rfl, hb6⟩)
    | (go_at_call 10; (with_reducible refine (sameints_calls rs A2 D2 c2 e2 _ (Kd.C_below HK5.out.2.1 hb6) (Kd.C_below HJ5.out.2.1 hb6)).mono ?_); rintro e w7 ⟨rfl, hb7⟩; have hb67 := below_then hb6 hb6.size hb7; obtain ⟨a0, a1, a2, a3, a4, a5, a6⟩ := box7 (blk_below HZ5.out.1 hb67); obtain ⟨b0, b1, b2, b3, b4, b5, b6⟩ := box7 (blk_below HZ5.out.2 hb67))
    | (go_at_call 11; refine (requal_calls (sz re) re re A3 D3 c3 e3 _ (Nat.le_refl _) HK3.out.2.2.1 HJ3.out.2.2.1 (Kd.C_below HK5.out.2.2 hb67) (Kd.C_below HJ5.out.2.2 hb67)).mono ?_; rintro e w8 ⟨rfl, hb8⟩; rw [heq]; clear a0 a1 a2 a3 a4 a5 a6 b0 b1 b2 b3 b4 b5 b6; have hb68 := below_then hb67 hb67.size hb8)
    | (go_at_call 12; (with_reducible refine (same_self bs.1 G1 L1 g1 l1 _ (Kd.C_below HE5.out.1 hb68) (Kd.C_below HL5.out.1 hb68)).mono ?_); rintro e w9 ⟨rfl, hb9⟩; have hb69 := below_then hb68 hb68.size hb9)
    | (go_at_call 12; (with_reducible refine (same_self bs.2 G2 L2 g2 l2 _ (Kd.C_below HE5.out.2 hb69) (Kd.C_below HL5.out.2 hb69)).mono ?_); rintro e w10 ⟨rfl, hb10⟩; have hb70 := below_then hb69 hb69.size hb10)
    | (go_at_call 5; refine (HA.out _ (HM5.out.later hb70)).mono ?_; rintro e w11 ⟨rfl, hb11⟩)
    | fail)
  go_ret
  exact ⟨rfl, below_then (below_then HB5.out HB5.out.size hb70) (Nat.le_trans HB5.out.size hb70.size) hb11⟩
end Go.Proofs.YthjjolmmdgnjfaaDoor
