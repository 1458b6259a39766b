/- The reference's 'count' and 'Few': where 'Few' says yes the tree has at most so many nodes. -/
import Derived.Test.YthjjolmmdgnjfaaDoorA1
namespace Go.Proofs.YthjjolmmdgnjfaaDoor
open Go.RowKit Go.Proofs.YthjjolmmdgnjfaaDoorW.PrintWords PPhysicalConditions
set_option linter.unusedVariables false

theorem szs_append (a b : List S26) : sz.szs (a ++ b) = sz.szs a + sz.szs b := by
  induction a with
  | nil => simp [sz.szs]
  | cons x r ih => simp [sz.szs, ih, Nat.add_assoc]
theorem szs_take {xs : List S26} {i : Int} (h0 : 0 ≤ i) (h1 : i < xs.length) : sz.szs (xs.take (i.toNat + 1)) = sz.szs (xs.take i.toNat) + sz (rd_T26 xs i) := by
  rw [take_rd h0 h1, szs_append]
  simp [sz.szs]
theorem szs_take_le (xs : List S26) (k : Nat) : sz.szs (xs.take k) ≤ sz.szs xs := by
  have := szs_append (xs.take k) (xs.drop k)
  rw [List.take_append_drop] at this
  omega
theorem sz_szs (x : S26) : sz x = sz.szs x.f4 + 1 := by cases x; simp [sz]
def cntI (m : Nat) (most : Int) : Int := if (m : Int) ≤ most then (m : Int) else most + 1
theorem sz_pos0 (x : S26) : 1 ≤ sz x := by have := sz_len x; omega
theorem cntI_bd (m : Nat) (most : Int) (h0 : 0 ≤ most) (h1 : 1 ≤ m) : 1 ≤ cntI m most ∧ cntI m most ≤ most + 1 := by unfold cntI; split <;> omega
theorem cntI_add (a b : Nat) (most : Int) (h : cntI (a + 1) most ≤ most) : cntI (a + 1) most + cntI b (most - cntI (a + 1) most) = cntI (a + b + 1) most := by
  unfold cntI at *
  split at h
  · rename_i h1
    rw [if_pos h1]
    by_cases h2 : (b : Int) ≤ most - ((a + 1 : Nat) : Int)
    · rw [if_pos h2, if_pos (by omega)]; omega
    · rw [if_neg h2, if_neg (by omega)]; omega
  · omega
theorem cntI_top (a b : Nat) (most : Int) (hab : a ≤ b) (h : ¬ cntI a most ≤ most) : cntI a most = cntI b most := by
  unfold cntI at *
  split at h
  · omega
  · rename_i h1
    rw [if_neg h1, if_neg (by omega)]
def CntOk (k : Nat) : Prop := ∀ (x : S26) (A : Option Addr) (c : Nat) (most : Int) (w : World), sz x ≤ k → 0 ≤ most → most ≤ 1000 → x.f4.length ≤ c → k26.C w A x.f4.length x.f4 →
  Calls Tryd.prog 13 #[Ag x A c, .int .i64 most] w fun e w' => e = .returned (.int .i64 (cntI (sz x) most)) ∧ Below w.heap.size w w'
theorem ret_i {a b : Int} (h : a = b) : Ending.returned (.int .i64 a) = .returned (.int .i64 b) := by rw [h]
set_option maxRecDepth 100000 in
theorem cnt_step (k : Nat) (IH : Aside0 (CntOk k)) : CntOk (k + 1) := by
  intro x A c most w hk hm0 hm1 hc hA
  have HN := Aside0.mk hk
  have hm : x.f4.length ≤ 9223372036854775807 := hA.2.1
  have HA := Aside0.mk hA
  clear hk hA
  have HB0 := Aside0.mk (below_alloc (Below.refl w.heap.size w) (.cells (Cs x A c) 26))
  have HX0 := Aside0.mk (blk_new w (.cells (Cs x A c) 26))
  go_enter Tryd.func13, Tryd.ntmps13
  go_wp2
  obtain ⟨W0, hW0⟩ : ∃ W0 : World, W0 = w.alloc (.cells (Cs x A c) 26) := ⟨_, rfl⟩
  rw [← hW0] at HB0 HX0 ⊢
  clear hW0
  go_loopg [5, 6] (x.f4.length + 1) (fun kq v5 v6 wr => ∃ n i : Int, v5 = .int .i64 n ∧ v6 = .int .i64 i ∧ Aside0 (0 ≤ i ∧ i ≤ x.f4.length ∧ kq = x.f4.length + 1 - i.toNat ∧ n = cntI (sz.szs (x.f4.take i.toNat) + 1) most) ∧ Aside0 (1 ≤ n ∧ n ≤ 1001) ∧ Aside0 (Below w.heap.size w wr) ∧ Aside0 (wr.heap[w.heap.size]? = some (.cells (Cs x A c) 26 (0, 0))))
  case atStart => exact ⟨1, 0, rfl, rfl, ⟨by omega, by omega, by omega, by simp [sz.szs, cntI]; omega⟩, ⟨by omega, by omega⟩, HB0, HX0⟩
  case round =>
    clear HB0 HX0
    obtain ⟨n, i, rfl, rfl, HI, HJ, HB, HX⟩ := hrel
    obtain ⟨i0, i1, i2, i3⟩ := HI.out
    obtain ⟨j0, j1⟩ := HJ.out
    obtain ⟨a0, a1, a2, a3, a4, a5, a6⟩ := box7 HX.out
    by_cases hlt : i < x.f4.length
    · have hb0 : decide (i < (x.f4.length : Int)) = true := decide_eq_true hlt
      by_cases hn : n ≤ most
      · obtain ⟨ad, A6, c6, e, x0, x1, x2, x3, x4, x5, x6, l6, g6⟩ := at26 HB.out HA.out i i0 hlt
        subst e
        have HM := Aside0.mk (And.intro (rd_mem i0 hlt) (szs_take i0 hlt))
        have HK := Aside0.mk (And.intro l6 g6)
        have HE := Aside0.mk i3
        clear l6 g6 i1 i2 i3
        replace hlt := eq_true hlt
        replace i0 := eq_true i0
        go_wp2_with fail
        refine (IH.out (rd_T26 x.f4 i) A6 c6 (most - n) _ (by have := sz_mem HM.out.1; have := HN.out; omega) (by omega) (by omega) HK.out.1 (Kd.C_below HK.out.2 HB.out)).mono ?_
        rintro e w' ⟨rfl, hb⟩
        have HB2 := Aside0.mk (below_then HB.out HB.out.size hb)
        have HX2 := Aside0.mk (blk_below HX.out hb)
        clear hb
        obtain ⟨r, hr⟩ : ∃ r, r = cntI (sz (rd_T26 x.f4 i)) (most - n) := ⟨_, rfl⟩
        have hrb := cntI_bd (sz (rd_T26 x.f4 i)) (most - n) (by omega) (sz_pos0 _)
        rw [← hr] at hrb ⊢
        have HR := Aside0.mk (show n + r = cntI (sz.szs (x.f4.take (i.toNat + 1)) + 1) most by
          rw [HM.out.2, hr, HE.out]
          rw [HE.out] at hn
          exact cntI_add _ _ _ hn)
        clear hr
        obtain ⟨r0, r1⟩ := hrb
        go_wp2
        have i0' := of_eq_true i0
        have hlt' := of_eq_true hlt
        go_roundg (x.f4.length + 1 - (i + 1).toNat)
        case measure => have := HI.out.2.2.1; omega
        case rel => exact ⟨n + r, i + 1, rfl, congrArg (Value.int .i64) (wrap_succ i0' hlt' hm), ⟨by omega, by omega, rfl, by rw [succ_toNat i0', HR.out]⟩, ⟨by omega, by omega⟩, HB2, HX2⟩
      · have HV := Aside0.mk (show n = cntI (sz x) most by
          rw [i3] at hn ⊢
          rw [sz_szs]
          exact cntI_top _ _ _ (Nat.succ_le_succ (szs_take_le _ _)) hn)
        clear i3 i2 i1 HI
        replace hlt := eq_true hlt
        go_wp2
        go_ret
        exact ⟨ret_i HV.out, HB.out⟩
    · have hb0 : decide (i < (x.f4.length : Int)) = false := decide_eq_false hlt
      have HV := Aside0.mk (show n = cntI (sz x) most by
        have e : i.toNat = x.f4.length := by omega
        rw [i3, sz_szs, e, List.take_length])
      clear i0 i1 i2 i3 hlt HI
      go_wp2
      go_ret
      exact ⟨ret_i HV.out, HB.out⟩
theorem cnt_calls : ∀ k, CntOk k
  | 0 => fun x A c most w hn => by have := sz_pos0 x; omega
  | k + 1 => cnt_step k ⟨cnt_calls k⟩
def FewPost (most : Int) (x : S26) (w : World) (e : Ending) (w' : World) : Prop := ∃ b : Bool, e = .returned (.bool b) ∧ (b = true → (sz x : Int) ≤ most) ∧ Below w.heap.size w w'
def FewOk (k : Nat) : Prop := ∀ (x : S26) (A : Option Addr) (c : Nat) (most : Int) (w : World), sz x ≤ k → 0 ≤ most → most ≤ 1000 → x.f4.length ≤ c → k26.C w A x.f4.length x.f4 →
  Calls Tryd.prog 4 #[Ag x A c, .int .i64 most] w (FewPost most x w)
set_option maxRecDepth 100000 in
theorem few_step (k : Nat) (IH : Aside0 (FewOk k)) : FewOk (k + 1) := by
  intro x A c most w hk hm0 hm1 hc hA
  have HN := Aside0.mk hk
  have hm : x.f4.length ≤ 9223372036854775807 := hA.2.1
  have HA := Aside0.mk hA
  clear hk hA
  have HB0 := Aside0.mk (below_alloc (Below.refl w.heap.size w) (.cells (Cs x A c) 26))
  have HX0 := Aside0.mk (blk_new w (.cells (Cs x A c) 26))
  go_enter Tryd.func4, Tryd.ntmps4
  go_wp2_with fail
  obtain ⟨W0, hW0⟩ : ∃ W0 : World, W0 = w.alloc (.cells (Cs x A c) 26) := ⟨_, rfl⟩
  have hW1 : w.alloc (.cells (Cs x A c) 26) = W0 := hW0.symm
  rw [hW1] at HB0 HX0
  refine (cnt_calls (k + 1) x A c most _ HN.out hm0 hm1 hc (Kd.C_below HA.out (below_alloc (Below.refl _ _) _))).mono ?_
  rintro e w' ⟨rfl, hb⟩
  rw [hW1] at hb
  clear hW0 hW1
  have HB := Aside0.mk (below_then HB0.out HB0.out.size hb)
  have HX := Aside0.mk (blk_below HX0.out hb)
  clear hb HB0 HX0
  obtain ⟨r, hr⟩ : ∃ r, r = cntI (sz x) most := ⟨_, rfl⟩
  rw [← hr]
  have HR := Aside0.mk hr
  clear hr
  obtain ⟨a0, a1, a2, a3, a4, a5, a6⟩ := box7 HX.out
  by_cases h1 : most < r
  · go_wp2
    go_ret
    exact ⟨false, rfl, (fun h => by cases h), HB.out⟩
  by_cases h2 : (300 : Int) < x.f2.f2.size
  · go_wp2
    go_ret
    exact ⟨false, rfl, (fun h => by cases h), HB.out⟩
  have HV := Aside0.mk (show (sz x : Int) ≤ most by
    have := HR.out
    unfold cntI at this
    split at this <;> omega)
  go_wp2
  go_loopg [5] (x.f4.length + 1) (fun kq v5 wr => ∃ i : Int, v5 = .int .i64 i ∧ Aside0 (0 ≤ i ∧ i ≤ x.f4.length ∧ kq = x.f4.length + 1 - i.toNat) ∧ Aside0 (Below w.heap.size w wr) ∧ Aside0 (wr.heap[w.heap.size]? = some (.cells (Cs x A c) 26 (0, 0))))
  case atStart => exact ⟨0, rfl, ⟨by omega, by omega, by omega⟩, HB, HX⟩
  case round =>
    clear HB HX a0 a1 a2 a3 a4 a5 a6
    obtain ⟨i, rfl, HI, HB, HX⟩ := hrel
    obtain ⟨i0, i1, i2⟩ := HI.out
    obtain ⟨a0, a1, a2, a3, a4, a5, a6⟩ := box7 HX.out
    by_cases hlt : i < x.f4.length
    · have hb0 : decide (i < (x.f4.length : Int)) = true := decide_eq_true hlt
      obtain ⟨ad, A6, c6, e, x0, x1, x2, x3, x4, x5, x6, l6, g6⟩ := at26 HB.out HA.out i i0 hlt
      subst e
      have HM := Aside0.mk (rd_mem i0 hlt)
      have HK := Aside0.mk (And.intro l6 g6)
      clear l6 g6 i1 i2
      replace hlt := eq_true hlt
      replace i0 := eq_true i0
      go_wp2_with fail
      refine (IH.out (rd_T26 x.f4 i) A6 c6 most _ (by have := sz_mem HM.out; have := HN.out; omega) hm0 hm1 HK.out.1 (Kd.C_below HK.out.2 HB.out)).mono ?_
      rintro e w' ⟨b, rfl, _, hb⟩
      have HB2 := Aside0.mk (below_then HB.out HB.out.size hb)
      have HX2 := Aside0.mk (blk_below HX.out hb)
      clear hb
      cases b
      · go_wp2
        go_ret
        exact ⟨false, rfl, (fun h => by cases h), HB2.out⟩
      · go_wp2
        have i0' := of_eq_true i0
        have hlt' := of_eq_true hlt
        go_roundg (x.f4.length + 1 - (i + 1).toNat)
        case measure => have := HI.out.2.2; omega
        case rel => exact ⟨i + 1, congrArg (Value.int .i64) (wrap_succ i0' hlt' hm), ⟨by omega, by omega, rfl⟩, HB2, HX2⟩
    · have hb0 : decide (i < (x.f4.length : Int)) = false := decide_eq_false hlt
      clear i0 i1 i2 hlt HI
      go_wp2
      go_ret
      exact ⟨true, rfl, (fun _ => HV.out), HB.out⟩
theorem few_calls : ∀ k, FewOk k
  | 0 => fun x A c most w hn => by have := sz_pos0 x; omega
  | k + 1 => few_step k ⟨few_calls k⟩
end Go.Proofs.YthjjolmmdgnjfaaDoor
