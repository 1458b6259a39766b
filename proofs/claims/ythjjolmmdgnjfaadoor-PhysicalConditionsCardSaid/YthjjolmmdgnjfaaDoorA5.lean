/- The comparisons of 'PhysicalConditions' on equal lists: 'SameInts' and the reference's 'Same' say yes. -/
import Derived.Test.YthjjolmmdgnjfaaDoorA3
namespace Go.Proofs.YthjjolmmdgnjfaaDoor
open Go.RowKit Go.Proofs.YthjjolmmdgnjfaaDoorW.PrintWords PPhysicalConditions
set_option linter.unusedVariables false

set_option maxRecDepth 100000 in
theorem sameints_calls (xs : List Int) (A B : Option Addr) (c d : Nat) (w : World) (hA : Kd.C (Kd.int .i64) w A xs.length xs) (hB : Kd.C (Kd.int .i64) w B xs.length xs) :
    Calls Tryd.prog 10 #[.slice A xs.length c, .slice B xs.length d] w fun e w' => e = .returned (.bool true) ∧ Below w.heap.size w w' := by
  have hm : xs.length ≤ 9223372036854775807 := hA.2.1
  have HA := Aside0.mk hA
  have HB := Aside0.mk hB
  clear hA hB
  have hl : ((xs.length : Int) != (xs.length : Int)) = false := by simp
  go_enter Tryd.func10, Tryd.ntmps10
  go_wp2
  go_loopg [5] (xs.length + 1) (fun kq v5 wr => ∃ i : Int, v5 = .int .i64 i ∧ Aside0 (0 ≤ i ∧ i ≤ xs.length ∧ kq = xs.length + 1 - i.toNat) ∧ Aside0 (Below w.heap.size w wr))
  case atStart => exact ⟨0, rfl, ⟨by omega, by omega, by omega⟩, ⟨Below.refl _ _⟩⟩
  case round =>
    obtain ⟨i, rfl, HI, HW⟩ := hrel
    obtain ⟨i0, i1, i2⟩ := HI.out
    by_cases hlt : i < xs.length
    · have hb0 : decide (i < (xs.length : Int)) = true := decide_eq_true hlt
      obtain ⟨ad, e, x0⟩ := Kd.at_int HA.out i i0 hlt
      obtain ⟨bd, f, y0⟩ := Kd.at_int HB.out i i0 hlt
      replace x0 := cell_later HW.out x0
      replace y0 := cell_later HW.out y0
      subst e
      subst f
      clear i1 i2
      replace hlt := eq_true hlt
      replace i0 := eq_true i0
      have hne : (rd xs i != rd xs i) = false := by simp
      go_wp2
      repeat (go_quiet (fail); try go_wp2)
      have i0' := of_eq_true i0
      have hlt' := of_eq_true hlt
      go_roundg (xs.length + 1 - (i + 1).toNat)
      case measure => have := HI.out.2.2; omega
      case rel => exact ⟨i + 1, congrArg (Value.int .i64) (wrap_succ i0' hlt' hm), ⟨by omega, by omega, rfl⟩, ⟨by first | exact HW.out | exact pw_below_drewN HW.out _⟩⟩
    · have hb0 : decide (i < (xs.length : Int)) = false := decide_eq_false hlt
      clear i0 i1 i2 hlt HI
      go_wp2
      go_ret
      exact ⟨rfl, HW.out⟩
theorem compare_self (x : S23) (w : World) : Calls Tryd.prog 40 #[Ag23 x, Ag23 x] w fun e w' => e = .returned (.int .i64 0) ∧ Below w.heap.size w w' := by
  have h0 : (x.f0 != x.f0) = false := by simp
  have h1 : (x.f1 != x.f1) = false := by simp
  have h2 : (x.f2.toList != x.f2.toList) = false := by simp
  go_enter Tryd.func40, Tryd.ntmps40
  go_wp2
  go_ret
  exact ⟨rfl, below_alloc (below_alloc (Below.refl _ _) _) _⟩
set_option maxRecDepth 100000 in
theorem comparerows_self (xs : List S23) (A B : Option Addr) (c d : Nat) (w : World) (hA : Kd.C k23 w A xs.length xs) (hB : Kd.C k23 w B xs.length xs) :
    Calls Tryd.prog 31 #[.slice A xs.length c, .slice B xs.length d] w fun e w' => e = .returned (.int .i64 0) ∧ Below w.heap.size w w' := by
  have hm : xs.length ≤ 9223372036854775807 := hA.2.1
  have HA := Aside0.mk hA
  have HB := Aside0.mk hB
  clear hA hB
  have hl : ((xs.length : Int) == (xs.length : Int)) = true := by simp
  go_enter Tryd.func31, Tryd.ntmps31
  go_wp2
  go_loopg [5] (xs.length + 1) (fun kq v5 wr => ∃ i : Int, v5 = .int .i64 i ∧ Aside0 (0 ≤ i ∧ i ≤ xs.length ∧ kq = xs.length + 1 - i.toNat) ∧ Aside0 (Below w.heap.size w wr))
  case atStart => exact ⟨0, rfl, ⟨by omega, by omega, by omega⟩, ⟨Below.refl _ _⟩⟩
  case round =>
    obtain ⟨i, rfl, HI, HW⟩ := hrel
    obtain ⟨i0, i1, i2⟩ := HI.out
    by_cases hlt : i < xs.length
    · have hb0 : decide (i < (xs.length : Int)) = true := decide_eq_true hlt
      obtain ⟨ad, e, x0, x1, x2⟩ := at_T23 HA.out i i0 hlt
      obtain ⟨bd, f, y0, y1, y2⟩ := at_T23 HB.out i i0 hlt
      replace x0 := cell_later HW.out x0
      replace x1 := cell_later HW.out x1
      replace x2 := cell_later HW.out x2
      replace y0 := cell_later HW.out y0
      replace y1 := cell_later HW.out y1
      replace y2 := cell_later HW.out y2
      subst e
      subst f
      clear i1 i2
      replace hlt := eq_true hlt
      replace i0 := eq_true i0
      go_wp2_with fail
      go_region_held3 (fun w' => w'.cell? (ad.add (i.toNat * 3)) = some (.int .i64 (rd_T23 xs i).f0) ∧ w'.cell? ⟨(ad.add (i.toNat * 3)).block, (ad.add (i.toNat * 3)).off + 1, none⟩ = some (.int .i64 (rd_T23 xs i).f1) ∧ w'.cell? ⟨(ad.add (i.toNat * 3)).block, (ad.add (i.toNat * 3)).off + 2, none⟩ = some (.string (rd_T23 xs i).f2) ∧ w'.cell? (bd.add (i.toNat * 3)) = some (.int .i64 (rd_T23 xs i).f0) ∧ w'.cell? ⟨(bd.add (i.toNat * 3)).block, (bd.add (i.toNat * 3)).off + 1, none⟩ = some (.int .i64 (rd_T23 xs i).f1) ∧ w'.cell? ⟨(bd.add (i.toNat * 3)).block, (bd.add (i.toNat * 3)).off + 2, none⟩ = some (.string (rd_T23 xs i).f2)) (first | exact ⟨x0, x1, x2, y0, y1, y2⟩ | exact ⟨cell_later hb x0, cell_later hb x1, cell_later hb x2, cell_later hb y0, cell_later hb y1, cell_later hb y2⟩) (first | ((go_at_call 40; refine (compare_self (rd_T23 xs i) _).mono ?_; rintro e w' ⟨rfl, hb⟩)) | fail)
      have HB2 := Aside0.mk (below_then (below_drew HW.out) (below_drew HW.out).size hb)
      clear hb
      go_wp2
      have i0' := of_eq_true i0
      have hlt' := of_eq_true hlt
      go_roundg (xs.length + 1 - (i + 1).toNat)
      case measure => have := HI.out.2.2; omega
      case rel => exact ⟨i + 1, congrArg (Value.int .i64) (wrap_succ i0' hlt' hm), ⟨by omega, by omega, rfl⟩, HB2⟩
    · have hb0 : decide (i < (xs.length : Int)) = false := decide_eq_false hlt
      clear i0 i1 i2 hlt HI
      go_wp2
      go_ret
      exact ⟨rfl, HW.out⟩
theorem same_self (xs : List S23) (A B : Option Addr) (c d : Nat) (w : World) (hA : Kd.C k23 w A xs.length xs) (hB : Kd.C k23 w B xs.length xs) :
    Calls Tryd.prog 12 #[.slice A xs.length c, .slice B xs.length d] w fun e w' => e = .returned (.bool true) ∧ Below w.heap.size w w' := by
  go_enter Tryd.func12, Tryd.ntmps12
  go_wp2_with (go_at_call 31; refine (comparerows_self xs A B c d _ hA hB).mono ?_; rintro e w' ⟨rfl, hb⟩)
  go_ret
  exact ⟨rfl, hb⟩
end Go.Proofs.YthjjolmmdgnjfaaDoor
