/- The small functions that 'PhysicalConditions' reaches, and equality of trees: 'scalar.Equal' through 'slices.EqualFunc', and the reference's 'Equal'. -/
import Derived.Test.YthjjolmmdgnjfaaDoorA0
import Derived.Test.YthjjolmmdgnjfaaDoorPPhysicalConditionsx1
namespace Go.Proofs.YthjjolmmdgnjfaaDoor
open Go.RowKit Go.Proofs.YthjjolmmdgnjfaaDoorW.PrintWords PPhysicalConditions
set_option linter.unusedVariables false
theorem truth_true (w : World) : Calls Tryd.prog 33 #[.bool true] w fun e w' => e = .returned (.agg #[.int .i64 2, .int .i64 1, .string ⟨#[]⟩]) ∧ (w.alloc (.cells #[.int .i64 2, .int .i64 1, .string ⟨#[]⟩] 23)).alloc (.cells #[.int .i64 2, .int .i64 1, .string ⟨#[]⟩] 23) = w' := by
  go_enter Tryd.func33, Tryd.ntmps33
  go_wp2
  exact bodyPost_ret (v := .agg #[.int .i64 2, .int .i64 1, .string ⟨#[]⟩]) (by simp [results, Tryd.results33, go_sem]) rfl ⟨rfl, rfl⟩
theorem rtruth_true (w : World) : Calls Tryd.prog 42 #[.bool true] w fun e w' => e = .returned (.agg #[.int .i64 2, .int .i64 1, .string ⟨#[]⟩]) ∧ w.alloc (.cells #[.int .i64 2, .int .i64 1, .string ⟨#[]⟩] 23) = w' := by
  go_enter Tryd.func42, Tryd.ntmps42
  go_wp2
  exact bodyPost_ret (v := .agg #[.int .i64 2, .int .i64 1, .string ⟨#[]⟩]) (by simp [results, Tryd.results42, go_sem]) rfl ⟨rfl, rfl⟩
theorem truth_false (w : World) : Calls Tryd.prog 33 #[.bool false] w fun e w' => e = .returned (.agg #[.int .i64 2, .int .i64 0, .string ⟨#[]⟩]) ∧ (w.alloc (.cells #[.int .i64 2, .int .i64 0, .string ⟨#[]⟩] 23)).alloc (.cells #[.int .i64 2, .int .i64 0, .string ⟨#[]⟩] 23) = w' := by
  go_enter Tryd.func33, Tryd.ntmps33
  go_wp2
  exact bodyPost_ret (v := .agg #[.int .i64 2, .int .i64 0, .string ⟨#[]⟩]) (by simp [results, Tryd.results33, go_sem]) rfl ⟨rfl, rfl⟩
theorem rtruth_false (w : World) : Calls Tryd.prog 42 #[.bool false] w fun e w' => e = .returned (.agg #[.int .i64 2, .int .i64 0, .string ⟨#[]⟩]) ∧ w.alloc (.cells #[.int .i64 2, .int .i64 0, .string ⟨#[]⟩] 23) = w' := by
  go_enter Tryd.func42, Tryd.ntmps42
  go_wp2
  exact bodyPost_ret (v := .agg #[.int .i64 2, .int .i64 0, .string ⟨#[]⟩]) (by simp [results, Tryd.results42, go_sem]) rfl ⟨rfl, rfl⟩
theorem constant_at (a b : Int) (s : ByteArray) (w : World) : Calls Tryd.prog 32 #[.agg #[.int .i64 a, .int .i64 b, .string s]] w fun e w' => e = .returned (.agg #[.int .i64 0, .int .i64 0, .int .i64 a, .int .i64 b, .string s, .int .i64 0, .slice none 0 0]) ∧ (w.alloc (.cells #[.int .i64 a, .int .i64 b, .string s] 23)).alloc (.cells #[.int .i64 0, .int .i64 0, .int .i64 a, .int .i64 b, .string s, .int .i64 0, .slice none 0 0] 26) = w' := by
  go_enter Tryd.func32, Tryd.ntmps32
  go_wp2
  exact bodyPost_ret (v := .agg #[.int .i64 0, .int .i64 0, .int .i64 a, .int .i64 b, .string s, .int .i64 0, .slice none 0 0]) (by simp [results, Tryd.results32, go_sem]) rfl ⟨rfl, rfl⟩
theorem isLeaf_calls (x : S26) (A : Option Addr) (c : Nat) (k : Int) (w : World) : Calls Tryd.prog 35 #[Ag x A c, .int .i64 k] w fun e w' => e = .returned (.bool (x.f0 == k && ((x.f4.length : Int) == 0))) ∧ Below w.heap.size w w' := by
  cases h : (x.f0 == k)
  · go_enter Tryd.func35, Tryd.ntmps35
    go_wp2
    go_ret
    exact ⟨rfl, (Below.refl _ _).alloc (Nat.le_refl _) _⟩
  · go_enter Tryd.func35, Tryd.ntmps35
    go_wp2
    go_ret
    exact ⟨rfl, (Below.refl _ _).alloc (Nat.le_refl _) _⟩
theorem isColumn_calls (x : S26) (A : Option Addr) (c : Nat) (w : World) : Calls Tryd.prog 37 #[Ag x A c] w fun e w' => e = .returned (.bool (x.f0 == 1 && ((x.f4.length : Int) == 0))) ∧ Below w.heap.size w w' := by
  cases h : (x.f0 == 1)
  · go_enter Tryd.func37, Tryd.ntmps37
    go_wp2
    go_ret
    exact ⟨rfl, (Below.refl _ _).alloc (Nat.le_refl _) _⟩
  · go_enter Tryd.func37, Tryd.ntmps37
    go_wp2
    go_ret
    exact ⟨rfl, (Below.refl _ _).alloc (Nat.le_refl _) _⟩
theorem isConstant_calls (x : S26) (A : Option Addr) (c : Nat) (w : World) : Calls Tryd.prog 43 #[Ag x A c] w fun e w' => e = .returned (.bool (x.f0 == 0 && ((x.f4.length : Int) == 0))) ∧ Below w.heap.size w w' := by
  cases h : (x.f0 == 0)
  · go_enter Tryd.func43, Tryd.ntmps43
    go_wp2
    go_ret
    exact ⟨rfl, (Below.refl _ _).alloc (Nat.le_refl _) _⟩
  · go_enter Tryd.func43, Tryd.ntmps43
    go_wp2
    go_ret
    exact ⟨rfl, (Below.refl _ _).alloc (Nat.le_refl _) _⟩

theorem sign_calls (b : Bool) (w : World) : Calls Tryd.prog 41 #[.bool b] w fun e w' => e = .returned (.int .i64 (if b then -1 else 1)) ∧ w = w' := by
  cases b
  · go_enter Tryd.func41, Tryd.ntmps41
    go_wp2
    go_ret
    exact ⟨rfl, rfl⟩
  · go_enter Tryd.func41, Tryd.ntmps41
    go_wp2
    go_ret
    exact ⟨rfl, rfl⟩
theorem True_at (w : World) : Calls Tryd.prog 36 #[] w fun e w' => e = .returned (.agg #[.int .i64 0, .int .i64 0, .int .i64 2, .int .i64 1, .string ⟨#[]⟩, .int .i64 0, .slice none 0 0]) ∧ (w.alloc (.cells #[.int .i64 0, .int .i64 0, .int .i64 2, .int .i64 1, .string ⟨#[]⟩, .int .i64 0, .slice none 0 0] 26)).alloc (.cells #[.int .i64 2, .int .i64 1, .string ⟨#[]⟩] 23) = w' := by
  go_enter Tryd.func36, Tryd.ntmps36
  go_wp2_with (go_at_call 42; refine (rtruth_true _).mono ?_; rintro e w' ⟨rfl, rfl⟩)
  exact bodyPost_ret (v := .agg #[.int .i64 0, .int .i64 0, .int .i64 2, .int .i64 1, .string ⟨#[]⟩, .int .i64 0, .slice none 0 0]) (by simp [results, Tryd.results36, go_sem]) rfl ⟨rfl, rfl⟩
theorem column_at (i : Int) (w : World) : Calls Tryd.prog 16 #[.int .i64 i] w fun e w' => e = .returned (.agg #[.int .i64 1, .int .i64 i, .int .i64 0, .int .i64 0, .string ⟨#[]⟩, .int .i64 0, .slice none 0 0]) ∧ w.alloc (.cells #[.int .i64 1, .int .i64 i, .int .i64 0, .int .i64 0, .string ⟨#[]⟩, .int .i64 0, .slice none 0 0] 26) = w' := by
  go_enter Tryd.func16, Tryd.ntmps16
  go_wp2
  exact bodyPost_ret (v := .agg #[.int .i64 1, .int .i64 i, .int .i64 0, .int .i64 0, .string ⟨#[]⟩, .int .i64 0, .slice none 0 0]) (by simp [results, Tryd.results16, go_sem]) rfl ⟨rfl, rfl⟩
theorem number_at (i : Int) (w : World) : Calls Tryd.prog 14 #[.int .i64 i] w fun e w' => e = .returned (.agg #[.int .i64 0, .int .i64 0, .int .i64 0, .int .i64 i, .string ⟨#[]⟩, .int .i64 0, .slice none 0 0]) ∧ w.alloc (.cells #[.int .i64 0, .int .i64 0, .int .i64 0, .int .i64 i, .string ⟨#[]⟩, .int .i64 0, .slice none 0 0] 26) = w' := by
  go_enter Tryd.func14, Tryd.ntmps14
  go_wp2
  exact bodyPost_ret (v := .agg #[.int .i64 0, .int .i64 0, .int .i64 0, .int .i64 i, .string ⟨#[]⟩, .int .i64 0, .slice none 0 0]) (by simp [results, Tryd.results14, go_sem]) rfl ⟨rfl, rfl⟩
noncomputable def eqS (x y : S26) : Bool := @decide (x = y) (Classical.propDecidable _)
noncomputable def eqL (x y : List S26) : Bool := @decide (x = y) (Classical.propDecidable _)
theorem eqS_true {x y : S26} : eqS x y = true ↔ x = y := by simp [eqS]
theorem eqS_false {x y : S26} : eqS x y = false ↔ ¬ x = y := by simp [eqS]
theorem eqL_true {x y : List S26} : eqL x y = true ↔ x = y := by simp [eqL]
theorem eqL_false {x y : List S26} : eqL x y = false ↔ ¬ x = y := by simp [eqL]
theorem wrap_succ {i : Int} {n : Nat} (h0 : 0 ≤ i) (h1 : i < n) (hn : n ≤ 9223372036854775807) : wrap64 (i + 1) = i + 1 := by unfold wrap64; omega
theorem ret_b {a b : Bool} (h : a = b) : Ending.returned (.bool a) = .returned (.bool b) := by rw [h]
def EqOk (n : Nat) : Prop := ∀ (x y : S26) (A B : Option Addr) (c d : Nat) (w : World), sz x ≤ n → x.f4.length ≤ c → y.f4.length ≤ d → k26.C w A x.f4.length x.f4 → k26.C w B y.f4.length y.f4 →
  Calls Tryd.prog 18 #[Ag x A c, Ag y B d] w fun e w' => e = .returned (.bool (eqS x y)) ∧ Below w.heap.size w w'
set_option maxRecDepth 100000 in
theorem eqfunc_calls (n : Nat) (ih : EqOk n) (A B : Option Addr) (c d : Nat) (xs ys : List S26) (w : World) (hc : xs.length ≤ c) (hd : ys.length ≤ d) (hA : k26.C w A xs.length xs) (hB : k26.C w B ys.length ys) (hx : ∀ x ∈ xs, sz x ≤ n) :
    Calls Tryd.prog 34 #[.slice A xs.length c, .slice B ys.length d, .func (.func 18) #[] #[]] w fun e w' => e = .returned (.bool (eqL xs ys)) ∧ Below w.heap.size w w' := by
  have hm : xs.length ≤ 9223372036854775807 := hA.2.1
  by_cases hl : (xs.length : Int) = (ys.length : Int)
  · have hl1 : ((xs.length : Int) != (ys.length : Int)) = false := by simp [hl]
    have HL : Aside0 (xs.length = ys.length) := ⟨by omega⟩
    clear hl
    go_enter Tryd.func34, Tryd.ntmps34
    go_wp2
    go_loopg [17] (xs.length + 1) (fun kq v17 wr => ∃ i : Int, v17 = .int .i64 i ∧ Aside0 (0 ≤ i ∧ i ≤ xs.length ∧ kq = xs.length + 1 - i.toNat ∧ xs.take i.toNat = ys.take i.toNat) ∧ Aside0 (Below w.heap.size w wr))
    case atStart => exact ⟨0, rfl, ⟨by omega, by omega, by omega, rfl⟩, ⟨Below.refl _ _⟩⟩
    case round =>
      obtain ⟨i, rfl, HI, HB⟩ := hrel
      obtain ⟨h0, h1, h2, h3⟩ := HI.out
      by_cases hlt : i < xs.length
      · have hb0 : decide (i < (xs.length : Int)) = true := decide_eq_true hlt
        have hlt2 : i < ys.length := by have := HL.out; omega
        obtain ⟨ad, A6, c6, e, x0, x1, x2, x3, x4, x5, x6, l6, g6⟩ := at26 HB.out hA i h0 hlt
        obtain ⟨bd, B6, d6, f, y0, y1, y2, y3, y4, y5, y6, m6, k6⟩ := at26a HB.out hB i h0 hlt2
        cases e
        cases f
        have HM := Aside0.mk (And.intro (rd_mem h0 hlt) (And.intro hA hB))
        have HT := Aside0.mk (And.intro (take_rd h0 hlt) (take_rd h0 hlt2))
        have HK := Aside0.mk (And.intro l6 (And.intro g6 (And.intro m6 k6)))
        clear l6 g6 m6 k6 h1 h2 h3 hA hB
        replace hlt := eq_true hlt
        replace hlt2 := eq_true hlt2
        replace h0 := eq_true h0
        have hw : ∀ o1 o2 : Obj, Below w.heap.size w ((wr.alloc o1).alloc o2) := fun o1 o2 => below_alloc (below_alloc HB.out o1) o2
        have HW := Aside0.mk hw
        clear hw
        cases hq : eqS (rd_T26 xs i) (rd_T26 ys i)
        · go_wp2_with fail
          refine (ih (rd_T26 xs i) (rd_T26 ys i) A6 B6 c6 d6 _ (hx _ HM.out.1) HK.out.1 HK.out.2.2.1 (Kd.C_below HK.out.2.1 (HW.out _ _)) (Kd.C_below HK.out.2.2.2 (HW.out _ _))).mono ?_
          rintro e w' ⟨rfl, hb⟩
          have HB2 := Aside0.mk (below_then (HW.out _ _) (HW.out _ _).size hb)
          have HV := Aside0.mk (show false = eqL xs ys from (eqL_false.2 (fun h => eqS_false.1 hq (by rw [h]))).symm)
          clear hb
          rw [hq]
          go_wp2
          go_ret
          exact ⟨ret_b HV.out, HB2.out⟩
        · go_wp2_with fail
          refine (ih (rd_T26 xs i) (rd_T26 ys i) A6 B6 c6 d6 _ (hx _ HM.out.1) HK.out.1 HK.out.2.2.1 (Kd.C_below HK.out.2.1 (HW.out _ _)) (Kd.C_below HK.out.2.2.2 (HW.out _ _))).mono ?_
          rintro e w' ⟨rfl, hb⟩
          have HB2 := Aside0.mk (below_then (HW.out _ _) (HW.out _ _).size hb)
          clear hb
          have HQ := Aside0.mk (eqS_true.1 hq)
          rw [hq]
          clear hq
          go_wp2
          have h0' := of_eq_true h0
          have hlt' := of_eq_true hlt
          go_roundg (xs.length + 1 - (i + 1).toNat)
          case measure => have := HI.out.2.2.1; omega
          case rel => exact ⟨i + 1, congrArg (Value.int .i64) (wrap_succ h0' hlt' hm), ⟨by omega, by omega, rfl, by rw [succ_toNat h0', HT.out.1, HT.out.2, HI.out.2.2.2, HQ.out]⟩, ⟨HB2.out⟩⟩
      · have hb0 : decide (i < (xs.length : Int)) = false := decide_eq_false hlt
        have HV := Aside0.mk (show true = eqL xs ys from (eqL_true.2 (by
          have e : i.toNat = xs.length := by omega
          rw [e, List.take_length] at h3
          rw [h3, HL.out, List.take_length])).symm)
        clear h0 h1 h2 h3 hlt
        go_wp2
        go_ret
        exact ⟨ret_b HV.out, HB.out⟩
  · have hl1 : ((xs.length : Int) != (ys.length : Int)) = true := by simp; omega
    have HV := Aside0.mk (show false = eqL xs ys from (eqL_false.2 (fun h => hl (by rw [h]))).symm)
    clear hl
    go_enter Tryd.func34, Tryd.ntmps34
    go_wp2
    go_ret
    exact ⟨ret_b HV.out, Below.refl _ _⟩
theorem bytes_eq {a b : ByteArray} (h : a.toList = b.toList) : a = b := by
  rw [ByteArray.toList_eq, ByteArray.toList_eq] at h
  obtain ⟨⟨a⟩⟩ := a
  obtain ⟨⟨b⟩⟩ := b
  simp_all
theorem eqS_fields (x y : S26) : eqS x y = (x.f0 == y.f0 && (x.f1 == y.f1 && ((x.f2.f0 == y.f2.f0 && (x.f2.f1 == y.f2.f1 && (x.f2.f2.toList == y.f2.f2.toList))) && (x.f3 == y.f3 && eqL x.f4 y.f4)))) := by
  rw [Bool.eq_iff_iff, eqS_true]
  obtain ⟨x0, x1, ⟨x2, x3, x4⟩, x5, x6⟩ := x
  obtain ⟨y0, y1, ⟨y2, y3, y4⟩, y5, y6⟩ := y
  simp only [S26.mk.injEq, S23.mk.injEq, Bool.and_eq_true, beq_iff_eq, eqL_true]
  constructor
  · rintro ⟨rfl, rfl, ⟨rfl, rfl, rfl⟩, rfl, rfl⟩
    simp
  · rintro ⟨rfl, rfl, ⟨rfl, rfl, h⟩, rfl, rfl⟩
    exact ⟨rfl, rfl, ⟨rfl, rfl, bytes_eq h⟩, rfl, rfl⟩
attribute [local go_sem high] eqA23
set_option maxRecDepth 100000 in
theorem equal_step (n : Nat) (ih : EqOk n) : EqOk (n + 1) := by
  intro x y A B c d w hn hc hd hA hB
  have hF := eqS_fields x y
  have HN := Aside0.mk hn
  clear hn
  cases h0 : (x.f0 == y.f0)
  · have HV := Aside0.mk (show false = eqS x y by rw [hF, h0]; rfl)
    clear hF
    go_enter Tryd.func18, Tryd.ntmps18
    go_wp2
    go_ret
    exact ⟨ret_b HV.out, below_alloc (below_alloc (Below.refl _ _) _) _⟩
  cases h1 : (x.f1 == y.f1)
  · have HV := Aside0.mk (show false = eqS x y by rw [hF, h0, h1]; rfl)
    clear hF
    go_enter Tryd.func18, Tryd.ntmps18
    go_wp2
    go_ret
    exact ⟨ret_b HV.out, below_alloc (below_alloc (Below.refl _ _) _) _⟩
  cases h2 : (x.f2.f0 == y.f2.f0 && (x.f2.f1 == y.f2.f1 && (x.f2.f2.toList == y.f2.f2.toList)))
  · have HV := Aside0.mk (show false = eqS x y by rw [hF, h0, h1, h2]; rfl)
    clear hF
    go_enter Tryd.func18, Tryd.ntmps18
    go_wp2
    go_ret
    exact ⟨ret_b HV.out, below_alloc (below_alloc (Below.refl _ _) _) _⟩
  cases h3 : (x.f3 == y.f3)
  · have HV := Aside0.mk (show false = eqS x y by rw [hF, h0, h1, h2, h3]; rfl)
    clear hF
    go_enter Tryd.func18, Tryd.ntmps18
    go_wp2
    go_ret
    exact ⟨ret_b HV.out, below_alloc (below_alloc (Below.refl _ _) _) _⟩
  · have HV := Aside0.mk (show eqL x.f4 y.f4 = eqS x y by rw [hF, h0, h1, h2, h3]; simp)
    clear hF
    have HK := Aside0.mk (And.intro hA hB)
    clear hA hB
    go_enter Tryd.func18, Tryd.ntmps18
    go_wp2_with fail
    refine (eqfunc_calls n ih A B c d x.f4 y.f4 _ hc hd (Kd.C_below HK.out.1 (below_alloc (below_alloc (Below.refl _ _) _) _)) (Kd.C_below HK.out.2 (below_alloc (below_alloc (Below.refl _ _) _) _)) (fun z hz => by have := sz_mem hz; have := HN.out; omega)).mono ?_
    rintro e w' ⟨rfl, hb⟩
    have HB2 := Aside0.mk (below_then (below_alloc (below_alloc (Below.refl _ w) _) _) (below_alloc (below_alloc (Below.refl _ w) _) _).size hb)
    clear hb
    go_wp2
    go_ret
    exact ⟨ret_b HV.out, HB2.out⟩
theorem equal_calls : ∀ n, EqOk n
  | 0 => fun x y A B c d w hn => by have := sz_len x; omega
  | n + 1 => equal_step n (equal_calls n)
end Go.Proofs.YthjjolmmdgnjfaaDoor
