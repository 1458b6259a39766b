/- 'slices.Index', 'slices.Contains', 'slices.IndexFunc' with the closure of 'Bounds', and the closure that finds a bound. -/
import Derived.Test.YthjjolmmdgnjfaaDoorB3
namespace Go.Proofs.YthjjolmmdgnjfaaDoor
open Go.RowKit Go.Proofs.YthjjolmmdgnjfaaDoorW.PrintWords PPhysicalConditions
set_option linter.unusedVariables false
theorem rdI_get {xs : List Int} {i : Int} (h0 : 0 ≤ i) (h1 : i < xs.length) : rd xs i = xs[i.toNat]'(by omega) := by
  unfold rd
  rw [List.getD_eq_getElem?_getD, List.getElem?_eq_getElem (show i.toNat < xs.length by omega)]
  rfl
theorem takeI {xs : List Int} {i : Int} (h0 : 0 ≤ i) (h1 : i < xs.length) : xs.take (i.toNat + 1) = xs.take i.toNat ++ [rd xs i] := by
  rw [List.take_succ_eq_append_getElem (show i.toNat < xs.length by omega), rdI_get h0 h1]
def hasI (xs : List Int) (k : Int) : Bool := xs.contains k
theorem hasI_snoc (xs : List Int) (y k : Int) : hasI (xs ++ [y]) k = (hasI xs k || (k == y)) := by
  unfold hasI
  rw [Bool.eq_iff_iff]
  simp
theorem hasI_take (xs : List Int) (n : Nat) (k : Int) (h : hasI (xs.take n) k = true) : hasI xs k = true := by
  unfold hasI at *
  rw [List.contains_iff_mem] at h ⊢
  exact List.mem_of_mem_take h
set_option maxRecDepth 100000 in
theorem index_calls (xs : List Int) (k : Int) (A : Option Addr) (c : Nat) (w : World) (hA : Kd.C (Kd.int .i64) w A xs.length xs) :
    Calls Tryd.prog 38 #[.slice A xs.length c, .int .i64 k] w fun e w' => ∃ r : Int, e = .returned (.int .i64 r) ∧ decide (0 ≤ r) = hasI xs k ∧ Below w.heap.size w w' := by
  have hm : xs.length ≤ 9223372036854775807 := hA.2.1
  have HA := Aside0.mk hA
  clear hA
  go_enter Tryd.func38, Tryd.ntmps38
  go_wp2
  go_loopg [8] (xs.length + 1) (fun kq v8 wr => ∃ i : Int, v8 = .int .i64 i ∧ Aside0 (0 ≤ i ∧ i ≤ xs.length ∧ kq = xs.length + 1 - i.toNat) ∧ Aside0 (hasI (xs.take i.toNat) k = false) ∧ Aside0 (Below w.heap.size w wr))
  case atStart => exact ⟨0, rfl, ⟨by omega, by omega, by omega⟩, ⟨rfl⟩, ⟨Below.refl _ _⟩⟩
  case round =>
    obtain ⟨i, rfl, HI, HN, HW⟩ := hrel
    obtain ⟨i0, i1, i2⟩ := HI.out
    by_cases hlt : i < xs.length
    · have hb0 : decide (i < (xs.length : Int)) = true := decide_eq_true hlt
      obtain ⟨ad, e, x0⟩ := Kd.at_int HA.out i i0 hlt
      replace x0 := cell_later HW.out x0
      subst e
      have HT := Aside0.mk (takeI i0 hlt)
      clear i1 i2
      obtain ⟨y, hy⟩ : ∃ y, rd xs i = y := ⟨_, rfl⟩
      rw [hy] at x0 HT
      clear hy
      have i0' := i0
      have hlt' := hlt
      cases hk : (k == y)
      · have HV := Aside0.mk (show hasI (xs.take (i.toNat + 1)) k = false by rw [HT.out, hasI_snoc, HN.out, hk]; rfl)
        have HI2 := Aside0.mk (And.intro i0' hlt')
        clear i0' hlt'
        replace hlt := eq_true hlt
        replace i0 := eq_true i0
        go_wp2
        have i0' := of_eq_true i0
        have hlt' := of_eq_true hlt
        go_roundg (xs.length + 1 - (i + 1).toNat)
        case measure => have := HI.out.2.2; omega
        case rel => exact ⟨i + 1, congrArg (Value.int .i64) (wrap_succ i0' hlt' hm), ⟨by omega, by omega, rfl⟩, ⟨by rw [succ_toNat i0']; exact HV.out⟩, HW⟩
      · have HV := Aside0.mk (show decide (0 ≤ i) = hasI xs k by
          have h2 : hasI xs k = true := hasI_take xs (i.toNat + 1) k (by rw [HT.out, hasI_snoc, hk, Bool.or_true])
          rw [h2]; exact decide_eq_true i0)
        clear i0' hlt'
        replace hlt := eq_true hlt
        replace i0 := eq_true i0
        go_wp2
        go_ret
        exact ⟨i, rfl, HV.out, HW.out⟩
    · have hb0 : decide (i < (xs.length : Int)) = false := decide_eq_false hlt
      have HV := Aside0.mk (show decide (0 ≤ (-1 : Int)) = hasI xs k by
        have e : xs.take i.toNat = xs := List.take_of_length_le (by omega)
        have := HN.out
        rw [e] at this
        rw [this]; rfl)
      clear i0 i1 i2 hlt HI
      go_wp2
      go_ret
      exact ⟨-1, rfl, HV.out, HW.out⟩
theorem contains_calls (xs : List Int) (k : Int) (A : Option Addr) (c : Nat) (w : World) (hA : Kd.C (Kd.int .i64) w A xs.length xs) :
    Calls Tryd.prog 29 #[.slice A xs.length c, .int .i64 k] w fun e w' => e = .returned (.bool (hasI xs k)) ∧ Below w.heap.size w w' := by
  go_enter Tryd.func29, Tryd.ntmps29
  go_wp2_with (go_at_call 38; refine (index_calls xs k A c _ hA).mono ?_; rintro e w' ⟨r, rfl, hr, hb⟩)
  go_ret
  exact ⟨by rw [← hr]; rfl, hb⟩
theorem clo_calls (q : S55) (col : Int) (ops : List Int) (A : Option Addr) (c : Nat) (pc po : Addr) (w : World) (h1 : w.cell? pc = some (.int .i64 col)) (h2 : w.cell? po = some (.slice A ops.length c)) (hA : Kd.C (Kd.int .i64) w A ops.length ops) :
    Calls Tryd.prog 28 #[.agg (Cs55 q), .pointer (some pc), .pointer (some po)] w fun e w' => e = .returned (.bool (q.f0 == col && hasI ops q.f1)) ∧ Below w.heap.size w w' := by
  have h1' := fun o : Obj => cell_al h1 o
  have h2' := fun o : Obj => cell_al h2 o
  have HA := Aside0.mk (fun o : Obj => Kd.C_below hA (below_alloc (Below.refl _ _) o))
  clear hA
  cases hq : (q.f0 == col)
  · go_enter Tryd.func28, Tryd.ntmps28
    go_wp2
    go_ret
    exact ⟨rfl, below_alloc (Below.refl _ _) _⟩
  · go_enter Tryd.func28, Tryd.ntmps28
    go_wp2_with (first | (go_at_call 29; refine (contains_calls ops q.f1 A c _ (HA.out _)).mono ?_; rintro e w' ⟨rfl, hb⟩) | fail)
    go_ret
    exact ⟨by rw [Bool.true_and]; rfl, below_then (below_alloc (Below.refl w.heap.size w) _) (below_alloc (Below.refl w.heap.size w) _).size hb⟩
def z55 : S55 := ⟨0, 0, z23⟩
def rd_T55 (xs : List S55) (i : Int) : S55 := xs.getD i.toNat z55
theorem rd55_get {xs : List S55} {i : Int} (h0 : 0 ≤ i) (h1 : i < xs.length) : rd_T55 xs i = xs[i.toNat]'(by omega) := by
  unfold rd_T55
  rw [List.getD_eq_getElem?_getD, List.getElem?_eq_getElem (show i.toNat < xs.length by omega)]
  rfl
theorem take55 {xs : List S55} {i : Int} (h0 : 0 ≤ i) (h1 : i < xs.length) : xs.take (i.toNat + 1) = xs.take i.toNat ++ [rd_T55 xs i] := by
  rw [List.take_succ_eq_append_getElem (show i.toNat < xs.length by omega), rd55_get h0 h1]
theorem at_T55 {w : World} {A : Option Addr} {n : Nat} {xs : List S55} (h : Kd.C k55 w A n xs) (i : Int) (h0 : 0 ≤ i) (h1 : i < n) : ∃ ad, A = some ad ∧ w.cell? (ad.add (i.toNat * 5)) = some (.int .i64 (rd_T55 xs i).f0) ∧ w.cell? ⟨(ad.add (i.toNat * 5)).block, (ad.add (i.toNat * 5)).off + 1, none⟩ = some (.int .i64 (rd_T55 xs i).f1) ∧ w.cell? ⟨(ad.add (i.toNat * 5)).block, (ad.add (i.toNat * 5)).off + 2, none⟩ = some (.int .i64 (rd_T55 xs i).f2.f0) ∧ w.cell? ⟨(ad.add (i.toNat * 5)).block, (ad.add (i.toNat * 5)).off + 3, none⟩ = some (.int .i64 (rd_T55 xs i).f2.f1) ∧ w.cell? ⟨(ad.add (i.toNat * 5)).block, (ad.add (i.toNat * 5)).off + 4, none⟩ = some (.string (rd_T55 xs i).f2.f2) := by
  obtain ⟨ad, c, e, _, hK, hc0⟩ := Kd.C_get h z55 i h0 h1
  have hc : ∀ j u, c[j]? = some u → w.cell? (ad.add (i.toNat * 5 + j)) = some u := hc0
  obtain rfl := k55_open hK
  exact ⟨ad, e, hc 0 _ rfl, by rw [← add_field _ _ 1 (by omega)]; exact hc 1 _ rfl, by rw [← add_field _ _ 2 (by omega)]; exact hc 2 _ rfl, by rw [← add_field _ _ 3 (by omega)]; exact hc 3 _ rfl, by rw [← add_field _ _ 4 (by omega)]; exact hc 4 _ rfl⟩
def isBnd (col : Int) (ops : List Int) (q : S55) : Bool := q.f0 == col && hasI ops q.f1
theorem find_take {p : S55 → Bool} {xs : List S55} {i : Int} (h0 : 0 ≤ i) (h1 : i < xs.length) (hn : (xs.take i.toNat).find? p = none) (hp : p (rd_T55 xs i) = true) : xs.find? p = some (rd_T55 xs i) := by
  have e2 : (xs.take (i.toNat + 1)).find? p = some (rd_T55 xs i) := by
    rw [take55 h0 h1, List.find?_append, hn]
    simp [List.find?, hp]
  have e3 : xs.find? p = (xs.take (i.toNat + 1) ++ xs.drop (i.toNat + 1)).find? p := by rw [List.take_append_drop]
  rw [e3, List.find?_append, e2]
  rfl
set_option maxRecDepth 100000 in
theorem idxfunc_calls (xs : List S55) (col : Int) (ops : List Int) (A B : Option Addr) (c d : Nat) (pc po : Addr) (w : World) (hA : Kd.C k55 w A xs.length xs) (h1 : w.cell? pc = some (.int .i64 col)) (h2 : w.cell? po = some (.slice B ops.length d)) (hB : Kd.C (Kd.int .i64) w B ops.length ops) :
    Calls Tryd.prog 27 #[.slice A xs.length c, .func (.func 28) #[] #[.pointer (some pc), .pointer (some po)]] w fun e w' => ∃ r : Int, e = .returned (.int .i64 r) ∧ ((r < 0 ∧ xs.find? (isBnd col ops) = none) ∨ (0 ≤ r ∧ r < xs.length ∧ xs.find? (isBnd col ops) = some (rd_T55 xs r))) ∧ Below w.heap.size w w' := by
  have hm : xs.length ≤ 9223372036854775807 := hA.2.1
  have HA := Aside0.mk hA
  have HB := Aside0.mk hB
  have HC := Aside0.mk (And.intro h1 h2)
  clear hA hB h1 h2
  go_enter Tryd.func27, Tryd.ntmps27
  go_wp2
  go_loopg [8] (xs.length + 1) (fun kq v8 wr => ∃ i : Int, v8 = .int .i64 i ∧ Aside0 (0 ≤ i ∧ i ≤ xs.length ∧ kq = xs.length + 1 - i.toNat) ∧ Aside0 ((xs.take i.toNat).find? (isBnd col ops) = none) ∧ Aside0 (Below w.heap.size w wr))
  case atStart => exact ⟨0, rfl, ⟨by omega, by omega, by omega⟩, ⟨rfl⟩, ⟨Below.refl _ _⟩⟩
  case round =>
    obtain ⟨i, rfl, HI, HN, HW⟩ := hrel
    obtain ⟨i0, i1, i2⟩ := HI.out
    by_cases hlt : i < xs.length
    · have hb0 : decide (i < (xs.length : Int)) = true := decide_eq_true hlt
      obtain ⟨ad, e, x0, x1, x2, x3, x4⟩ := at_T55 HA.out i i0 hlt
      replace x0 := cell_later HW.out x0
      replace x1 := cell_later HW.out x1
      replace x2 := cell_later HW.out x2
      replace x3 := cell_later HW.out x3
      replace x4 := cell_later HW.out x4
      subst e
      have HT := Aside0.mk (take55 i0 hlt)
      have HV := Aside0.mk (fun h => find_take (p := isBnd col ops) i0 hlt HN.out h)
      clear i1 i2
      have HJ := Aside0.mk (And.intro i0 hlt)
      obtain ⟨y, hy⟩ : ∃ y, rd_T55 xs i = y := ⟨_, rfl⟩
      rw [hy] at x0 x1 x2 x3 x4 HT HV
      have HY := Aside0.mk hy
      clear hy
      replace hlt := eq_true hlt
      replace i0 := eq_true i0
      cases hk : isBnd col ops y
      · have hk' : (y.f0 == col && hasI ops y.f1) = false := hk
        have HX := Aside0.mk (show (xs.take (i.toNat + 1)).find? (isBnd col ops) = none by rw [HT.out, List.find?_append, HN.out]; simp [List.find?, hk])
        go_wp2_with (first | (go_at_call 28; refine (clo_calls y col ops B d pc po _ (cell_later HW.out HC.out.1) (cell_later HW.out HC.out.2) (Kd.C_below HB.out HW.out)).mono ?_; rintro e w2 ⟨rfl, hb⟩; rw [hk']) | fail)
        have HW2 := Aside0.mk (below_then HW.out HW.out.size hb)
        clear hb
        have i0' := of_eq_true i0
        have hlt' := of_eq_true hlt
        go_roundg (xs.length + 1 - (i + 1).toNat)
        case measure => have := HI.out.2.2; omega
        case rel => exact ⟨i + 1, congrArg (Value.int .i64) (wrap_succ i0' hlt' hm), ⟨by omega, by omega, rfl⟩, ⟨by rw [succ_toNat i0']; exact HX.out⟩, HW2⟩
      · have hk' : (y.f0 == col && hasI ops y.f1) = true := hk
        have HX := Aside0.mk (show xs.find? (isBnd col ops) = some (rd_T55 xs i) by rw [HY.out]; exact HV.out hk)
        go_wp2_with (first | (go_at_call 28; refine (clo_calls y col ops B d pc po _ (cell_later HW.out HC.out.1) (cell_later HW.out HC.out.2) (Kd.C_below HB.out HW.out)).mono ?_; rintro e w2 ⟨rfl, hb⟩; rw [hk']) | fail)
        go_ret
        exact ⟨i, rfl, .inr ⟨HJ.out.1, HJ.out.2, HX.out⟩, below_then HW.out HW.out.size hb⟩
    · have hb0 : decide (i < (xs.length : Int)) = false := decide_eq_false hlt
      have HV := Aside0.mk (show xs.find? (isBnd col ops) = none by
        have e : xs.take i.toNat = xs := List.take_of_length_le (by omega)
        have := HN.out
        rw [e] at this
        exact this)
      clear i0 i1 i2 hlt HI
      go_wp2
      go_ret
      exact ⟨-1, rfl, .inl ⟨by omega, HV.out⟩, HW.out⟩
def findF (l : List S55) (col : Int) (ops : List Int) : Option S23 := (l.find? (isBnd col ops)).map (·.f2)
def FindPost (o : Option S23) (w : World) (e : Ending) (w' : World) : Prop := ∃ (A : Option Addr) (c : Nat), e = .returned (.tuple #[.slice A o.toList.length c, .bool o.isSome]) ∧ Kd.F k23 w' (fun k => w.heap.size ≤ k) A o.toList.length o.toList ∧ Below w.heap.size w w'
set_option maxRecDepth 100000 in
theorem bnd1_calls (l : List S55) (col : Int) (ops : List Int) (A B : Option Addr) (c d : Nat) (pc pl : Addr) (w : World) (hA : Kd.C k55 w A l.length l) (hl : w.cell? pl = some (.slice A l.length c)) (h1 : w.cell? pc = some (.int .i64 col)) (hB : Kd.C (Kd.int .i64) w B ops.length ops) :
    Calls Tryd.prog 26 #[.slice B ops.length d, .pointer (some pl), .pointer (some pc)] w (FindPost (findF l col ops) w) := by
  have HA := Aside0.mk (Kd.C_below hA (below_alloc (Below.refl _ _) (.cells #[.slice B ops.length d] 27)))
  have HB := Aside0.mk (Kd.C_below hB (below_alloc (Below.refl _ _) (.cells #[.slice B ops.length d] 27)))
  have HW := Aside0.mk (below_alloc (Below.refl w.heap.size w) (.cells #[.slice B ops.length d] 27))
  have hl' := cell_al hl (.cells #[.slice B ops.length d] 27)
  have H1 := Aside0.mk (cell_al h1 (.cells #[.slice B ops.length d] 27))
  have H2 := Aside0.mk (show (w.alloc (.cells #[.slice B ops.length d] 27)).cell? ⟨w.heap.size, 0, none⟩ = some (.slice B ops.length d) from cell_of_one (blk_new w (.cells #[.slice B ops.length d] 27)))
  clear hA hB hl h1
  go_enter Tryd.func26, Tryd.ntmps26
  go_upto_region 1 with (fail)
  obtain ⟨W0, hW0⟩ : ∃ W0 : World, w.alloc (.cells #[.slice B ops.length d] 27) = W0 := ⟨_, rfl⟩
  rw [hW0] at HA HB HW hl' H1 H2 ⊢
  clear hW0
  go_upto_region 2 with (first | (go_at_call 27; refine (idxfunc_calls l col ops A B c d pc ⟨w.heap.size, 0, none⟩ _ HA.out H1.out H2.out HB.out).mono ?_; rintro e w2 ⟨r, rfl, hr, hb⟩; have HR := Aside0.mk hr; clear hr; replace hl' := cell_later hb hl') | fail)
  have HW2 := Aside0.mk (below_then HW.out HW.out.size hb)
  have HA2 := Aside0.mk (Kd.C_below HA.out hb)
  clear hb
  by_cases h0 : r < 0
  · have hd : decide (r < 0) = true := decide_eq_true h0
    have HV := Aside0.mk (show findF l col ops = none by
      rcases HR.out with h | h
      · simp [findF, h.2]
      · omega)
    clear h0
    go_wp2
    refine bodyPost_ret (v := .tuple #[.slice none 0 0, .bool false]) (by simp [results, Tryd.results26, go_sem]) rfl ?_
    rw [HV.out]
    exact ⟨none, 0, rfl, Kd.N_F (Kd.N_nil _ 23 _ 0 _), HW2.out⟩
  · have hd : decide (r < 0) = false := decide_eq_false h0
    obtain ⟨r0, r1, r2⟩ := HR.out.resolve_left (fun h => h0 h.1)
    obtain ⟨ad, e, x0, x1, x2, x3, x4⟩ := at_T55 HA2.out r r0 r1
    subst e
    have HV := Aside0.mk (show findF l col ops = some (rd_T55 l r).f2 by simp [findF, r2])
    obtain ⟨y, hy⟩ : ∃ y, rd_T55 l r = y := ⟨_, rfl⟩
    rw [hy] at x0 x1 x2 x3 x4 HV
    clear hy r2 h0
    replace r0 := eq_true r0
    replace r1 := eq_true r1
    go_wp2
    refine bodyPost_ret (v := .tuple #[.slice (some ⟨w2.heap.size, 0, none⟩) 1 1, .bool true]) (by simp [results, Tryd.results26, go_sem]) rfl ?_
    rw [HV.out]
    exact ⟨some ⟨w2.heap.size, 0, none⟩, 1, rfl, Kd.N_F (N_lit_at k23 w.heap.size 23 (xs := [y.f2]) (inner := [.int .i64 y.f2.f0, .int .i64 y.f2.f1, .string y.f2.f2]) (ok := fun k => w.heap.size ≤ k) (okp := fun _ => False) (reps_one (FK23 _ _ _) rfl) (fun _ h => h.elim) HW2.out.size HW2.out.size (by simp)), below_alloc HW2.out _⟩
end Go.Proofs.YthjjolmmdgnjfaaDoor
