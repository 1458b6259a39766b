/- Find: slices.SortFunc over the own heap, by the kit's contract. -/
import Derived.Test.YtkjbbbjebidniaaGreatDoorZS1
namespace Go.Proofs.YtkjbbbjebidniaaGreatDoor
open Go Go.RowKit Go.Shelf Go.Lib
set_option linter.unusedSimpArgs false
set_option linter.unusedVariables false
set_option maxRecDepth 100000

instance decP (x y : Int × Int) : Decidable (ltP x y) := by unfold ltP; exact inferInstance
def cfP (x y : Int × Int) : Int := if Lib.compareInt x.1 y.1 = 0 then Lib.compareInt x.2 y.2 else Lib.compareInt x.1 y.1
theorem cfP_lt (x y : Int × Int) : ltOf cfP x y = decide (ltP x y) := by
  unfold ltOf cfP Lib.compareInt ltP
  by_cases h1 : x.1 < y.1
  · simp [h1]
  · by_cases h2 : y.1 < x.1
    · have : x.1 ≠ y.1 := by omega
      simp [h1, h2, this]
    · have : x.1 = y.1 := by omega
      simp [this]
      by_cases h3 : x.2 < y.2
      · simp [h3]
      · by_cases h4 : y.2 < x.2 <;> simp [h3, h4]
theorem ltP_irr (x : Int × Int) : ¬ ltP x x := by unfold ltP; omega
theorem ltP_tr {x y z : Int × Int} (h1 : ltP x y) (h2 : ltP y z) : ltP x z := by unfold ltP at *; omega
theorem ltP_ntr {x y z : Int × Int} (h1 : ¬ ltP x y) (h2 : ¬ ltP y z) : ¬ ltP x z := by unfold ltP at *; omega
theorem ltP_tot {x y : Int × Int} (h1 : ¬ ltP x y) (h2 : ¬ ltP y x) : x = y := by
  unfold ltP at *
  have h3 : x.1 = y.1 := by omega
  have h4 : x.2 = y.2 := by omega
  obtain ⟨a, b⟩ := x
  obtain ⟨c, d⟩ := y
  simp at h3 h4; rw [h3, h4]
theorem swoP : Sort.SWO (ltOf cfP) where
  irrefl x := by rw [cfP_lt]; simp [ltP_irr]
  trans x y z h1 h2 := by rw [cfP_lt] at *; simp at *; exact ltP_tr h1 h2
  ntrans x y z h1 h2 := by rw [cfP_lt] at *; simp at *; exact ltP_ntr h1 h2
theorem totP (x y : Int × Int) (h1 : ltOf cfP x y = false) (h2 : ltOf cfP y x = false) : x = y := by
  rw [cfP_lt] at *; simp at h1 h2; exact ltP_tot h1 h2
/-- What the sort leaves. -/
def msort (l : List (Int × Int)) : List (Int × Int) := l.mergeSort fun x y => !(ltOf cfP y x)
theorem msort_len (l : List (Int × Int)) : (msort l).length = l.length := List.length_mergeSort l
theorem msort_mem (l : List (Int × Int)) (p : Int × Int) : p ∈ msort l ↔ p ∈ l := List.mem_mergeSort
theorem msort_sorted (l : List (Int × Int)) : (msort l).Pairwise (fun x y => ¬ ltP y x) := by
  have := List.pairwise_mergeSort (le := fun x y => !(ltOf cfP y x)) (fun a b c h1 h2 => by
    simp only [Bool.not_eq_true', cfP_lt, decide_eq_false_iff_not] at *
    exact ltP_ntr h2 h1) (fun a b => by
    simp only [Bool.or_eq_true, Bool.not_eq_true', cfP_lt, decide_eq_false_iff_not]
    by_cases h : ltP b a
    · exact .inr fun h2 => ltP_irr _ (ltP_tr h h2)
    · exact .inl h) l
  refine this.imp fun {a b} h => ?_
  simpa only [Bool.not_eq_true', cfP_lt, decide_eq_false_iff_not] using h

theorem flatP_get : ∀ (l : List (Int × Int)) (t : Nat), t < l.length * 2 → (flatP l)[t]? = some ((cellsP l.toArray[t / 2]!)[t % 2]!)
  | [], t, h => by simp at h
  | p :: l, 0, h => by simp [flatP, cellsP]
  | p :: l, 1, h => by simp [flatP, cellsP]
  | p :: l, t + 2, h => by
    have ih := flatP_get l t (by simp at h; omega)
    have e : flatP (p :: l) = .int .i64 p.1 :: .int .i64 p.2 :: flatP l := rfl
    rw [e, List.getElem?_cons_succ, List.getElem?_cons_succ, ih]
    have h1 : (t + 2) / 2 = t / 2 + 1 := by omega
    have h2 : (t + 2) % 2 = t % 2 := by omega
    rw [h1, h2]
    congr 3
    have hl : t / 2 < l.length := by simp at h; omega
    rw [getElem!_pos _ _ (by simpa using hl), getElem!_pos _ _ (by simp; omega)]
    simp
theorem flatK_get (l : List (Int × Int)) (t : Nat) (h : t < l.length * 2) : (flatP l)[t]? = some (Sort.flatK cellsP 2 l.toArray)[t]! := by
  rw [Sort.get_flatK _ _ _ _ (by simpa using h)]; exact flatP_get l t h

theorem vrs_flatP {ρ : Rho} : ∀ {l : List (Int × Int)} {c : List Value}, VRs ρ (flatP l) c → c = flatP l
  | [], c, h => by cases h; rfl
  | p :: l, c, h => by
    have e : flatP (p :: l) = .int .i64 p.1 :: .int .i64 p.2 :: flatP l := rfl
    rw [e] at h ⊢
    cases h with
    | cons h1 h2 => cases h2 with
      | cons h3 h4 => cases h1; cases h3; rw [vrs_flatP h4]
theorem vrs_flatP_self (ρ : Rho) : ∀ (l : List (Int × Int)), VRs ρ (flatP l) (flatP l)
  | [] => .nil
  | p :: l => .cons (.int _ _) (.cons (.int _ _) (vrs_flatP_self ρ l))

theorem putCells_row (l l' : List (Int × Int)) (hl : l'.length = l.length) (x : List Value) : Sort.putCells id 0 (Sort.flatK cellsP 2 l'.toArray) ⟨flatP l ++ x⟩ = ⟨flatP l' ++ x⟩ := by
  apply Array.ext_getElem?
  intro k
  simp only [Sort.putCells, Array.getElem?_mapIdx, Sort.size_flatK, List.size_toArray, Nat.zero_le, true_and, Nat.zero_add, Nat.sub_zero, id]
  have e1 : (⟨flatP l ++ x⟩ : Array Value)[k]? = (flatP l ++ x)[k]? := by simp
  have e2 : (⟨flatP l' ++ x⟩ : Array Value)[k]? = (flatP l' ++ x)[k]? := by simp
  rw [e1, e2]
  by_cases h : k < l'.length * 2
  · rw [List.getElem?_append_left (by rw [flatP_len]; omega), List.getElem?_append_left (by rw [flatP_len]; omega), flatK_get l' k h, flatK_get l k (by omega)]
    simp [h]
  · rw [List.getElem?_append_right (by rw [flatP_len]; omega), List.getElem?_append_right (by rw [flatP_len]; omega), flatP_len, flatP_len, hl]
    cases x[k - l.length * 2]? with
    | none => rfl
    | some v => have h' : ¬ k < l.length * 2 := by omega
                simp [h, h']

theorem cmpLaysP (blk off size : Nat) (w : World) : CmpLays Tryz.prog 55 #[] cellsP 2 cfP blk off size w :=
  fun _ _ _ _ x y => cmp_calls x y _

/-- slices.SortFunc by rowset.Compare. -/
theorem sort_T {l : List (Int × Int)} (h0 : l ≠ []) (hl : l.length ≤ 1000000) {b c el k : Nat} {wa wb : AW} (hg : wa.heap.get b = some (.row (flatP l) el k)) (hk : k ≤ 1) (hu : wa.upd b (.row (flatP (msort l)) el k) = some wb) :
    CallT [0] Tryz.prog 54 ⟨[.slice (some ⟨b, 0, none⟩) l.length c, .func (.func 55) #[] #[]]⟩ wa (.tuple ⟨[]⟩) wb := by
  intro ρ w args' S hglob hargs
  obtain ⟨args'⟩ := args'
  simp only at hargs
  have hn : l.length ≠ 0 := fun h => h0 (List.eq_nil_of_length_eq_zero h)
  obtain ⟨img, c', hb, rfl⟩ : ∃ img c', ρ b = some img ∧ args' = [.slice (some ⟨img.blk, 0, none⟩) l.length c', .func (.func 55) #[] #[]] := by
    generalize hlen : l.length = n at *
    cases hargs with
    | cons h1 h2 => cases h2 with
      | cons h3 h4 => cases h4 with
        | nil =>
          cases h3 with
          | func hx hy =>
            cases hx; cases hy
            cases h1 with
            | slice hb hc => exact ⟨_, _, hb, rfl⟩
            | slice0 => exact absurd rfl hn
            | wild => exact absurd rfl hn
  obtain ⟨oa, q1, q2⟩ := S.obj b img hb
  rw [hg] at q1; cases q1
  rcases q2 with q2 | ⟨o, ho, hor⟩
  · cases q2
  obtain ⟨x, hobj, hback⟩ : ∃ x, o = .cells ⟨flatP l ++ x⟩ el (0, 0) ∧ OR Tryz.prog ρ img (.row (flatP (msort l)) el k) (.cells ⟨flatP (msort l) ++ x⟩ el (0, 0)) := by
    cases hor with
    | row h hk' hm =>
      have := vrs_flatP h
      subst this
      rcases hk' with ⟨rfl, rfl⟩ | rfl
      · exact ⟨[], by simp, by simpa using OR.row (vrs_flatP_self ρ _) (.inl ⟨rfl, rfl⟩) hm⟩
      · omega
    | grown h hi hm hs =>
      have := vrs_flatP h
      subst this
      refine ⟨_, rfl, OR.grown (vrs_flatP_self ρ _) hi hm ?_⟩
      rw [flatP_len, msort_len, ← flatP_len]; exact hs
  subst hobj
  have hdom := (S.dom b img hb).2
  have hH : Sort.HoldsK cellsP 2 w img.blk 0 l.toArray := by
    intro j hj
    rw [Sort.size_flatK] at hj
    have hj' : j < l.length * 2 := by simpa using hj
    have hget := flatK_get l j hj'
    refine ⟨?_, ?_⟩
    · simp only [World.cell?, ho, Nat.zero_add, Option.isSome_none, Bool.false_eq_true, if_false]
      have e1 : (⟨flatP l ++ x⟩ : Array Value)[j]? = (flatP l ++ x)[j]? := by simp
      rw [e1, List.getElem?_append_left (by rw [flatP_len]; exact hj'), hget]; rfl
    · simp only [World.frozen?, ho, Nat.zero_add]
      simp
  have hcon := AnyQ.slices_SortFunc_total Tryz.sortRow 2 Tryz.isAgg41 Tryz.sizeOf41 cellsP (fun _ => rfl) (fun p v hv => by
    simp [cellsP] at hv
    rcases hv with rfl | rfl <;> rfl) cfP swoP 55 #[] img.blk 0 c' l.toArray w (enters_of Tryz.func55 (by kernel_rfl) rfl) (cmpLaysP _ _ _ _) hH hdom (by simp; omega) totP
  refine hcon.mono fun e w' ⟨he, n, os, hw⟩ => ?_
  have hms : (l.toArray.toList.mergeSort fun x y => !(ltOf cfP y x)).toArray = (msort l).toArray := by simp [msort]
  rw [hms] at hw
  -- the row turned
  let w1 : World := Sort.putRowK cellsP 2 (Sort.ahead w n) img.blk 0 (msort l).toArray
  have hheap : w1.heap = w.heap.modify img.blk (Sort.onCells (Sort.putCells id 0 (Sort.flatK cellsP 2 (msort l).toArray))) := rfl
  have h1 : w1.heap[img.blk]? = some (.cells ⟨flatP (msort l) ++ x⟩ el (0, 0)) := by
    rw [hheap, Array.getElem?_modify, if_pos rfl, ho]
    simp only [Option.map_some, Sort.onCells, putCells_row l (msort l) (msort_len l) x]
  obtain ⟨S1, M1⟩ := upd_ok S hb hg (by simp) (fun c' e' h => by simp at h; omega) hu w1 (.inr ⟨_, h1, hback⟩) (fun j hj => by rw [hheap, Array.getElem?_modify, if_neg (Ne.symm hj)]) (by rw [hheap]; simp) rfl rfl rfl
  have hbel : Below w1.heap.size w1 w' := by
    rw [hw]
    refine ⟨rfl, rfl, rfl, ?_, fun k hk => ?_⟩
    · show w1.heap.size ≤ (w1.heap ++ os).size
      simp
    · show (w1.heap ++ os)[k]? = w1.heap[k]?
      rw [Array.getElem?_append_left hk]
  obtain ⟨S2, M2⟩ := below_sat S1 hbel
  exact ⟨ρ, .tuple ⟨[]⟩, he, .tuple .nil, S2, M1.trans S M2⟩

end Go.Proofs.YtkjbbbjebidniaaGreatDoor
