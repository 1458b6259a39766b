/- The plain law: both 'Bounds' compute one thing. -/
import Derived.Test.YthjjolmmdgnjfaaDoorC5
namespace Go.Proofs.YthjjolmmdgnjfaaDoor
open Go.RowKit Go.Proofs.YthjjolmmdgnjfaaDoorW.PrintWords PPhysicalConditions
set_option linter.unusedVariables false
theorem mir_same {k : Int} (h : mirOk k = true) : mirD k = mir2 k := by
  simp only [mirOk, Bool.or_eq_true, beq_iff_eq] at h
  rcases h with rfl | rfl | rfl | rfl | rfl <;> rfl
theorem mir_not {k : Int} (h : mirOk k = false) : mir2 k = k := by
  simp only [mirOk, Bool.or_eq_false_iff, beq_eq_false_iff_ne] at h
  obtain ⟨_, h7, h8, h9, h10⟩ := h
  simp [mir2, h7, h8, h9, h10]
theorem cmp_lim (y : S26) : (∀ q, cmpF y = some q → limF y = some q) ∧ (cmpF y = none → ∀ q, limF y = some q → mirOk q.f1 = false) := by
  unfold cmpF limF
  cases h0 : (y.f0 == 2)
  · simp
  cases h4 : ((y.f4.length : Int) == 2)
  · simp
  simp only [Bool.true_and, if_true]
  cases hu : isCon (rd_T26 y.f4 0)
  · cases hm : mirOk y.f3
    · simp only [Bool.false_and, Bool.false_eq_true, if_false]
      refine ⟨(fun q h => by cases h), fun _ q h => ?_⟩
      split at h
      · injection h with h; rw [← h]; exact hm
      · cases h
    · simp only [Bool.false_and, Bool.false_eq_true, if_false, if_true]
      refine ⟨fun q h => h, fun h q hq => ?_⟩
      rw [h] at hq
      cases hq
  · have hc := con_col hu
    cases hm : mirOk y.f3
    · simp only [hc, Bool.false_and, Bool.true_and, Bool.false_eq_true, if_false]
      refine ⟨(fun q h => by cases h), fun _ q h => ?_⟩
      split at h
      · injection h with h; rw [← h]; simp only; rw [mir_not hm]; exact hm
      · cases h
    · simp only [hc, Bool.false_and, Bool.true_and, Bool.false_eq_true, if_false, if_true, mir_same hm]
      refine ⟨fun q h => h, fun h q hq => ?_⟩
      rw [h] at hq
      cases hq
theorem find_eq {p : S55 → Bool} (hp : ∀ q, p q = true → mirOk q.f1 = true) (cs : List S26) : (cs.filterMap limF).find? p = (cs.filterMap cmpF).find? p := by
  induction cs with
  | nil => rfl
  | cons y r ih =>
    obtain ⟨h1, h2⟩ := cmp_lim y
    cases hc : cmpF y with
    | some q =>
      rw [List.filterMap_cons_some (h1 q hc), List.filterMap_cons_some hc, List.find?_cons, List.find?_cons, ih]
    | none =>
      rw [List.filterMap_cons_none hc]
      cases hl : limF y with
      | none => rw [List.filterMap_cons_none hl, ih]
      | some q =>
        have h3 := h2 hc q hl
        have h4 : p q = false := by
          cases h : p q
          · rfl
          · rw [hp q h] at h3; cases h3
        rw [List.filterMap_cons_some hl, List.find?_cons, h4, ih]
theorem first_find (cs : List S26) (c a b : Int) (ha : mirOk a = true) (hb : mirOk b = true) : firstF cs c a b = findP (cs.filterMap cmpF) c a b := by
  have e : isBnd c [a, b] = isFst c a b := by
    funext q
    rw [Bool.eq_iff_iff]
    simp [isBnd, isFst, hasI]
  unfold firstF findP findF
  rw [e, find_eq]
  intro q h
  simp only [isFst, Bool.and_eq_true, Bool.or_eq_true, beq_iff_eq] at h
  rcases h.2 with h | h
  · rw [h]; exact ha
  · rw [h]; exact hb
theorem bndA_congr {f g : Int → Int → Int → Option S23} (h5 : ∀ c, f c 5 5 = g c 5 5) (h9 : ∀ c, f c 9 10 = g c 9 10) (h7 : ∀ c, f c 7 8 = g c 7 8) : ∀ (cols : List Int) (lo hi : List S23), bndA f cols lo hi = bndA g cols lo hi
  | [], _, _ => rfl
  | c :: r, lo, hi => by
    simp only [bndA, h5, h9, h7]
    cases g c 5 5 with
    | none => rfl
    | some v => exact bndA_congr h5 h9 h7 r _ _
theorem bounds_same (cs : List S26) (cols : List Int) : bndA (firstF cs) cols [] [] = bndA (findP (cs.filterMap cmpF)) cols [] [] :=
  bndA_congr (fun c => first_find cs c 5 5 rfl rfl) (fun c => first_find cs c 9 10 rfl rfl) (fun c => first_find cs c 7 8 rfl rfl) cols [] []
end Go.Proofs.YthjjolmmdgnjfaaDoor
