/- Find: rowset.Normalize. -/
import Derived.Test.YtkjbbbjebidniaaGreatDoorZW2
namespace Go.Proofs.YtkjbbbjebidniaaGreatDoor
open Go Go.RowKit Go.Shelf
set_option linter.unusedSimpArgs false
set_option linter.unusedVariables false
set_option maxRecDepth 100000
set_option maxHeartbeats 4000000

theorem clone53_core {l : List (Int × Int)} (h0 : l ≠ []) (hl : l.length ≤ 1000000) {Ψ : Psi} {w : AW} {u : Value} (W : Wt Ψ w) (hu : Den Ψ u (lst encP l)) :
    ∃ w1 w2 R, bs0W Tryz.prog 38 w = some (.slice (some ⟨w.size, 0, none⟩) 0 0, w1) ∧ appendA Tryz.prog #[38, 38] #[.slice (some ⟨w.size, 0, none⟩) 0 0, u] w1 = .ok (.slice (some ⟨R, 0, none⟩) l.length l.length, w2) ∧ Gr w w2 ∧ w.size ≤ R ∧ R < w2.size ∧ w2.heap.get R = some (.row (flatP l) 41 1) := by
  obtain ⟨w1, el', b1, hu1, g1, z1, r1⟩ := bs0W_ok sl_38 w
  rw [un_38] at hu1; cases hu1
  obtain ⟨us, hrd, hds⟩ := (W.gr g1).rd (f := encP) (k := 2) (fun _ => rfl) hu
  have := dens_flatP_inv hds
  subst this
  have hn : l.length ≠ 0 := fun h => h0 (List.eq_nil_of_length_eq_zero h)
  have hold : firstA w1 2 0 (.slice (some ⟨w.size, 0, none⟩) 0 0) = some [] := by
    show w1.cells ⟨w.size, 0, none⟩ (0 * 2) = some []
    rw [Nat.zero_mul, row_cells (n := 0) r1 rfl]
  have hap2 := app_grow ap_38 (base := some ⟨w.size, 0, none⟩) (m := 0) (q := l.length) (by omega) (by omega) hrd hold (by simp)
  obtain ⟨w2, e2, g2, z2, r2⟩ := growA_new (n := 2) (m := 0) (need := 0 + l.length) (el := 41) (cells := [] ++ flatP l) (w := w1) (base := some ⟨w.size, 0, none⟩) (.inr ⟨_, _, _, rfl, r1⟩)
  rw [e2, Nat.zero_add] at hap2
  rw [List.nil_append] at r2
  exact ⟨w1, w2, w1.size, b1, hap2, g1.trans g2, g1.size, by omega, r2⟩

theorem clone53_row {l : List (Int × Int)} (h0 : l ≠ []) (hl : l.length ≤ 1000000) {Ψ : Psi} {w : AW} {a : Addr} {n c : Nat} (W : Wt Ψ w) (hu : Den Ψ (.slice (some a) n c) (lst encP l)) : CallP 53 [.slice (some a) n c] w (fun r w' => Gr w w' ∧ ∃ R, r = .slice (some ⟨R, 0, none⟩) l.length l.length ∧ w.size ≤ R ∧ R < w'.size ∧ w'.heap.get R = some (.row (flatP l) 41 1)) := by
  obtain ⟨w1, w2, R, b1, hap, g, q1, q2, q3⟩ := clone53_core h0 hl W hu
  refine CallP.of (t := 2) (args := [.slice (some a) n c]) Tryz.func53 rfl rfl (by simp) (by show _ ≤ 8; simp) ?_
  have a0 : argsE [.slice (some a) n c] 0 = .slice (some a) n c := rfl
  refine TF.seq ?_
  refine TF.reg (call := oracle []) (by show 8 ≤ 1000000; decide) (by kernel_rfl) (oracle_ok _ (by simp)) ?_
  simp (maxSteps := 2000000) only [EVS, EVL, Nat.reduceEqDiff, Nat.reduceAdd, reduceIte, XE.then, XE.out, a0]
  refine TF.seq ?_
  refine TF.seq ?_
  refine TF.reg (call := oracle []) (by show 8 ≤ 1000000; decide) (by kernel_rfl) (oracle_ok _ (by simp)) ?_
  simp (maxSteps := 2000000) only [EVS, EVL, Nat.reduceEqDiff, Nat.reduceAdd, reduceIte, XE.then, XE.out, a0, bin_nil_some un_38]
  refine TF.cond (t := false) rfl (by simp (maxSteps := 2000000) only [EVS, EVL, Nat.reduceEqDiff, Nat.reduceAdd, reduceIte, XE.then, XE.out, a0]) ?_
  simp (maxSteps := 2000000) only [EVS, EVL, Nat.reduceEqDiff, Nat.reduceAdd, reduceIte, XE.then, XE.out, a0]
  refine TF.skip ?_
  try simp (maxSteps := 2000000) only [EVS, EVL, Nat.reduceEqDiff, Nat.reduceAdd, reduceIte, XE.then, XE.out, a0]
  refine TF.seq ?_
  refine TF.reg (call := oracle []) (by show 8 ≤ 1000000; decide) (by kernel_rfl) (oracle_ok _ (by simp)) ?_
  simp (maxSteps := 2000000) only [EVS, EVL, Nat.reduceEqDiff, Nat.reduceAdd, reduceIte, XE.then, XE.out, a0, b1, hap]
  refine TF.ret ?_
  try simp (maxSteps := 2000000) only [EVS, EVL, Nat.reduceEqDiff, Nat.reduceAdd, reduceIte, XE.then, XE.out, a0]
  exact ⟨g, R, rfl, q1, q2, q3⟩

theorem compact_short (a : Option Addr) (c : Nat) (w : AW) : CallP 56 [.slice a 0 c] w (fun r w' => r = .slice a 0 c ∧ w' = w) := by
  have h02 : ((0 : Nat) : Int) < 2 := by decide
  refine CallP.of (t := 2) (args := [.slice a 0 c]) Tryz.func56 rfl rfl (by simp) (by show _ ≤ 61; simp) ?_
  have a0 : argsE [.slice a 0 c] 0 = .slice a 0 c := rfl
  refine TF.seq ?_
  refine TF.reg (call := oracle []) (by show 61 ≤ 1000000; decide) (by kernel_rfl) (oracle_ok _ (by simp)) ?_
  simp (maxSteps := 2000000) only [EVS, EVL, Nat.reduceEqDiff, Nat.reduceAdd, reduceIte, XE.then, XE.out, h02, a0]
  refine TF.seq ?_
  refine TF.seq ?_
  refine TF.reg (call := oracle []) (by show 61 ≤ 1000000; decide) (by kernel_rfl) (oracle_ok _ (by simp)) ?_
  simp (maxSteps := 2000000) only [EVS, EVL, Nat.reduceEqDiff, Nat.reduceAdd, reduceIte, XE.then, XE.out, h02, a0]
  refine TF.cond (t := true) rfl (by simp (maxSteps := 2000000) only [EVS, EVL, Nat.reduceEqDiff, Nat.reduceAdd, reduceIte, XE.then, XE.out, h02, a0]) ?_
  simp (maxSteps := 2000000) only [EVS, EVL, Nat.reduceEqDiff, Nat.reduceAdd, reduceIte, XE.then, XE.out, h02, a0]
  refine TF.seq ?_
  refine TF.reg (call := oracle []) (by show 61 ≤ 1000000; decide) (by kernel_rfl) (oracle_ok _ (by simp)) ?_
  simp (maxSteps := 2000000) only [EVS, EVL, Nat.reduceEqDiff, Nat.reduceAdd, reduceIte, XE.then, XE.out, h02, a0]
  refine TF.ret ?_
  try simp (maxSteps := 2000000) only [EVS, EVL, Nat.reduceEqDiff, Nat.reduceAdd, reduceIte, XE.then, XE.out, h02, a0]
  skip
theorem compact_shortT (a : Option Addr) (c : Nat) (w : AW) : CallT [0] Tryz.prog 56 ⟨[.slice a 0 c]⟩ w (.slice a 0 c) w := by
  obtain ⟨v, w', h1, rfl, rfl⟩ := compact_short a c w
  exact h1


/-- No element: nothing turns. -/
theorem sort_none (a : Option Addr) (c : Nat) (wa : AW) : CallT [0] Tryz.prog 54 ⟨[.slice a 0 c, .func (.func 55) #[] #[]]⟩ wa (.tuple ⟨[]⟩) wa := by
  intro ρ w args' S hglob hargs
  obtain ⟨args'⟩ := args'
  simp only at hargs
  obtain ⟨a', c', fv, rfl⟩ : ∃ a' c' fv, args' = [.slice a' 0 c', fv] := by
    cases hargs with
    | cons h1 h2 => cases h2 with
      | cons h3 h4 => cases h4 with
        | nil => cases h1 <;> exact ⟨_, _, _, rfl⟩
  have hcon := AnyF.slices_SortFunc_none (P := Tryz.prog) (ρ := Tryz.sortRow_ren) { Tryz.sortRow with } a' c' fv w
  refine hcon.mono fun e w' ⟨he, hw⟩ => ?_
  subst hw
  exact ⟨ρ, .tuple ⟨[]⟩, he, .tuple .nil, S, Mv.refl _ _ _⟩

theorem updW {w : AW} {R : Nat} {o : AObj} (hl : w.low ≤ R) : ∃ w1, w.upd R o = some w1 ∧ w1.size = w.size ∧ w1.low = w.low ∧ ∀ j, w1.heap.get j = if j = R then some o else w.heap.get j := by
  obtain ⟨w1, hu⟩ := upd_some w R o
  obtain ⟨u1, u2, u3⟩ := upd_spec hu
  refine ⟨w1, hu, u1, ?_, u3⟩
  unfold AW.upd at hu
  dsimp only at hu
  split at hu
  · cases hu
    show (bif Nat.ble w.low R then w.low else R) = _
    rw [Nat.ble_eq_true_of_le hl]; rfl
  · cases hu
theorem Dens.append {Ψ : Psi} : ∀ {us vs : List Value} {ds es : List Dt}, Dens Ψ us ds → Dens Ψ vs es → Dens Ψ (us ++ vs) (ds ++ es)
  | _, _, _, _, .nil, h => h
  | _, _, _, _, .cons h0 h1, h => .cons h0 (Dens.append h1 h)

theorem norm_nil {Ψ : Psi} {w : AW} {u : Value} (W : Wt Ψ w) (hu : Den Ψ u (lst encP [])) : CallP 28 [u] w (fun r w' => Gr w w' ∧ ∃ Ψ' m, PLe Ψ Ψ' ∧ Wt Ψ' w' ∧ Den Ψ' r (lst encP m) ∧ SS m ∧ (∀ p, p ∈ m ↔ p ∈ ([] : List (Int × Int))) ∧ m.length ≤ ([] : List (Int × Int)).length) := by
  obtain ⟨r1, w1, k1, g1, Ψ1, p1, W1, hd1, _⟩ := clone_53 (F := encP) (fun _ => rfl) [] (by simp) W hu
  obtain ⟨ra, rc, rfl⟩ := hd1.len
  have k2 := sort_none ra rc w1
  have k3 := compact_shortT ra rc w1
  refine CallP.of (t := 2) (args := [u]) Tryz.func28 rfl rfl (by simp) (by show _ ≤ 10; simp) ?_
  have a0 : argsE [u] 0 = u := rfl
  refine TF.seq ?_
  refine TF.reg (call := oracle []) (by show 10 ≤ 1000000; decide) (by kernel_rfl) (oracle_ok _ (by simp)) ?_
  simp (maxSteps := 2000000) only [EVS, EVL, Nat.reduceEqDiff, Nat.reduceAdd, reduceIte, XE.then, XE.out, a0]
  refine TF.seq ?_
  refine TF.reg (call := oracle [(53, ⟨[u]⟩, w, .slice ra 0 rc, w1)]) (by show 10 ≤ 1000000; decide) (by kernel_rfl) (oracle_ok _ (by simpa using k1)) ?_
  simp (maxSteps := 2000000) only [EVS, EVL, Nat.reduceEqDiff, Nat.reduceAdd, reduceIte, XE.then, XE.out, a0]
  refine TF.seq ?_
  refine TF.reg (call := oracle [(54, ⟨[.slice ra 0 rc, .func (.func 55) #[] #[]]⟩, w1, .tuple ⟨[]⟩, w1)]) (by show 10 ≤ 1000000; decide) (by kernel_rfl) (oracle_ok _ (by simpa using k2)) ?_
  simp (maxSteps := 2000000) only [EVS, EVL, Nat.reduceEqDiff, Nat.reduceAdd, reduceIte, XE.then, XE.out, a0]
  refine TF.seq ?_
  refine TF.reg (call := oracle [(56, ⟨[.slice ra 0 rc]⟩, w1, .slice ra 0 rc, w1)]) (by show 10 ≤ 1000000; decide) (by kernel_rfl) (oracle_ok _ (by simpa using k3)) ?_
  simp (maxSteps := 2000000) only [EVS, EVL, Nat.reduceEqDiff, Nat.reduceAdd, reduceIte, XE.then, XE.out, a0]
  refine TF.ret ?_
  try simp (maxSteps := 2000000) only [EVS, EVL, Nat.reduceEqDiff, Nat.reduceAdd, reduceIte, XE.then, XE.out, a0]
  exact ⟨g1, Ψ1, [], p1, W1, hd1, List.Pairwise.nil, fun p => Iff.rfl, Nat.le_refl _⟩

theorem norm_some {l : List (Int × Int)} (h0 : l ≠ []) (hl : l.length ≤ 1000000) {Ψ : Psi} {w : AW} {a : Addr} {n c : Nat} (W : Wt Ψ w) (hu : Den Ψ (.slice (some a) n c) (lst encP l)) : CallP 28 [.slice (some a) n c] w (fun r w' => Gr w w' ∧ ∃ Ψ' m, PLe Ψ Ψ' ∧ Wt Ψ' w' ∧ Den Ψ' r (lst encP m) ∧ SS m ∧ (∀ p, p ∈ m ↔ p ∈ l) ∧ m.length ≤ l.length) := by
  obtain ⟨r1, w1, k1, g1, R, rfl, q1, q2, q3⟩ := clone53_row h0 hl W hu
  have hlow := W.low
  obtain ⟨w2, hu2, z2, l2, r2⟩ := updW (w := w1) (R := R) (o := .row (flatP (msort l)) 41 1) (by rw [g1.low]; omega)
  have k2 := sort_T h0 hl (c := l.length) q3 (Nat.le_refl _) hu2
  obtain ⟨r3, w3, k3, gS, m, c3, zs, rfl, q4, q5, hss, hmem, hlen, q6⟩ := compact_ok (msort l) (by rw [msort_len]; exact hl) (msort_sorted l) (w := w2) (R := R) (kk := 1) (s0 := w.size) (by rw [r2, if_pos rfl]) (Nat.le_refl _) q1 (by omega) (by rw [l2, g1.low]; exact hlow)
  rw [msort_len] at k3 hlen
  have g3 : Gr w w3 := ⟨gS.low.trans (l2.trans g1.low), by have := g1.size; have := gS.size; omega, fun i hi => by rw [gS.same i hi, r2, if_neg (by omega)]; exact g1.same i hi⟩
  have hD : Dens Ψ (flatP m ++ zs) (m.flatMap encP ++ List.replicate zs.length .any) := (dens_flatP Ψ m).append (Dens.anys q5)
  have W3 := W.add g3 q1 q6 q4 hD
  have p3 := Psi.add_le W (m.flatMap encP ++ List.replicate zs.length .any) q1
  have hlm : (m.flatMap encP).length = m.length * 2 := flat_len (f := encP) (k := 2) (fun _ => rfl) m
  have hd3 : Den (Ψ.add R (m.flatMap encP ++ List.replicate zs.length .any)) (.slice (some ⟨R, 0, none⟩) m.length c3) (lst encP m) := Den.slice (Psi.add_live _ _ _ _ (by rw [Nat.zero_add, List.length_append]; omega)) fun j d h => by rw [Nat.zero_add, Psi.add_at, List.getElem?_append_left (List.getElem?_eq_some_iff.1 h).1]; exact h
  refine CallP.of (t := 2) (args := [.slice (some a) n c]) Tryz.func28 rfl rfl (by simp) (by show _ ≤ 10; simp) ?_
  have a0 : argsE [.slice (some a) n c] 0 = .slice (some a) n c := rfl
  refine TF.seq ?_
  refine TF.reg (call := oracle []) (by show 10 ≤ 1000000; decide) (by kernel_rfl) (oracle_ok _ (by simp)) ?_
  simp (maxSteps := 2000000) only [EVS, EVL, Nat.reduceEqDiff, Nat.reduceAdd, reduceIte, XE.then, XE.out, a0]
  refine TF.seq ?_
  refine TF.reg (call := oracle [(53, ⟨[.slice (some a) n c]⟩, w, .slice (some ⟨R, 0, none⟩) l.length l.length, w1)]) (by show 10 ≤ 1000000; decide) (by kernel_rfl) (oracle_ok _ (by simpa using k1)) ?_
  simp (maxSteps := 2000000) only [EVS, EVL, Nat.reduceEqDiff, Nat.reduceAdd, reduceIte, XE.then, XE.out, a0]
  refine TF.seq ?_
  refine TF.reg (call := oracle [(54, ⟨[.slice (some ⟨R, 0, none⟩) l.length l.length, .func (.func 55) #[] #[]]⟩, w1, .tuple ⟨[]⟩, w2)]) (by show 10 ≤ 1000000; decide) (by kernel_rfl) (oracle_ok _ (by simpa using k2)) ?_
  simp (maxSteps := 2000000) only [EVS, EVL, Nat.reduceEqDiff, Nat.reduceAdd, reduceIte, XE.then, XE.out, a0]
  refine TF.seq ?_
  refine TF.reg (call := oracle [(56, ⟨[.slice (some ⟨R, 0, none⟩) l.length l.length]⟩, w2, .slice (some ⟨R, 0, none⟩) m.length c3, w3)]) (by show 10 ≤ 1000000; decide) (by kernel_rfl) (oracle_ok _ (by simpa using k3)) ?_
  simp (maxSteps := 2000000) only [EVS, EVL, Nat.reduceEqDiff, Nat.reduceAdd, reduceIte, XE.then, XE.out, a0]
  refine TF.ret ?_
  try simp (maxSteps := 2000000) only [EVS, EVL, Nat.reduceEqDiff, Nat.reduceAdd, reduceIte, XE.then, XE.out, a0]
  exact ⟨g3, _, m, p3, W3, hd3, hss, fun p => (hmem p).trans (msort_mem l p), hlen⟩


theorem norm_ok : NormOk := by
  intro l hl Ψ w u W hu
  by_cases h0 : l = []
  · subst h0; exact norm_nil W hu
  · rcases hu.l_inv with ⟨c, rfl, h1, h2⟩ | ⟨b, o, c, rfl, h1, h2⟩
    · exact absurd (List.eq_nil_of_length_eq_zero h1) h0
    · exact norm_some h0 hl W hu

end Go.Proofs.YtkjbbbjebidniaaGreatDoor
