/- Find: rows that are gathered in a captured box; annotation.every. -/
import Derived.Test.YtkjbbbjebidniaaGreatDoorZXE
namespace Go.Proofs.YtkjbbbjebidniaaGreatDoor
open Go Go.RowKit
set_option linter.unusedSimpArgs false
set_option linter.unusedVariables false
set_option maxRecDepth 100000
set_option maxHeartbeats 4000000

def cellsP (p : Int × Int) : List Value := [.int .i64 p.1, .int .i64 p.2]
def flatP (ps : List (Int × Int)) : List Value := ps.flatMap cellsP
theorem flatP_len (ps : List (Int × Int)) : (flatP ps).length = ps.length * 2 := by
  induction ps with
  | nil => rfl
  | cons a l ih => simp only [flatP, List.flatMap_cons, List.length_append, List.length_cons] at ih ⊢; rw [ih]; show 2 + _ = _; omega
theorem flatP_append (ps qs : List (Int × Int)) : flatP (ps ++ qs) = flatP ps ++ flatP qs := by simp [flatP]
theorem flatP_one (ps : List (Int × Int)) : (flatP ps).all oneC = true := by
  induction ps with
  | nil => rfl
  | cons a l ih => simp only [flatP, List.flatMap_cons, List.all_append, Bool.and_eq_true] at ih ⊢; exact ⟨rfl, ih⟩
theorem dens_flatP (Ψ : Psi) (ps : List (Int × Int)) : Dens Ψ (flatP ps) (ps.flatMap encP) := by
  induction ps with
  | nil => exact .nil
  | cons a l ih => exact .vI _ (.vI _ ih)
theorem dens_flatP_inv {Ψ : Psi} : ∀ {ps : List (Int × Int)} {us : List Value}, Dens Ψ us (ps.flatMap encP) → us = flatP ps
  | [], us, h => h.nil_inv
  | p :: l, us, h => by
    obtain ⟨_, rfl, q1⟩ := Dens.vI_inv (ds := _ :: l.flatMap encP) h
    obtain ⟨_, rfl, q2⟩ := q1.vI_inv
    rw [dens_flatP_inv q2]; rfl

/-- What the box B holds: a row of one's own with these pairs. -/
def Acc (s0 B : Nat) (ps : List (Int × Int)) (w : AW) : Prop :=
  s0 ≤ B ∧ B < w.size ∧ ∃ v, w.heap.get B = some (.row [v] 38 0) ∧
    ((ps = [] ∧ v = .slice none 0 0) ∨ (ps ≠ [] ∧ ∃ R, s0 ≤ R ∧ R ≠ B ∧ R < w.size ∧ v = .slice (some ⟨R, 0, none⟩) ps.length ps.length ∧ w.heap.get R = some (.row (flatP ps) 41 1)))
/-- Not the row that the box holds, nor the box. -/
def Keep (B i : Nat) (w : AW) : Prop := i ≠ B ∧ ∀ n c, w.cell ⟨B, 0, none⟩ ≠ some (.slice (some ⟨i, 0, none⟩) n c)
structure Up (B : Nat) (w w' : AW) : Prop where
  low : w'.low = w.low
  size : w.size ≤ w'.size
  same : ∀ i, i < w.size → Keep B i w → w'.heap.get i = w.heap.get i ∧ Keep B i w'
theorem Up.refl (B : Nat) (w : AW) : Up B w w := ⟨rfl, Nat.le_refl _, fun _ _ h => ⟨rfl, h⟩⟩
theorem Up.trans {B : Nat} {a b c : AW} (h : Up B a b) (k : Up B b c) : Up B a c := ⟨k.low.trans h.low, Nat.le_trans h.size k.size, fun i hi hk => by
  obtain ⟨h1, h2⟩ := h.same i hi hk
  obtain ⟨h3, h4⟩ := k.same i (Nat.lt_of_lt_of_le hi h.size) h2
  exact ⟨h3.trans h1, h4⟩⟩
theorem Gr.up {B : Nat} {w w' : AW} (g : Gr w w') (hB : B < w.size) : Up B w w' := ⟨g.low, g.size, fun i hi hk => ⟨g.same i hi, hk.1, fun n c => by rw [g.cell hB]; exact hk.2 n c⟩⟩
theorem Acc.keep {s0 B : Nat} {ps : List (Int × Int)} {w : AW} (A : Acc s0 B ps w) {i : Nat} (h : i < s0 ∨ w.size ≤ i) : Keep B i w := by
  obtain ⟨h1, h2, v, h3, h4⟩ := A
  refine ⟨by omega, fun n c hc => ?_⟩
  rw [cell_at h3] at hc
  simp only [List.getElem?_cons_zero, Option.some.injEq] at hc
  rcases h4 with ⟨_, rfl⟩ | ⟨_, R, q1, q2, q3, rfl, _⟩
  · cases hc
  · cases hc; omega
/-- A new block is none of the two, later too. -/
theorem Acc.keep_new {s0 B : Nat} {ps : List (Int × Int)} {w w' : AW} (A : Acc s0 B ps w) (g : Gr w w') {i : Nat} (h : i < s0 ∨ w.size ≤ i) : Keep B i w' := by
  have hk := A.keep h
  exact ⟨hk.1, fun n c => by rw [g.cell A.2.1]; exact hk.2 n c⟩
theorem Acc.gr {s0 B : Nat} {ps : List (Int × Int)} {w w' : AW} (A : Acc s0 B ps w) (g : Gr w w') : Acc s0 B ps w' := by
  obtain ⟨h1, h2, v, h3, h4⟩ := A
  refine ⟨h1, Nat.lt_of_lt_of_le h2 g.size, v, (g.same _ h2).trans h3, ?_⟩
  rcases h4 with h | ⟨h0, R, q1, q2, q3, q4, q5⟩
  · exact .inl h
  · exact .inr ⟨h0, R, q1, q2, Nat.lt_of_lt_of_le q3 g.size, q4, (g.same _ q3).trans q5⟩
theorem Acc.rs {s0 B : Nat} {ps : List (Int × Int)} {w : AW} (A : Acc s0 B ps w) : Acc s0 B ps w.rs := A
theorem Acc.lw {s0 B : Nat} {ps : List (Int × Int)} {w : AW} (A : Acc s0 B ps w) (l : Nat) : Acc s0 B ps (w.lw l) := A
theorem Up.sameBelow {s0 B : Nat} {ps : List (Int × Int)} {w w' : AW} (u : Up B w w') (A : Acc s0 B ps w) (hs : s0 ≤ w.size) {i : Nat} (hi : i < s0) : w'.heap.get i = w.heap.get i := (u.same i (by omega) (A.keep (.inl hi))).1
theorem Up.wt {s0 B : Nat} {ps : List (Int × Int)} {w w' : AW} {Ψ : Psi} (u : Up B w w') (A : Acc s0 B ps w) (W : Wt Ψ w) (hΨ : ∀ b o, Ψ.live b o → b < s0) : Wt Ψ w' where
  low := by rw [u.low]; exact Nat.le_trans W.low u.size
  cell := fun b o d h => by
    obtain ⟨x, h1, h2⟩ := W.cell b o d h
    have hl := W.lv _ _ _ h
    have hb := (W.live _ _ hl).1
    refine ⟨x, ?_, h2⟩
    have := (u.same b hb (A.keep (.inl (hΨ _ _ hl)))).1
    simp only [AW.cell, this]; exact h1
  live := fun b o h => by
    obtain ⟨h1, c, e, k, h2, h3⟩ := W.live b o h
    exact ⟨Nat.lt_of_lt_of_le h1 u.size, c, e, k, by rw [(u.same b h1 (A.keep (.inl (hΨ _ _ h)))).1]; exact h2, h3⟩
  lv := W.lv

theorem Den.none_val {Ψ : Psi} {v : Value} (h : v = .slice none 0 0) : Den Ψ v (lst encP []) := by subst h; exact ⟨rfl, rfl, rfl⟩

/-- What append leaves. -/
def AppP (s0 B : Nat) (ps qs : List (Int × Int)) (v : Value) (w : AW) (r : Value) (w1 : AW) : Prop :=
  w.size ≤ w1.size ∧ (∀ i, i < w.size → (∀ n c, v ≠ .slice (some ⟨i, 0, none⟩) n c) → w1.heap.get i = w.heap.get i) ∧
  ((ps ++ qs = [] ∧ r = .slice none 0 0) ∨ (ps ++ qs ≠ [] ∧ ∃ R, s0 ≤ R ∧ R ≠ B ∧ R < w1.size ∧ r = .slice (some ⟨R, 0, none⟩) (ps ++ qs).length (ps ++ qs).length ∧ w1.heap.get R = some (.row (flatP (ps ++ qs)) 41 1) ∧ (w.size ≤ R ∨ ∃ n c, v = .slice (some ⟨R, 0, none⟩) n c)))

theorem acc_append {s0 B : Nat} {ps qs : List (Int × Int)} {w : AW} {v x : Value} (A : Acc s0 B ps w) (hs : s0 ≤ w.size) (hv : w.cell ⟨B, 0, none⟩ = some v) (hx : Rd w 2 x qs.length (flatP qs)) (hn : ps.length + qs.length ≤ 1000000) :
    ∃ r w1, appendA Tryz.prog #[38, 38] #[v, x] w = .ok (r, w1) ∧ (w.low ≤ s0 → w1.low = w.low) ∧ (s0 ≤ w.low → s0 ≤ w1.low) ∧ AppP s0 B ps qs v w r w1 := by
  obtain ⟨h1, h2, v', h3, h4⟩ := A
  rw [cell_at h3] at hv
  simp only [List.getElem?_cons_zero, Option.some.injEq] at hv
  subst hv
  by_cases hq : qs = []
  · subst hq
    rcases h4 with ⟨rfl, rfl⟩ | ⟨h0, R, q1, q2, q3, rfl, q5⟩
    · exact ⟨_, w, app_none ap_38 hx (m := 0) (cap := 0) (c := []) (by simp [firstA]) (Nat.le_refl _), fun _ => rfl, fun h => h, Nat.le_refl _, fun _ _ _ => rfl, .inl ⟨rfl, rfl⟩⟩
    · refine ⟨_, w, app_none ap_38 hx (c := flatP ps) ?_ (Nat.le_refl _), fun _ => rfl, fun h => h, Nat.le_refl _, fun _ _ _ => rfl, .inr ?_⟩
      · show w.cells ⟨R, 0, none⟩ (ps.length * 2) = _
        exact row_cells q5 (flatP_len ps)
      · rw [List.append_nil]
        exact ⟨h0, R, q1, q2, q3, rfl, q5, .inr ⟨_, _, rfl⟩⟩
  · have hq1 : 1 ≤ qs.length := by cases qs with | nil => exact absurd rfl hq | cons a l => simp
    have hb : (2 * (ps.length + qs.length) + 200) * (16 + 1) ≤ 281474976710656 := by omega
    have hne : ps ++ qs ≠ [] := fun h => hq (List.append_eq_nil_iff.1 h).2
    rcases h4 with ⟨rfl, rfl⟩ | ⟨h0, R, q1, q2, q3, rfl, q5⟩
    · have e := app_grow ap_38 (base := none) (m := 0) (q := qs.length) (c := []) hq1 (by simpa using hb) hx (by simp [firstA]) (by simp)
      obtain ⟨w1, e1, g1, z1, r1⟩ := growA_new (n := 2) (m := 0) (need := 0 + qs.length) (el := 41) (cells := [] ++ flatP qs) (w := w) (base := none) (.inl rfl)
      rw [e1] at e
      refine ⟨_, w1, e, fun _ => g1.low, fun h => by rw [g1.low]; exact h, g1.size, fun i hi _ => g1.same i hi, .inr ⟨hne, w.size, hs, by omega, by omega, by simp, by simpa using r1, .inl (Nat.le_refl _)⟩⟩
    · have hm : 1 ≤ ps.length := by cases ps with | nil => exact absurd rfl h0 | cons a l => simp
      have e := app_grow ap_38 (base := some ⟨R, 0, none⟩) (m := ps.length) (q := qs.length) (c := flatP ps) hq1 hb hx (by show w.cells ⟨R, 0, none⟩ (ps.length * 2) = _; exact row_cells q5 (flatP_len ps)) (flatP_len ps)
      obtain ⟨w1, e1, g1, z1, r1⟩ := growA_re (n := 2) (m := ps.length) (need := ps.length + qs.length) (cells := flatP ps ++ flatP qs) q5 hm (flatP_len ps) (by rw [← flatP_append]; exact flatP_one _)
      rw [e1] at e
      refine ⟨_, w1, e, fun h => by rw [g1.low, if_pos (by omega)], fun h => by rw [g1.low]; split <;> omega, g1.size, fun i hi hv => g1.same i hi (fun e => by subst e; exact hv _ _ rfl), .inr ⟨hne, w.size, hs, by omega, by omega, by simp, by rw [flatP_append]; exact r1 q3, .inl (Nat.le_refl _)⟩⟩

/-- .. and is stored. -/
theorem acc_store {s0 B : Nat} {ps qs : List (Int × Int)} {w w1 : AW} {v r : Value} (A : Acc s0 B ps w) (hv : w.cell ⟨B, 0, none⟩ = some v) (h : AppP s0 B ps qs v w r w1) :
    ∃ w2, storeW Tryz.prog 38 (.pointer (some ⟨B, 0, none⟩)) r w1 = some (undef, w2) ∧ w2.low = (if w1.low ≤ B then w1.low else B) ∧ w.size ≤ w2.size ∧ (∀ i, i < w.size → Keep B i w → w2.heap.get i = w.heap.get i ∧ Keep B i w2) ∧ Acc s0 B (ps ++ qs) w2 := by
  obtain ⟨h1, h2, v', h3, h4⟩ := A
  have hv' := hv
  rw [cell_at h3] at hv'
  simp only [List.getElem?_cons_zero, Option.some.injEq] at hv'
  subst hv'
  obtain ⟨a1, a3, a4⟩ := h
  have hB : w1.heap.get B = some (.row [v'] 38 0) := (a3 B h2 (fun n c e => by
    rcases h4 with ⟨_, rfl⟩ | ⟨_, R, q1, q2, q3, rfl, _⟩
    · cases e
    · cases e; exact q2 rfl)).trans h3
  have hr1 : oneC r = true := by
    rcases a4 with ⟨_, rfl⟩ | ⟨_, R, _, _, _, rfl, _⟩ <;> rfl
  obtain ⟨w2, s1, s2, s3, s4⟩ := storeW_ok (t := 38) (n := 1) st_38 (o := 0) (flatten_one hr1) rfl (by simp [hr1]) hB (Nat.zero_le _) (by simp)
  have hrow : w2.heap.get B = some (.row [r] 38 0) := by rw [s4, if_pos rfl]; rfl
  refine ⟨w2, s1, s3, by omega, fun i hi hk => ?_, h1, by omega, r, hrow, ?_⟩
  · have e1 : w2.heap.get i = w.heap.get i := by
      rw [s4, if_neg hk.1]
      exact a3 i hi (fun n c e => hk.2 n c (by rw [hv, e]))
    refine ⟨e1, hk.1, fun n c hc => ?_⟩
    rw [cell_at hrow] at hc
    simp only [List.getElem?_cons_zero, Option.some.injEq] at hc
    rcases a4 with ⟨_, rfl⟩ | ⟨_, R, q1, q2, q3, rfl, _, q6⟩
    · cases hc
    · cases hc
      rcases q6 with q6 | ⟨n', c', q6⟩
      · omega
      · exact hk.2 n' c' (by rw [hv, q6])
  · rcases a4 with h | ⟨h0, R, q1, q2, q3, q4, q5, _⟩
    · exact .inl h
    · exact .inr ⟨h0, R, q1, q2, by omega, q4, by rw [s4, if_neg q2]; exact q5⟩

theorem acc_put {s0 B : Nat} {ps qs : List (Int × Int)} {w : AW} {v x : Value} (A : Acc s0 B ps w) (hs : s0 ≤ w.size) (hlow : w.low ≤ s0) (hv : w.cell ⟨B, 0, none⟩ = some v) (hx : Rd w 2 x qs.length (flatP qs)) (hn : ps.length + qs.length ≤ 1000000) :
    ∃ r w1 w2, appendA Tryz.prog #[38, 38] #[v, x] w = .ok (r, w1) ∧ storeW Tryz.prog 38 (.pointer (some ⟨B, 0, none⟩)) r w1 = some (undef, w2) ∧ Up B w w2 ∧ Acc s0 B (ps ++ qs) w2 := by
  obtain ⟨r, w1, e1, hl, _, hap⟩ := acc_append A hs hv hx hn
  obtain ⟨w2, e2, l2, z2, sm, A2⟩ := acc_store A hv hap
  have h1 := A.1
  exact ⟨r, w1, w2, e1, e2, ⟨by rw [l2, hl hlow, if_pos (by omega)], z2, sm⟩, A2⟩
/-- .. in a region whose order is drawn. -/
theorem acc_putD {s0 B : Nat} {ps qs : List (Int × Int)} {w : AW} {v x : Value} (A : Acc s0 B ps w) (hs : s0 ≤ w.size) (hlow : w.low ≤ s0) (hv : w.cell ⟨B, 0, none⟩ = some v) (hx : Rd w 2 x qs.length (flatP qs)) (hn : ps.length + qs.length ≤ 1000000) :
    ∃ r w1 w2, appendA Tryz.prog #[38, 38] #[v, x] w.rs = .ok (r, w1) ∧ storeW Tryz.prog 38 (.pointer (some ⟨B, 0, none⟩)) r (w1.lw w.low).rs = some (undef, w2) ∧ Up B w (w2.lw (w1.lw w.low).low) ∧ Acc s0 B (ps ++ qs) (w2.lw (w1.lw w.low).low) := by
  obtain ⟨r, w1, e1, _, hl, hap⟩ := acc_append (w := w.rs) A.rs hs hv hx hn
  have hl1 : (w1.lw w.low).low = w.low := by
    have := hl (show s0 ≤ w.rs.low from hs)
    show (bif Nat.ble w.low w1.low then w.low else w1.low) = w.low
    rw [Nat.ble_eq_true_of_le (by omega)]; rfl
  obtain ⟨w2, e2, l2, z2, sm, A2⟩ := acc_store (w := w) (w1 := (w1.lw w.low).rs) A hv hap
  have h1 := A.1
  refine ⟨r, w1, w2, e1, e2, ⟨?_, z2, sm⟩, A2⟩
  rw [hl1]
  show (bif Nat.ble w.low w2.low then w.low else w2.low) = w.low
  have : s0 ≤ w2.low := by
    rw [l2]
    have h2 := hap.1
    have : (w1.lw w.low).rs.low = w1.size := rfl
    have : w.rs.size = w.size := rfl
    split <;> omega
  rw [Nat.ble_eq_true_of_le (by omega)]; rfl


theorem callV_52 {call : CallA} (v c : Value) (w : AW) : callV Tryz.prog call (.func (.func 52) #[] #[c]) #[v] w = call 52 #[v, c] w := by
  unfold callV
  rfl
theorem callV_26 {call : CallA} (v c : Value) (w : AW) : callV Tryz.prog call (.func (.func 26) #[] #[c]) #[v] w = call 26 #[v, c] w := by
  unfold callV
  rfl
theorem FinR.none {fn : Func} {Φ : Value → AW → Prop} {e : Env} {w : AW} (hr : fn.results.toList = []) (h : Φ (.tuple ⟨[]⟩) w) : FinR fn Φ .normal e w := ⟨.inl rfl, [], by rw [hr]; rfl, h⟩
theorem bs_38 : bs1Ok Tryz.prog 38 2 41 = true := by kernel_rfl
theorem z_38 : zeroOf Tryz.prog 38 = some [.slice none 0 0] := by kernel_rfl

section
variable {α : Type}
def vrK (f : Fac α) : List (Int × Int) := if f.kind = 0 then [(f.tb, f.sq)] else []
def vrF (vr : α → List (Int × Int)) (f : Fac α) : List (Int × Int) := (vrK f ++ f.args.flatMap vr) ++ f.items.flatMap (fun p => vr p.2)
def vrT (vr : α → List (Int × Int)) (t : Term α) : List (Int × Int) := t.facs.flatMap (vrF vr)
def vrD (vr : α → List (Int × Int)) (d : List (Term α)) : List (Int × Int) := d.flatMap (vrT vr)
theorem fm_step {β γ : Type} (f : β → List γ) {l : List β} {i : Nat} {x : β} (h : l[i]? = some x) : (l.take (i + 1)).flatMap f = (l.take i).flatMap f ++ f x := by rw [List.take_add_one, h]; simp
theorem fm_all {β γ : Type} (f : β → List γ) {l : List β} {i : Nat} (h : ¬ i < l.length) : (l.take i).flatMap f = l.flatMap f := by rw [List.take_of_length_le (by omega)]
theorem fm_le {β γ : Type} (f : β → List γ) {l : List β} {i : Nat} {x : β} (h : l[i]? = some x) : ((l.take i).flatMap f).length + (f x).length ≤ (l.flatMap f).length := by
  have h1 : l.flatMap f = (l.take (i + 1)).flatMap f ++ (l.drop (i + 1)).flatMap f := by rw [← List.flatMap_append, List.take_append_drop]
  rw [h1, fm_step f h]; simp <;> omega

theorem clo52_ok (f : Fac α) {va vi : Value} {s0 B : Nat} {ps : List (Int × Int)} {w : AW} (A : Acc s0 B ps w) (hlow : w.low ≤ s0) (hn : ps.length + (vrK f).length ≤ 1000000) : CallP 52 [atomV f va vi, .pointer (some ⟨B, 0, none⟩)] w (fun r w' => Up B w w' ∧ Acc s0 B (ps ++ vrK f) w') := by
  obtain ⟨w1, b1, g1, z1, r1⟩ := boxW_ok 113 (atomV f va vi) w
  have c0 : w1.cell ⟨w.size, 0, none⟩ = some (.int .i64 f.kind) := by rw [cell_at r1]; rfl
  have c1 := cells_row r1 1 2 (by show 3 ≤ 10; decide)
  change w1.cells _ 2 = some [.int .i64 f.tb, .int .i64 f.sq] at c1
  have A1 := A.gr g1
  have hB := A.1
  have hBz := A.2.1
  refine CallP.ofR (args := [atomV f va vi, .pointer (some ⟨B, 0, none⟩)]) Tryz.func52 rfl (by simp) (by show _ ≤ 11; simp) ?_
  have a0 : argsE [atomV f va vi, .pointer (some ⟨B, 0, none⟩)] 0 = atomV f va vi := rfl
  have a1 : argsE [atomV f va vi, .pointer (some ⟨B, 0, none⟩)] 1 = .pointer (some ⟨B, 0, none⟩) := rfl
  refine TF.seq ?_
  refine TF.reg (call := oracle []) (by show 11 ≤ 1000000; decide) (by kernel_rfl) (oracle_ok _ (by simp)) ?_
  simp (maxSteps := 2000000) only [EVS, EVL, Nat.reduceEqDiff, Nat.reduceAdd, reduceIte, XE.then, XE.out, b1, c0, c1, a0, a1]
  refine TF.seq ?_
  refine TF.reg (call := oracle []) (by show 11 ≤ 1000000; decide) (by kernel_rfl) (oracle_ok _ (by simp)) ?_
  simp (maxSteps := 2000000) only [EVS, EVL, Nat.reduceEqDiff, Nat.reduceAdd, reduceIte, XE.then, XE.out, b1, c0, c1, a0, a1]
  by_cases hk : f.kind = 0
  · have hc_hk := hk
    refine TF.cond (t := true) rfl (by simp only [EVS]; simp [hk]) ?_
    simp (maxSteps := 2000000) only [EVS, EVL, Nat.reduceEqDiff, Nat.reduceAdd, reduceIte, XE.then, XE.out, b1, c0, c1, a0, a1]
    obtain ⟨v, hv⟩ : ∃ v, w1.cell ⟨B, 0, none⟩ = some v := by obtain ⟨_, _, v, h3, _⟩ := A1; exact ⟨v, by rw [cell_at h3]; rfl⟩
    obtain ⟨w2, b2, g2, z2, r2⟩ := bs1W_ok bs_38 (.agg ⟨[.int .i64 f.tb, .int .i64 f.sq]⟩) (l := [.int .i64 f.tb, .int .i64 f.sq]) rfl rfl w1
    have A2 := A1.gr g2
    obtain ⟨r, w3, w4, e3, e4, u4, A4⟩ := acc_put (qs := [(f.tb, f.sq)]) A2 (by omega) (by rw [g2.low, g1.low]; exact hlow) (g2.cell' (by omega) hv) (x := .slice (some ⟨w1.size, 0, none⟩) 1 1) ⟨rfl, row_cells r2 rfl, rfl⟩ (by rw [show vrK f = [(f.tb, f.sq)] by simp [vrK, hk]] at hn; exact hn)
    refine TF.reg (call := oracle []) (by show 11 ≤ 1000000; decide) (by kernel_rfl) (oracle_ok _ (by simp)) ?_
    simp (maxSteps := 2000000) only [EVS, EVL, Nat.reduceEqDiff, Nat.reduceAdd, reduceIte, XE.then, XE.out, b1, c0, c1, a0, a1, hv, b2, e3, e4]
    refine FinR.none rfl ⟨((g1.trans g2).up hBz).trans u4, ?_⟩
    rw [show vrK f = [(f.tb, f.sq)] by simp [vrK, hk]]; exact A4
  · have hc_hk := hk
    refine TF.cond (t := false) rfl (by simp only [EVS]; simp [hk]) ?_
    simp (maxSteps := 2000000) only [EVS, EVL, Nat.reduceEqDiff, Nat.reduceAdd, reduceIte, XE.then, XE.out, b1, c0, c1, a0, a1]
    refine TF.skip ?_
    try simp (maxSteps := 2000000) only [EVS, EVL, Nat.reduceEqDiff, Nat.reduceAdd, reduceIte, XE.then, XE.out, b1, c0, c1, a0, a1]
    refine FinR.none rfl ⟨g1.up hBz, ?_⟩
    rw [show vrK f = [] by simp [vrK, hk], List.append_nil]; exact A1


/-- What every gathers. -/
def EvOk (ok : α → Prop) (enc : α → Dt) (vr : α → List (Int × Int)) : Prop := ∀ a, ok a → ∀ {Ψ : Psi} {w : AW} {u : Value} {s0 B : Nat} {ps : List (Int × Int)}, Wt Ψ w → Den Ψ u (enc a) → (∀ b o, Ψ.live b o → b < s0) → w.low ≤ s0 → Acc s0 B ps w → ps.length + (vr a).length ≤ 1000000 →
  CallP 51 [u, .func (.func 52) #[] #[.pointer (some ⟨B, 0, none⟩)]] w (fun r w' => Up B w w' ∧ Acc s0 B (ps ++ vr a) w')
variable {enc : α → Dt} {ok : α → Prop} {vr : α → List (Int × Int)}

theorem every_ok (H : EvOk ok enc vr) : EvOk (okD 1000000 ok) (encAnn enc) (vrD vr) := by
  intro d hd Ψ w u s0 B ps W hu hΨ hlow A hn
  obtain ⟨hdl, hdt⟩ := hd
  obtain ⟨ua, uc, rfl⟩ := hu.len
  have hA1 := A.1
  have hA2 := A.2.1
  refine CallP.ofR (args := [.slice ua d.length uc, .func (.func 52) #[] #[.pointer (some ⟨B, 0, none⟩)]]) Tryz.func51 rfl (by simp) (by show _ ≤ 56; simp) ?_
  have a0 : argsE [.slice ua d.length uc, .func (.func 52) #[] #[.pointer (some ⟨B, 0, none⟩)]] 0 = .slice ua d.length uc := rfl
  have a1 : argsE [.slice ua d.length uc, .func (.func 52) #[] #[.pointer (some ⟨B, 0, none⟩)]] 1 = .func (.func 52) #[] #[.pointer (some ⟨B, 0, none⟩)] := rfl
  refine TF.seq ?_
  refine TF.reg (call := oracle []) (by show 56 ≤ 1000000; decide) (by kernel_rfl) (oracle_ok _ (by simp)) ?_
  simp (maxSteps := 2000000) only [EVS, EVL, Nat.reduceEqDiff, Nat.reduceAdd, reduceIte, XE.then, XE.out, a0, a1]
  refine TF.block ?_
  generalize hw0 : w = w0 at *
  refine TF.loopH (fun e w => ∃ i : Nat, i ≤ d.length ∧ e 1 = .func (.func 52) #[] #[.pointer (some ⟨B, 0, none⟩)] ∧ e 12 = .slice ua d.length uc ∧ e 13 = .int .i64 (d.length : Int) ∧ e 14 = .int .i64 (i : Int) ∧ Wt Ψ w ∧ Up B w0 w ∧ Acc s0 B (ps ++ (d.take i).flatMap (vrT vr)) w) (fun e w => d.length - natOf (e 14)) ?_ ?_
  · refine ⟨0, Nat.zero_le _, (by simp (maxSteps := 2000000) only [EVS, EVL, Nat.reduceEqDiff, Nat.reduceAdd, reduceIte, XE.then, XE.out, a0, a1]), (by simp (maxSteps := 2000000) only [EVS, EVL, Nat.reduceEqDiff, Nat.reduceAdd, reduceIte, XE.then, XE.out, a0, a1]), (by simp (maxSteps := 2000000) only [EVS, EVL, Nat.reduceEqDiff, Nat.reduceAdd, reduceIte, XE.then, XE.out, a0, a1]), rfl, W, Up.refl _ _, ?_⟩
    rw [List.take_zero, List.flatMap_nil, List.append_nil]; exact A
  · rintro e w2 ⟨i, hi1, h1, h12, h13, h14, W2, u2, A2⟩
    have s2 := u2.size
    refine TF.seq ?_
    refine TF.reg (call := oracle []) (by show 56 ≤ 1000000; decide) (by kernel_rfl) (oracle_ok _ (by simp)) ?_
    simp (maxSteps := 2000000) only [EVS, EVL, Nat.reduceEqDiff, Nat.reduceAdd, reduceIte, XE.then, XE.out, h1, h12, h13, h14]
    refine TF.seq ?_
    by_cases hlt : i < d.length
    · have hc_hlt := hlt
      refine TF.cond (t := true) rfl (by simp (maxSteps := 2000000) only [EVS, EVL, Nat.reduceEqDiff, Nat.reduceAdd, reduceIte, XE.then, XE.out, h1, h12, h13, h14, hlt]) ?_
      simp (maxSteps := 2000000) only [EVS, EVL, Nat.reduceEqDiff, Nat.reduceAdd, reduceIte, XE.then, XE.out, h1, h12, h13, h14, hlt]
      refine TF.skip ?_
      try simp (maxSteps := 2000000) only [EVS, EVL, Nat.reduceEqDiff, Nat.reduceAdd, reduceIte, XE.then, XE.out, h1, h12, h13, h14, hlt]
      refine TF.seq ?_
      refine TF.block ?_
      refine TF.seq ?_
      have hx1 : d[i]? = some d[i] := List.getElem?_eq_getElem hlt
      obtain ⟨hfl, hff⟩ := hdt _ (List.getElem_mem hlt)
      generalize d[i] = x at *
      obtain ⟨ub, uo, uc', fu, e1, _, hub, hcx, hdx, _⟩ := W2.rdT hu hx1
      cases e1
      have hle1 := fm_le (vrT vr) hx1
      change _ ≤ (vrD vr d).length at hle1
      obtain ⟨w3, w4, b3, b4, g4, z4, r4⟩ := new_box al_121 st_121 w2 W2.low [.int .i64 x.coef, fu] rfl (by have q5 := hdx.one; simp [oneI, q5])
      have f1 : w4.cell ⟨w2.size, 1, none⟩ = some fu := by rw [cell_at r4]; rfl
      have W4 := W2.gr g4
      have A4 := A2.gr g4
      have u4 := u2.trans (g4.up (by omega))
      obtain ⟨fa, fc, rfl⟩ := hdx.len
      have s4 := u4.size
      refine TF.reg (call := oracle []) (by show 56 ≤ 1000000; decide) (by kernel_rfl) (oracle_ok _ (by simp)) ?_
      simp (maxSteps := 2000000) only [EVS, EVL, Nat.reduceEqDiff, Nat.reduceAdd, reduceIte, XE.then, XE.out, h1, h12, h13, h14, hlt, hcx, b3, b4]
      refine TF.seq ?_
      refine TF.reg (call := oracle []) (by show 56 ≤ 1000000; decide) (by kernel_rfl) (oracle_ok _ (by simp)) ?_
      simp (maxSteps := 2000000) only [EVS, EVL, Nat.reduceEqDiff, Nat.reduceAdd, reduceIte, XE.then, XE.out, h1, h12, h13, h14, hlt, f1]
      refine TF.block ?_
      generalize hP : ps ++ (d.take i).flatMap (vrT vr) = P at *
      have hPl : P.length = ps.length + ((d.take i).flatMap (vrT vr)).length := by rw [← hP, List.length_append]
      refine TF.loopH (fun e w => ∃ j : Nat, j ≤ x.facs.length ∧ e 1 = .func (.func 52) #[] #[.pointer (some ⟨B, 0, none⟩)] ∧ e 12 = .slice (some ⟨ub, uo, none⟩) d.length uc ∧ e 13 = .int .i64 (d.length : Int) ∧ e 14 = .int .i64 (i : Int) ∧ e 19 = .slice fa x.facs.length fc ∧ e 20 = .int .i64 (x.facs.length : Int) ∧ e 21 = .int .i64 (j : Int) ∧ Wt Ψ w ∧ Up B w0 w ∧ Acc s0 B (P ++ (x.facs.take j).flatMap (vrF vr)) w) (fun e w => x.facs.length - natOf (e 21)) ?_ ?_
      · refine ⟨0, Nat.zero_le _, (by simp (maxSteps := 2000000) only [EVS, EVL, Nat.reduceEqDiff, Nat.reduceAdd, reduceIte, XE.then, XE.out, h1, h12, h13, h14, hlt]), (by simp (maxSteps := 2000000) only [EVS, EVL, Nat.reduceEqDiff, Nat.reduceAdd, reduceIte, XE.then, XE.out, h1, h12, h13, h14, hlt]), (by simp (maxSteps := 2000000) only [EVS, EVL, Nat.reduceEqDiff, Nat.reduceAdd, reduceIte, XE.then, XE.out, h1, h12, h13, h14, hlt]), (by simp (maxSteps := 2000000) only [EVS, EVL, Nat.reduceEqDiff, Nat.reduceAdd, reduceIte, XE.then, XE.out, h1, h12, h13, h14, hlt]), (by simp (maxSteps := 2000000) only [EVS, EVL, Nat.reduceEqDiff, Nat.reduceAdd, reduceIte, XE.then, XE.out, h1, h12, h13, h14, hlt]), (by simp (maxSteps := 2000000) only [EVS, EVL, Nat.reduceEqDiff, Nat.reduceAdd, reduceIte, XE.then, XE.out, h1, h12, h13, h14, hlt]), rfl, W4, u4, ?_⟩
        rw [List.take_zero, List.flatMap_nil, List.append_nil]; exact A4
      · rintro e w7 ⟨j, hj1, h1, h12, h13, h14, h19, h20, h21, W7, u7, A7⟩
        have s7 := u7.size
        refine TF.seq ?_
        refine TF.reg (call := oracle []) (by show 56 ≤ 1000000; decide) (by kernel_rfl) (oracle_ok _ (by simp)) ?_
        simp (maxSteps := 2000000) only [EVS, EVL, Nat.reduceEqDiff, Nat.reduceAdd, reduceIte, XE.then, XE.out, h1, h12, h13, h14, hlt, h19, h20, h21]
        refine TF.seq ?_
        by_cases hlt2 : j < x.facs.length
        · have hc_hlt2 := hlt2
          refine TF.cond (t := true) rfl (by simp (maxSteps := 2000000) only [EVS, EVL, Nat.reduceEqDiff, Nat.reduceAdd, reduceIte, XE.then, XE.out, h1, h12, h13, h14, hlt, h19, h20, h21, hlt2]) ?_
          simp (maxSteps := 2000000) only [EVS, EVL, Nat.reduceEqDiff, Nat.reduceAdd, reduceIte, XE.then, XE.out, h1, h12, h13, h14, hlt, h19, h20, h21, hlt2]
          refine TF.skip ?_
          try simp (maxSteps := 2000000) only [EVS, EVL, Nat.reduceEqDiff, Nat.reduceAdd, reduceIte, XE.then, XE.out, h1, h12, h13, h14, hlt, h19, h20, h21, hlt2]
          refine TF.seq ?_
          refine TF.block ?_
          refine TF.seq ?_
          have hy1 : x.facs[j]? = some x.facs[j] := List.getElem?_eq_getElem hlt2
          obtain ⟨hal, hil, hao, hio⟩ := hff _ (List.getElem_mem hlt2)
          generalize x.facs[j] = y at *
          obtain ⟨fb, fo, fc', av, iv, e2, _, hub2, hcy, hda, hdi2, _⟩ := W7.rdF hdx hy1
          cases e2
          have hle2 := fm_le (vrF vr) hy1
          change _ ≤ (vrT vr x).length at hle2
          have hle3 : (vrF vr y).length = (vrK y).length + (y.args.flatMap vr).length + (y.items.flatMap (fun p => vr p.2)).length := by unfold vrF; rw [List.length_append, List.length_append]
          have hvk : (vrK y).length ≤ 1 := by unfold vrK; split <;> simp
          obtain ⟨w8, w9, b8, b9, g9, z9, r9⟩ := new_box al_123 st_123 w7 W7.low [.int .i64 y.kind, .int .i64 y.tb, .int .i64 y.sq, av, .int .i64 y.fn, iv, .int .i64 y.op, .int .i64 y.bound.kind, .int .i64 y.bound.int, .string y.bound.text, .int .i64 y.exp] rfl (by have q5 := hda.one; have q6 := hdi2.one; simp [oneI, oneS, q5, q6])
          have f9 := cells_row r9 0 10 (by show 10 ≤ 11; decide)
          change w9.cells _ 10 = some (atomL y av iv) at f9
          have K9 := A7.keep_new g9 (i := w7.size) (.inr (Nat.le_refl _))
          refine TF.reg (call := oracle []) (by show 56 ≤ 1000000; decide) (by kernel_rfl) (oracle_ok _ (by simp)) ?_
          simp (maxSteps := 2000000) only [EVS, EVL, Nat.reduceEqDiff, Nat.reduceAdd, reduceIte, XE.then, XE.out, h1, h12, h13, h14, hlt, h19, h20, h21, hlt2, hcy, b8, b9]
          refine TF.seq ?_
          obtain ⟨rv, w10, k10, u10, A10⟩ := clo52_ok y (va := av) (vi := iv) (A7.gr g9) (by rw [g9.low, u7.low]; exact hlow) (by rw [List.length_append]; omega)
          obtain ⟨r10, K10⟩ := u10.same _ (by omega) K9
          rw [r9] at r10
          have uu10 := u7.trans ((g9.up (by omega)).trans u10)
          have W10 := u10.wt (A7.gr g9) (W7.gr g9) hΨ
          have c10 : w10.cell ⟨w7.size, 3, none⟩ = some av := by rw [cell_at r10]; rfl
          have s10 := uu10.size
          refine TF.reg (call := oracle [(52, ⟨[atomV y av iv, .pointer (some ⟨B, 0, none⟩)]⟩, w9, rv, w10)]) (by show 56 ≤ 1000000; decide) (by kernel_rfl) (oracle_ok _ (by simpa using k10)) ?_
          simp (maxSteps := 2000000) only [EVS, EVL, Nat.reduceEqDiff, Nat.reduceAdd, reduceIte, XE.then, XE.out, h1, h12, h13, h14, hlt, h19, h20, h21, hlt2, f9, res_tmp, callV_52]
          refine TF.seq ?_
          refine TF.seq ?_
          obtain ⟨aa, ac, rfl⟩ := hda.len
          obtain ⟨ia, ic, rfl⟩ := hdi2.len
          refine TF.reg (call := oracle []) (by show 56 ≤ 1000000; decide) (by kernel_rfl) (oracle_ok _ (by simp)) ?_
          simp (maxSteps := 2000000) only [EVS, EVL, Nat.reduceEqDiff, Nat.reduceAdd, reduceIte, XE.then, XE.out, h1, h12, h13, h14, hlt, h19, h20, h21, hlt2, c10]
          refine TF.block ?_
          generalize hP1 : P ++ (x.facs.take j).flatMap (vrF vr) ++ vrK y = P1 at *
          have hP1l : P1.length = P.length + ((x.facs.take j).flatMap (vrF vr)).length + (vrK y).length := by rw [← hP1, List.length_append, List.length_append]
          refine TF.loopH (fun e w => ∃ q : Nat, q ≤ y.args.length ∧ e 1 = .func (.func 52) #[] #[.pointer (some ⟨B, 0, none⟩)] ∧ e 12 = .slice (some ⟨ub, uo, none⟩) d.length uc ∧ e 13 = .int .i64 (d.length : Int) ∧ e 14 = .int .i64 (i : Int) ∧ e 19 = .slice (some ⟨fb, fo, none⟩) x.facs.length fc ∧ e 20 = .int .i64 (x.facs.length : Int) ∧ e 21 = .int .i64 (j : Int) ∧ e 7 = .pointer (some ⟨w7.size, 0, none⟩) ∧ e 31 = .slice aa y.args.length ac ∧ e 32 = .int .i64 (y.args.length : Int) ∧ e 33 = .int .i64 (q : Int) ∧ Wt Ψ w ∧ Up B w0 w ∧ Acc s0 B (P1 ++ (y.args.take q).flatMap vr) w ∧ w.heap.get w7.size = some (.row [.int .i64 y.kind, .int .i64 y.tb, .int .i64 y.sq, .slice aa y.args.length ac, .int .i64 y.fn, .slice ia y.items.length ic, .int .i64 y.op, .int .i64 y.bound.kind, .int .i64 y.bound.int, .string y.bound.text, .int .i64 y.exp] 123 0) ∧ Keep B w7.size w ∧ w7.size < w.size) (fun e w => y.args.length - natOf (e 33)) ?_ ?_
          · refine ⟨0, Nat.zero_le _, (by simp (maxSteps := 2000000) only [EVS, EVL, Nat.reduceEqDiff, Nat.reduceAdd, reduceIte, XE.then, XE.out, h1, h12, h13, h14, hlt, h19, h20, h21, hlt2]), (by simp (maxSteps := 2000000) only [EVS, EVL, Nat.reduceEqDiff, Nat.reduceAdd, reduceIte, XE.then, XE.out, h1, h12, h13, h14, hlt, h19, h20, h21, hlt2]), (by simp (maxSteps := 2000000) only [EVS, EVL, Nat.reduceEqDiff, Nat.reduceAdd, reduceIte, XE.then, XE.out, h1, h12, h13, h14, hlt, h19, h20, h21, hlt2]), (by simp (maxSteps := 2000000) only [EVS, EVL, Nat.reduceEqDiff, Nat.reduceAdd, reduceIte, XE.then, XE.out, h1, h12, h13, h14, hlt, h19, h20, h21, hlt2]), (by simp (maxSteps := 2000000) only [EVS, EVL, Nat.reduceEqDiff, Nat.reduceAdd, reduceIte, XE.then, XE.out, h1, h12, h13, h14, hlt, h19, h20, h21, hlt2]), (by simp (maxSteps := 2000000) only [EVS, EVL, Nat.reduceEqDiff, Nat.reduceAdd, reduceIte, XE.then, XE.out, h1, h12, h13, h14, hlt, h19, h20, h21, hlt2]), (by simp (maxSteps := 2000000) only [EVS, EVL, Nat.reduceEqDiff, Nat.reduceAdd, reduceIte, XE.then, XE.out, h1, h12, h13, h14, hlt, h19, h20, h21, hlt2]), (by simp (maxSteps := 2000000) only [EVS, EVL, Nat.reduceEqDiff, Nat.reduceAdd, reduceIte, XE.then, XE.out, h1, h12, h13, h14, hlt, h19, h20, h21, hlt2]), (by simp (maxSteps := 2000000) only [EVS, EVL, Nat.reduceEqDiff, Nat.reduceAdd, reduceIte, XE.then, XE.out, h1, h12, h13, h14, hlt, h19, h20, h21, hlt2]), (by simp (maxSteps := 2000000) only [EVS, EVL, Nat.reduceEqDiff, Nat.reduceAdd, reduceIte, XE.then, XE.out, h1, h12, h13, h14, hlt, h19, h20, h21, hlt2]), rfl, W10, uu10, ?_, r10, K10, by have := u10.size; omega⟩
            rw [List.take_zero, List.flatMap_nil, List.append_nil]; exact A10
          · rintro e w11 ⟨q, hq1, h1, h12, h13, h14, h19, h20, h21, h7, h31, h32, h33, W11, u11, A11, r11, K11, hbx⟩
            have s11 := u11.size
            refine TF.seq ?_
            refine TF.reg (call := oracle []) (by show 56 ≤ 1000000; decide) (by kernel_rfl) (oracle_ok _ (by simp)) ?_
            simp (maxSteps := 2000000) only [EVS, EVL, Nat.reduceEqDiff, Nat.reduceAdd, reduceIte, XE.then, XE.out, h1, h12, h13, h14, hlt, h19, h20, h21, hlt2, h7, h31, h32, h33]
            refine TF.seq ?_
            by_cases hlt4 : q < y.args.length
            · have hc_hlt4 := hlt4
              refine TF.cond (t := true) rfl (by simp (maxSteps := 2000000) only [EVS, EVL, Nat.reduceEqDiff, Nat.reduceAdd, reduceIte, XE.then, XE.out, h1, h12, h13, h14, hlt, h19, h20, h21, hlt2, h7, h31, h32, h33, hlt4]) ?_
              simp (maxSteps := 2000000) only [EVS, EVL, Nat.reduceEqDiff, Nat.reduceAdd, reduceIte, XE.then, XE.out, h1, h12, h13, h14, hlt, h19, h20, h21, hlt2, h7, h31, h32, h33, hlt4]
              refine TF.skip ?_
              try simp (maxSteps := 2000000) only [EVS, EVL, Nat.reduceEqDiff, Nat.reduceAdd, reduceIte, XE.then, XE.out, h1, h12, h13, h14, hlt, h19, h20, h21, hlt2, h7, h31, h32, h33, hlt4]
              refine TF.seq ?_
              refine TF.block ?_
              refine TF.seq ?_
              have hz1 : y.args[q]? = some y.args[q] := List.getElem?_eq_getElem hlt4
              have hzo := hao _ (List.getElem_mem hlt4)
              generalize y.args[q] = z at *
              obtain ⟨ab, ao, ac', zu, e3, _, hub3, hcz, hdz, _⟩ := W11.rd1 hda hz1
              cases e3
              have hcz0 := cell_of0 hcz rfl
              have hle4 := fm_le vr hz1
              refine TF.reg (call := oracle []) (by show 56 ≤ 1000000; decide) (by kernel_rfl) (oracle_ok _ (by simp)) ?_
              simp (maxSteps := 2000000) only [EVS, EVL, Nat.reduceEqDiff, Nat.reduceAdd, reduceIte, XE.then, XE.out, h1, h12, h13, h14, hlt, h19, h20, h21, hlt2, h7, h31, h32, h33, hlt4, hcz0]
              obtain ⟨rv14, w14, k14, u14, A14⟩ := H z hzo W11 hdz hΨ (by rw [u11.low]; exact hlow) A11 (by simp only [List.length_append]; omega)
              obtain ⟨r14, K14⟩ := u14.same _ (by omega) K11
              refine TF.reg (call := oracle [(51, ⟨[zu, .func (.func 52) #[] #[.pointer (some ⟨B, 0, none⟩)]]⟩, w11, rv14, w14)]) (by show 56 ≤ 1000000; decide) (by kernel_rfl) (oracle_ok _ (by simpa using k14)) ?_
              simp (maxSteps := 2000000) only [EVS, EVL, Nat.reduceEqDiff, Nat.reduceAdd, reduceIte, XE.then, XE.out, h1, h12, h13, h14, hlt, h19, h20, h21, hlt2, h7, h31, h32, h33, hlt4]
              refine TF.reg (call := oracle []) (by show 56 ≤ 1000000; decide) (by kernel_rfl) (oracle_ok _ (by simp)) ?_
              simp (maxSteps := 2000000) only [EVS, EVL, Nat.reduceEqDiff, Nat.reduceAdd, reduceIte, XE.then, XE.out, h1, h12, h13, h14, hlt, h19, h20, h21, hlt2, h7, h31, h32, h33, hlt4, wr1 (show q < 4611686018427387904 by omega)]
              refine ⟨⟨q + 1, by omega, (by simp (maxSteps := 2000000) only [EVS, EVL, Nat.reduceEqDiff, Nat.reduceAdd, reduceIte, XE.then, XE.out, h1, h12, h13, h14, hlt, h19, h20, h21, hlt2, h7, h31, h32, h33, hlt4, wr1 (show q < 4611686018427387904 by omega)]), (by simp (maxSteps := 2000000) only [EVS, EVL, Nat.reduceEqDiff, Nat.reduceAdd, reduceIte, XE.then, XE.out, h1, h12, h13, h14, hlt, h19, h20, h21, hlt2, h7, h31, h32, h33, hlt4, wr1 (show q < 4611686018427387904 by omega)]), (by simp (maxSteps := 2000000) only [EVS, EVL, Nat.reduceEqDiff, Nat.reduceAdd, reduceIte, XE.then, XE.out, h1, h12, h13, h14, hlt, h19, h20, h21, hlt2, h7, h31, h32, h33, hlt4, wr1 (show q < 4611686018427387904 by omega)]), (by simp (maxSteps := 2000000) only [EVS, EVL, Nat.reduceEqDiff, Nat.reduceAdd, reduceIte, XE.then, XE.out, h1, h12, h13, h14, hlt, h19, h20, h21, hlt2, h7, h31, h32, h33, hlt4, wr1 (show q < 4611686018427387904 by omega)]), (by simp (maxSteps := 2000000) only [EVS, EVL, Nat.reduceEqDiff, Nat.reduceAdd, reduceIte, XE.then, XE.out, h1, h12, h13, h14, hlt, h19, h20, h21, hlt2, h7, h31, h32, h33, hlt4, wr1 (show q < 4611686018427387904 by omega)]), (by simp (maxSteps := 2000000) only [EVS, EVL, Nat.reduceEqDiff, Nat.reduceAdd, reduceIte, XE.then, XE.out, h1, h12, h13, h14, hlt, h19, h20, h21, hlt2, h7, h31, h32, h33, hlt4, wr1 (show q < 4611686018427387904 by omega)]), (by simp (maxSteps := 2000000) only [EVS, EVL, Nat.reduceEqDiff, Nat.reduceAdd, reduceIte, XE.then, XE.out, h1, h12, h13, h14, hlt, h19, h20, h21, hlt2, h7, h31, h32, h33, hlt4, wr1 (show q < 4611686018427387904 by omega)]), (by simp (maxSteps := 2000000) only [EVS, EVL, Nat.reduceEqDiff, Nat.reduceAdd, reduceIte, XE.then, XE.out, h1, h12, h13, h14, hlt, h19, h20, h21, hlt2, h7, h31, h32, h33, hlt4, wr1 (show q < 4611686018427387904 by omega)]), (by simp (maxSteps := 2000000) only [EVS, EVL, Nat.reduceEqDiff, Nat.reduceAdd, reduceIte, XE.then, XE.out, h1, h12, h13, h14, hlt, h19, h20, h21, hlt2, h7, h31, h32, h33, hlt4, wr1 (show q < 4611686018427387904 by omega)]), (by simp (maxSteps := 2000000) only [EVS, EVL, Nat.reduceEqDiff, Nat.reduceAdd, reduceIte, XE.then, XE.out, h1, h12, h13, h14, hlt, h19, h20, h21, hlt2, h7, h31, h32, h33, hlt4, wr1 (show q < 4611686018427387904 by omega)]), (by simp (maxSteps := 2000000) only [EVS, EVL, Nat.reduceEqDiff, Nat.reduceAdd, reduceIte, XE.then, XE.out, h1, h12, h13, h14, hlt, h19, h20, h21, hlt2, h7, h31, h32, h33, hlt4, wr1 (show q < 4611686018427387904 by omega)]), u14.wt A11 W11 hΨ, u11.trans u14, ?_, r14.trans r11, K14, by have := u14.size; omega⟩, ?_⟩
              · rw [fm_step _ hz1, ← List.append_assoc]; exact A14
              · simp only [EVS, h33, wr1 (show q < 4611686018427387904 by omega), Nat.reduceEqDiff, if_true, if_false, reduceIte]; omega
            · have hc_hlt4 := hlt4
              refine TF.cond (t := false) rfl (by simp (maxSteps := 2000000) only [EVS, EVL, Nat.reduceEqDiff, Nat.reduceAdd, reduceIte, XE.then, XE.out, h1, h12, h13, h14, hlt, h19, h20, h21, hlt2, h7, h31, h32, h33, hlt4]) ?_
              simp (maxSteps := 2000000) only [EVS, EVL, Nat.reduceEqDiff, Nat.reduceAdd, reduceIte, XE.then, XE.out, h1, h12, h13, h14, hlt, h19, h20, h21, hlt2, h7, h31, h32, h33, hlt4]
              refine TF.exit ?_
              simp (maxSteps := 2000000) only [EVS, EVL, Nat.reduceEqDiff, Nat.reduceAdd, reduceIte, XE.then, XE.out, h1, h12, h13, h14, hlt, h19, h20, h21, hlt2, h7, h31, h32, h33, hlt4]
              refine TF.seq ?_
              have c11 : w11.cell ⟨w7.size, 5, none⟩ = some (.slice ia y.items.length ic) := by rw [cell_at r11]; rfl
              refine TF.reg (call := oracle []) (by show 56 ≤ 1000000; decide) (by kernel_rfl) (oracle_ok _ (by simp)) ?_
              simp (maxSteps := 2000000) only [EVS, EVL, Nat.reduceEqDiff, Nat.reduceAdd, reduceIte, XE.then, XE.out, h1, h12, h13, h14, hlt, h19, h20, h21, hlt2, h7, h31, h32, h33, hlt4, c11]
              refine TF.block ?_
              rw [fm_all _ hlt4] at A11
              generalize hP2 : P1 ++ y.args.flatMap vr = P2 at *
              have hP2l : P2.length = P1.length + (y.args.flatMap vr).length := by rw [← hP2, List.length_append]
              refine TF.loopH (fun e w => ∃ q : Nat, q ≤ y.items.length ∧ e 1 = .func (.func 52) #[] #[.pointer (some ⟨B, 0, none⟩)] ∧ e 12 = .slice (some ⟨ub, uo, none⟩) d.length uc ∧ e 13 = .int .i64 (d.length : Int) ∧ e 14 = .int .i64 (i : Int) ∧ e 19 = .slice (some ⟨fb, fo, none⟩) x.facs.length fc ∧ e 20 = .int .i64 (x.facs.length : Int) ∧ e 21 = .int .i64 (j : Int) ∧ e 43 = .slice ia y.items.length ic ∧ e 44 = .int .i64 (y.items.length : Int) ∧ e 45 = .int .i64 (q : Int) ∧ Wt Ψ w ∧ Up B w0 w ∧ Acc s0 B (P2 ++ (y.items.take q).flatMap (fun p => vr p.2)) w) (fun e w => y.items.length - natOf (e 45)) ?_ ?_
              · refine ⟨0, Nat.zero_le _, (by simp (maxSteps := 2000000) only [EVS, EVL, Nat.reduceEqDiff, Nat.reduceAdd, reduceIte, XE.then, XE.out, h1, h12, h13, h14, hlt, h19, h20, h21, hlt2, h7, h31, h32, h33, hlt4]), (by simp (maxSteps := 2000000) only [EVS, EVL, Nat.reduceEqDiff, Nat.reduceAdd, reduceIte, XE.then, XE.out, h1, h12, h13, h14, hlt, h19, h20, h21, hlt2, h7, h31, h32, h33, hlt4]), (by simp (maxSteps := 2000000) only [EVS, EVL, Nat.reduceEqDiff, Nat.reduceAdd, reduceIte, XE.then, XE.out, h1, h12, h13, h14, hlt, h19, h20, h21, hlt2, h7, h31, h32, h33, hlt4]), (by simp (maxSteps := 2000000) only [EVS, EVL, Nat.reduceEqDiff, Nat.reduceAdd, reduceIte, XE.then, XE.out, h1, h12, h13, h14, hlt, h19, h20, h21, hlt2, h7, h31, h32, h33, hlt4]), (by simp (maxSteps := 2000000) only [EVS, EVL, Nat.reduceEqDiff, Nat.reduceAdd, reduceIte, XE.then, XE.out, h1, h12, h13, h14, hlt, h19, h20, h21, hlt2, h7, h31, h32, h33, hlt4]), (by simp (maxSteps := 2000000) only [EVS, EVL, Nat.reduceEqDiff, Nat.reduceAdd, reduceIte, XE.then, XE.out, h1, h12, h13, h14, hlt, h19, h20, h21, hlt2, h7, h31, h32, h33, hlt4]), (by simp (maxSteps := 2000000) only [EVS, EVL, Nat.reduceEqDiff, Nat.reduceAdd, reduceIte, XE.then, XE.out, h1, h12, h13, h14, hlt, h19, h20, h21, hlt2, h7, h31, h32, h33, hlt4]), (by simp (maxSteps := 2000000) only [EVS, EVL, Nat.reduceEqDiff, Nat.reduceAdd, reduceIte, XE.then, XE.out, h1, h12, h13, h14, hlt, h19, h20, h21, hlt2, h7, h31, h32, h33, hlt4]), (by simp (maxSteps := 2000000) only [EVS, EVL, Nat.reduceEqDiff, Nat.reduceAdd, reduceIte, XE.then, XE.out, h1, h12, h13, h14, hlt, h19, h20, h21, hlt2, h7, h31, h32, h33, hlt4]), rfl, W11, u11, ?_⟩
                rw [List.take_zero, List.flatMap_nil, List.append_nil]; exact A11
              · rintro e w12 ⟨q6, hq6, h1, h12, h13, h14, h19, h20, h21, h43, h44, h45, W12, u12, A12⟩
                have s12 := u12.size
                refine TF.seq ?_
                refine TF.reg (call := oracle []) (by show 56 ≤ 1000000; decide) (by kernel_rfl) (oracle_ok _ (by simp)) ?_
                simp (maxSteps := 2000000) only [EVS, EVL, Nat.reduceEqDiff, Nat.reduceAdd, reduceIte, XE.then, XE.out, h1, h12, h13, h14, hlt, h19, h20, h21, hlt2, hlt4, h43, h44, h45]
                refine TF.seq ?_
                by_cases hlt6 : q6 < y.items.length
                · have hc_hlt6 := hlt6
                  refine TF.cond (t := true) rfl (by simp (maxSteps := 2000000) only [EVS, EVL, Nat.reduceEqDiff, Nat.reduceAdd, reduceIte, XE.then, XE.out, h1, h12, h13, h14, hlt, h19, h20, h21, hlt2, hlt4, h43, h44, h45, hlt6]) ?_
                  simp (maxSteps := 2000000) only [EVS, EVL, Nat.reduceEqDiff, Nat.reduceAdd, reduceIte, XE.then, XE.out, h1, h12, h13, h14, hlt, h19, h20, h21, hlt2, hlt4, h43, h44, h45, hlt6]
                  refine TF.skip ?_
                  try simp (maxSteps := 2000000) only [EVS, EVL, Nat.reduceEqDiff, Nat.reduceAdd, reduceIte, XE.then, XE.out, h1, h12, h13, h14, hlt, h19, h20, h21, hlt2, hlt4, h43, h44, h45, hlt6]
                  refine TF.seq ?_
                  refine TF.block ?_
                  refine TF.seq ?_
                  have hz1 : y.items[q6]? = some y.items[q6] := List.getElem?_eq_getElem hlt6
                  have hzo := hio _ (List.getElem_mem hlt6)
                  generalize y.items[q6] = z at *
                  obtain ⟨ib, io, ic', zu, e3, _, hub3, hcz, hdz, _⟩ := W12.rdI hdi2 hz1
                  cases e3
                  have hle5 := fm_le (fun p : Val3 × α => vr p.2) hz1
                  obtain ⟨w13, w15, b13, b15, g15, z15, r15⟩ := new_box al_66 st_66 w12 W12.low [.int .i64 z.1.kind, .int .i64 z.1.int, .string z.1.text, zu] rfl (by have q5 := hdz.one; simp [oneI, oneS, q5])
                  have f3 : w15.cell ⟨w12.size, 3, none⟩ = some zu := by rw [cell_at r15]; rfl
                  refine TF.reg (call := oracle []) (by show 56 ≤ 1000000; decide) (by kernel_rfl) (oracle_ok _ (by simp)) ?_
                  simp (maxSteps := 2000000) only [EVS, EVL, Nat.reduceEqDiff, Nat.reduceAdd, reduceIte, XE.then, XE.out, h1, h12, h13, h14, hlt, h19, h20, h21, hlt2, hlt4, h43, h44, h45, hlt6, hcz, b13, b15]
                  obtain ⟨rv16, w16, k16, u16, A16⟩ := H z.2 hzo (W12.gr g15) hdz hΨ (by rw [g15.low, u12.low]; exact hlow) (A12.gr g15) (by simp only [List.length_append]; omega)
                  refine TF.reg (call := oracle [(51, ⟨[zu, .func (.func 52) #[] #[.pointer (some ⟨B, 0, none⟩)]]⟩, w15, rv16, w16)]) (by show 56 ≤ 1000000; decide) (by kernel_rfl) (oracle_ok _ (by simpa using k16)) ?_
                  simp (maxSteps := 2000000) only [EVS, EVL, Nat.reduceEqDiff, Nat.reduceAdd, reduceIte, XE.then, XE.out, h1, h12, h13, h14, hlt, h19, h20, h21, hlt2, hlt4, h43, h44, h45, hlt6, f3]
                  refine TF.reg (call := oracle []) (by show 56 ≤ 1000000; decide) (by kernel_rfl) (oracle_ok _ (by simp)) ?_
                  simp (maxSteps := 2000000) only [EVS, EVL, Nat.reduceEqDiff, Nat.reduceAdd, reduceIte, XE.then, XE.out, h1, h12, h13, h14, hlt, h19, h20, h21, hlt2, hlt4, h43, h44, h45, hlt6, wr1 (show q6 < 4611686018427387904 by omega)]
                  refine ⟨⟨q6 + 1, by omega, (by simp (maxSteps := 2000000) only [EVS, EVL, Nat.reduceEqDiff, Nat.reduceAdd, reduceIte, XE.then, XE.out, h1, h12, h13, h14, hlt, h19, h20, h21, hlt2, hlt4, h43, h44, h45, hlt6, wr1 (show q6 < 4611686018427387904 by omega)]), (by simp (maxSteps := 2000000) only [EVS, EVL, Nat.reduceEqDiff, Nat.reduceAdd, reduceIte, XE.then, XE.out, h1, h12, h13, h14, hlt, h19, h20, h21, hlt2, hlt4, h43, h44, h45, hlt6, wr1 (show q6 < 4611686018427387904 by omega)]), (by simp (maxSteps := 2000000) only [EVS, EVL, Nat.reduceEqDiff, Nat.reduceAdd, reduceIte, XE.then, XE.out, h1, h12, h13, h14, hlt, h19, h20, h21, hlt2, hlt4, h43, h44, h45, hlt6, wr1 (show q6 < 4611686018427387904 by omega)]), (by simp (maxSteps := 2000000) only [EVS, EVL, Nat.reduceEqDiff, Nat.reduceAdd, reduceIte, XE.then, XE.out, h1, h12, h13, h14, hlt, h19, h20, h21, hlt2, hlt4, h43, h44, h45, hlt6, wr1 (show q6 < 4611686018427387904 by omega)]), (by simp (maxSteps := 2000000) only [EVS, EVL, Nat.reduceEqDiff, Nat.reduceAdd, reduceIte, XE.then, XE.out, h1, h12, h13, h14, hlt, h19, h20, h21, hlt2, hlt4, h43, h44, h45, hlt6, wr1 (show q6 < 4611686018427387904 by omega)]), (by simp (maxSteps := 2000000) only [EVS, EVL, Nat.reduceEqDiff, Nat.reduceAdd, reduceIte, XE.then, XE.out, h1, h12, h13, h14, hlt, h19, h20, h21, hlt2, hlt4, h43, h44, h45, hlt6, wr1 (show q6 < 4611686018427387904 by omega)]), (by simp (maxSteps := 2000000) only [EVS, EVL, Nat.reduceEqDiff, Nat.reduceAdd, reduceIte, XE.then, XE.out, h1, h12, h13, h14, hlt, h19, h20, h21, hlt2, hlt4, h43, h44, h45, hlt6, wr1 (show q6 < 4611686018427387904 by omega)]), (by simp (maxSteps := 2000000) only [EVS, EVL, Nat.reduceEqDiff, Nat.reduceAdd, reduceIte, XE.then, XE.out, h1, h12, h13, h14, hlt, h19, h20, h21, hlt2, hlt4, h43, h44, h45, hlt6, wr1 (show q6 < 4611686018427387904 by omega)]), (by simp (maxSteps := 2000000) only [EVS, EVL, Nat.reduceEqDiff, Nat.reduceAdd, reduceIte, XE.then, XE.out, h1, h12, h13, h14, hlt, h19, h20, h21, hlt2, hlt4, h43, h44, h45, hlt6, wr1 (show q6 < 4611686018427387904 by omega)]), (by simp (maxSteps := 2000000) only [EVS, EVL, Nat.reduceEqDiff, Nat.reduceAdd, reduceIte, XE.then, XE.out, h1, h12, h13, h14, hlt, h19, h20, h21, hlt2, hlt4, h43, h44, h45, hlt6, wr1 (show q6 < 4611686018427387904 by omega)]), u16.wt (A12.gr g15) (W12.gr g15) hΨ, u12.trans ((g15.up (by omega)).trans u16), ?_⟩, ?_⟩
                  · rw [fm_step _ hz1, ← List.append_assoc]; exact A16
                  · simp only [EVS, h45, wr1 (show q6 < 4611686018427387904 by omega), Nat.reduceEqDiff, if_true, if_false, reduceIte]; omega
                · have hc_hlt6 := hlt6
                  refine TF.cond (t := false) rfl (by simp (maxSteps := 2000000) only [EVS, EVL, Nat.reduceEqDiff, Nat.reduceAdd, reduceIte, XE.then, XE.out, h1, h12, h13, h14, hlt, h19, h20, h21, hlt2, hlt4, h43, h44, h45, hlt6]) ?_
                  simp (maxSteps := 2000000) only [EVS, EVL, Nat.reduceEqDiff, Nat.reduceAdd, reduceIte, XE.then, XE.out, h1, h12, h13, h14, hlt, h19, h20, h21, hlt2, hlt4, h43, h44, h45, hlt6]
                  refine TF.exit ?_
                  simp (maxSteps := 2000000) only [EVS, EVL, Nat.reduceEqDiff, Nat.reduceAdd, reduceIte, XE.then, XE.out, h1, h12, h13, h14, hlt, h19, h20, h21, hlt2, hlt4, h43, h44, h45, hlt6]
                  refine TF.reg (call := oracle []) (by show 56 ≤ 1000000; decide) (by kernel_rfl) (oracle_ok _ (by simp)) ?_
                  simp (maxSteps := 2000000) only [EVS, EVL, Nat.reduceEqDiff, Nat.reduceAdd, reduceIte, XE.then, XE.out, h1, h12, h13, h14, hlt, h19, h20, h21, hlt2, hlt4, h43, h44, h45, hlt6, wr1 (show j < 4611686018427387904 by omega)]
                  refine ⟨⟨j + 1, by omega, (by simp (maxSteps := 2000000) only [EVS, EVL, Nat.reduceEqDiff, Nat.reduceAdd, reduceIte, XE.then, XE.out, h1, h12, h13, h14, hlt, h19, h20, h21, hlt2, hlt4, h43, h44, h45, hlt6, wr1 (show j < 4611686018427387904 by omega)]), (by simp (maxSteps := 2000000) only [EVS, EVL, Nat.reduceEqDiff, Nat.reduceAdd, reduceIte, XE.then, XE.out, h1, h12, h13, h14, hlt, h19, h20, h21, hlt2, hlt4, h43, h44, h45, hlt6, wr1 (show j < 4611686018427387904 by omega)]), (by simp (maxSteps := 2000000) only [EVS, EVL, Nat.reduceEqDiff, Nat.reduceAdd, reduceIte, XE.then, XE.out, h1, h12, h13, h14, hlt, h19, h20, h21, hlt2, hlt4, h43, h44, h45, hlt6, wr1 (show j < 4611686018427387904 by omega)]), (by simp (maxSteps := 2000000) only [EVS, EVL, Nat.reduceEqDiff, Nat.reduceAdd, reduceIte, XE.then, XE.out, h1, h12, h13, h14, hlt, h19, h20, h21, hlt2, hlt4, h43, h44, h45, hlt6, wr1 (show j < 4611686018427387904 by omega)]), (by simp (maxSteps := 2000000) only [EVS, EVL, Nat.reduceEqDiff, Nat.reduceAdd, reduceIte, XE.then, XE.out, h1, h12, h13, h14, hlt, h19, h20, h21, hlt2, hlt4, h43, h44, h45, hlt6, wr1 (show j < 4611686018427387904 by omega)]), (by simp (maxSteps := 2000000) only [EVS, EVL, Nat.reduceEqDiff, Nat.reduceAdd, reduceIte, XE.then, XE.out, h1, h12, h13, h14, hlt, h19, h20, h21, hlt2, hlt4, h43, h44, h45, hlt6, wr1 (show j < 4611686018427387904 by omega)]), (by simp (maxSteps := 2000000) only [EVS, EVL, Nat.reduceEqDiff, Nat.reduceAdd, reduceIte, XE.then, XE.out, h1, h12, h13, h14, hlt, h19, h20, h21, hlt2, hlt4, h43, h44, h45, hlt6, wr1 (show j < 4611686018427387904 by omega)]), W12, u12, ?_⟩, ?_⟩
                  · rw [fm_step _ hy1, ← List.append_assoc]; rw [fm_all _ hlt6, ← hP2, ← hP1] at A12; simp only [List.append_assoc] at A12 ⊢; rw [show vrF vr y = vrK y ++ (y.args.flatMap vr ++ y.items.flatMap (fun p => vr p.2)) from List.append_assoc _ _ _]; exact A12
                  · simp only [EVS, h21, wr1 (show j < 4611686018427387904 by omega), Nat.reduceEqDiff, if_true, if_false, reduceIte]; omega
        · have hc_hlt2 := hlt2
          refine TF.cond (t := false) rfl (by simp (maxSteps := 2000000) only [EVS, EVL, Nat.reduceEqDiff, Nat.reduceAdd, reduceIte, XE.then, XE.out, h1, h12, h13, h14, hlt, h19, h20, h21, hlt2]) ?_
          simp (maxSteps := 2000000) only [EVS, EVL, Nat.reduceEqDiff, Nat.reduceAdd, reduceIte, XE.then, XE.out, h1, h12, h13, h14, hlt, h19, h20, h21, hlt2]
          refine TF.exit ?_
          simp (maxSteps := 2000000) only [EVS, EVL, Nat.reduceEqDiff, Nat.reduceAdd, reduceIte, XE.then, XE.out, h1, h12, h13, h14, hlt, h19, h20, h21, hlt2]
          refine TF.reg (call := oracle []) (by show 56 ≤ 1000000; decide) (by kernel_rfl) (oracle_ok _ (by simp)) ?_
          simp (maxSteps := 2000000) only [EVS, EVL, Nat.reduceEqDiff, Nat.reduceAdd, reduceIte, XE.then, XE.out, h1, h12, h13, h14, hlt, h19, h20, h21, hlt2, wr1 (show i < 4611686018427387904 by omega)]
          refine ⟨⟨i + 1, by omega, (by simp (maxSteps := 2000000) only [EVS, EVL, Nat.reduceEqDiff, Nat.reduceAdd, reduceIte, XE.then, XE.out, h1, h12, h13, h14, hlt, h19, h20, h21, hlt2, wr1 (show i < 4611686018427387904 by omega)]), (by simp (maxSteps := 2000000) only [EVS, EVL, Nat.reduceEqDiff, Nat.reduceAdd, reduceIte, XE.then, XE.out, h1, h12, h13, h14, hlt, h19, h20, h21, hlt2, wr1 (show i < 4611686018427387904 by omega)]), (by simp (maxSteps := 2000000) only [EVS, EVL, Nat.reduceEqDiff, Nat.reduceAdd, reduceIte, XE.then, XE.out, h1, h12, h13, h14, hlt, h19, h20, h21, hlt2, wr1 (show i < 4611686018427387904 by omega)]), (by simp (maxSteps := 2000000) only [EVS, EVL, Nat.reduceEqDiff, Nat.reduceAdd, reduceIte, XE.then, XE.out, h1, h12, h13, h14, hlt, h19, h20, h21, hlt2, wr1 (show i < 4611686018427387904 by omega)]), W7, u7, ?_⟩, ?_⟩
          · rw [fm_step _ hx1, ← List.append_assoc, hP]; rw [fm_all _ hlt2] at A7; exact A7
          · simp only [EVS, h14, wr1 (show i < 4611686018427387904 by omega), Nat.reduceEqDiff, if_true, if_false, reduceIte]; omega
    · have hc_hlt := hlt
      refine TF.cond (t := false) rfl (by simp (maxSteps := 2000000) only [EVS, EVL, Nat.reduceEqDiff, Nat.reduceAdd, reduceIte, XE.then, XE.out, h1, h12, h13, h14, hlt]) ?_
      simp (maxSteps := 2000000) only [EVS, EVL, Nat.reduceEqDiff, Nat.reduceAdd, reduceIte, XE.then, XE.out, h1, h12, h13, h14, hlt]
      refine TF.exit ?_
      simp (maxSteps := 2000000) only [EVS, EVL, Nat.reduceEqDiff, Nat.reduceAdd, reduceIte, XE.then, XE.out, h1, h12, h13, h14, hlt]
      refine FinR.none rfl ⟨u2, ?_⟩
      rw [fm_all _ hlt] at A2; exact A2
end

end Go.Proofs.YtkjbbbjebidniaaGreatDoor
