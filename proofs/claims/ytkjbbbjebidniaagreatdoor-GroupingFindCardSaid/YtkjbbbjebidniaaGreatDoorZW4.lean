/- Find: the reference's Variables. -/
import Derived.Test.YtkjbbbjebidniaaGreatDoorZW3
namespace Go.Proofs.YtkjbbbjebidniaaGreatDoor
open Go Go.RowKit
set_option linter.unusedSimpArgs false
set_option linter.unusedVariables false
set_option maxRecDepth 100000
set_option maxHeartbeats 4000000

/-- Append to a row of pairs. -/
theorem rowApp {w : AW} {R k : Nat} {a c : List (Int × Int)} {x : Value} (hg : RowOk w R (flatP a) k) (hk : k = 1 → a ≠ []) (hR : R < w.size) (hx : Rd w 2 x c.length (flatP c)) (hn : a.length + c.length ≤ 1000000) :
    ∃ R' k' w1, appendA Tryz.prog #[38, 38] #[.slice (some ⟨R, 0, none⟩) a.length a.length, x] w = .ok (.slice (some ⟨R', 0, none⟩) (a ++ c).length (a ++ c).length, w1) ∧ RowOk w1 R' (flatP (a ++ c)) k' ∧ (k' = 1 → a ++ c ≠ []) ∧ R' < w1.size ∧ (R' = R ∨ w.size ≤ R') ∧ w.size ≤ w1.size ∧ (∀ i, i < w.size → i ≠ R → w1.heap.get i = w.heap.get i) ∧ (w.low ≤ R → w1.low = w.low) ∧ (∀ s, s ≤ R → s ≤ w.low → s ≤ w1.low) ∧ (k = 0 → Gr w w1) := by
  obtain ⟨h1, h2⟩ := hg
  by_cases hc : c = []
  · subst hc
    rw [List.append_nil]
    refine ⟨R, k, w, app_none ap_38 hx (c := flatP a) ?_ (Nat.le_refl _), ⟨h1, h2⟩, hk, hR, .inl rfl, Nat.le_refl _, fun _ _ _ => rfl, fun _ => rfl, fun _ _ h => h, fun _ => Gr.refl _⟩
    show w.cells ⟨R, 0, none⟩ (a.length * 2) = _
    exact row_cells h1 (flatP_len a)
  · have hq1 : 1 ≤ c.length := by cases c with | nil => exact absurd rfl hc | cons a l => simp
    have hb : (2 * (a.length + c.length) + 200) * (16 + 1) ≤ 281474976710656 := by omega
    have hne : a ++ c ≠ [] := fun h => hc (List.append_eq_nil_iff.1 h).2
    have e := app_grow ap_38 (base := some ⟨R, 0, none⟩) (m := a.length) (q := c.length) (c := flatP a) hq1 hb hx (by show w.cells ⟨R, 0, none⟩ (a.length * 2) = _; exact row_cells h1 (flatP_len a)) (flatP_len a)
    have h01 : k = 0 ∨ k = 1 := by omega
    rcases h01 with rfl | rfl
    · obtain ⟨w1, e1, g1, z1, r1⟩ := growA_new (n := 2) (m := a.length) (need := a.length + c.length) (el := 41) (cells := flatP a ++ flatP c) (w := w) (base := some ⟨R, 0, none⟩) (.inr ⟨_, _, _, rfl, h1⟩)
      rw [e1] at e
      refine ⟨w.size, 1, w1, by rw [List.length_append]; exact e, ⟨by rw [flatP_append]; exact r1, Nat.le_refl _⟩, fun _ => hne, by omega, .inr (Nat.le_refl _), g1.size, fun i hi _ => g1.same i hi, fun _ => g1.low, fun s _ h => by rw [g1.low]; exact h, fun _ => g1⟩
    · have ha := hk rfl
      have hm : 1 ≤ a.length := by cases a with | nil => exact absurd rfl ha | cons a l => simp
      obtain ⟨w1, e1, g1, z1, r1⟩ := growA_re (n := 2) (m := a.length) (need := a.length + c.length) (cells := flatP a ++ flatP c) h1 hm (flatP_len a) (by rw [← flatP_append]; exact flatP_one _)
      rw [e1] at e
      refine ⟨w.size, 1, w1, by rw [List.length_append]; exact e, ⟨by rw [flatP_append]; exact r1 hR, Nat.le_refl _⟩, fun _ => hne, by omega, .inr (Nat.le_refl _), g1.size, fun i hi hv => g1.same i hi hv, fun h => by rw [g1.low, if_pos h], fun s h3 h4 => by rw [g1.low]; split <;> omega, fun h => by cases h⟩

section
variable {P : Program} {call : CallA} {ops : Array Oper} (d : Option Tmp) (ty : TypeId) (pos : String) (af : Array Edge) (e : Env) (w w0 : AW) (v : Value)
theorem opsF_nil (i : Nat) (Q : Env → AW → Prop) : opsF P call ops w0 i [] e w Q = Q e w := by unfold opsF; rfl
theorem opsF_go (i : Nat) (op : Op) (rest : List Oper) (Q : Env → AW → Prop) :
    opsF P call ops w0 i (⟨d, op, ty, pos, af, none⟩ :: rest) e w Q = KK (resE P call ⟨d, op, ty, pos, af, none⟩ e w.rs) (fun r => (w.size ≤ r.2.low ∨ Fl.solo ops i = true) ∧ SlE P ⟨d, op, ty, pos, af, none⟩ e w0 r.1 ∧ opsF P call ops w0 (i + 1) rest (putE e d r.1) (r.2.lw w.low) Q) := by
  conv => lhs; unfold opsF
  rw [want_none _ _ rfl]
  rfl
theorem SlE_move (x : Operand) : SlE P ⟨d, .move x, ty, pos, af, none⟩ e w0 v = True := rfl
theorem SlE_assign (x : Operand) : SlE P ⟨d, .assign x, ty, pos, af, none⟩ e w0 v = True := rfl
theorem SlE_load (t : TypeId) (x : Operand) : SlE P ⟨d, .load t x, ty, pos, af, none⟩ e w0 v = True := rfl
theorem SlE_bs (t : TypeId) (n : Nat) (ps : Array (Nat × Operand)) : SlE P ⟨d, .buildSlice t n ps, ty, pos, af, none⟩ e w0 v = True := rfl
theorem SlE_call (c : Call) : SlE P ⟨d, .call c, ty, pos, af, none⟩ e w0 v = True := rfl
/-- What a floating slice expression wants. -/
def SlQ (P : Program) (W : Value → Value → AW → Option (Value × AW)) (vx vy : Value) (w0 : AW) (v : Value) : Prop :=
  flatV vx = false ∧ W vx vy w0 = some (v, w0) ∧ (∃ a n c, vx = .slice (some a) n c ∧ a.block < w0.size) ∧ ∃ k i, vy = .int k i
theorem SlE_lo (t : TypeId) (x y : Operand) (h : SlQ P (slLoW P t) (evE e x) (evE e y) w0 v) : SlE P ⟨d, .slice t x (some y) none none, ty, pos, af, none⟩ e w0 v := by
  obtain ⟨h1, h2, h3, h4⟩ := h
  refine ⟨rfl, ?_, ?_, h3, fun y' hy => ?_, fun y' hy => ?_⟩
  · rw [Array.all_eq_false]
    exact ⟨0, by simp [Op.operands], by simp [Op.operands, h1]⟩
  · unfold slLoW at h2
    cases hs : sliceC P (ev2 (evE e x) (evE e y)) t (.tmp 0) (some (.tmp 1)) none none w0 with
    | none => rw [hs] at h2; cases h2
    | some u => rw [hs] at h2; simp only [Option.map_some, Option.some.injEq, Prod.mk.injEq, and_true] at h2; rw [← h2, ← hs]; rfl
  · cases hy; exact h4
  · cases hy
theorem sliceC_hi (t : TypeId) (x y : Operand) : sliceC P (evE e) t x none (some y) none w = sliceC P (ev2 (evE e x) (evE e y)) t (.tmp 0) none (some (.tmp 1)) none w := by
  unfold sliceC
  simp only [ev2, boundA]
  generalize P.underlying t = u
  generalize evE e x = vx
  generalize evE e y = vy
  cases u with
  | none => rfl
  | some u =>
    cases u <;> try rfl
    rename_i el
    cases vx <;> try rfl
    rename_i a n c
    cases a <;> try rfl
    dsimp only
    generalize P.info? el = inf
    cases inf <;> try rfl
    cases vy <;> try rfl
    rename_i k i
    simp only
    cases (decide (0 ≤ i) && decide (i ≤ (c : Int))) <;> rfl
theorem SlE_hi (t : TypeId) (x y : Operand) (h : SlQ P (slHiW P t) (evE e x) (evE e y) w0 v) : SlE P ⟨d, .slice t x none (some y) none, ty, pos, af, none⟩ e w0 v := by
  obtain ⟨h1, h2, h3, h4⟩ := h
  refine ⟨rfl, ?_, ?_, h3, fun y' hy => ?_, fun y' hy => ?_⟩
  · rw [Array.all_eq_false]
    exact ⟨0, by simp [Op.operands], by simp [Op.operands, h1]⟩
  · unfold slHiW at h2
    rw [sliceC_hi]
    cases hs : sliceC P (ev2 (evE e x) (evE e y)) t (.tmp 0) none (some (.tmp 1)) none w0 with
    | none => rw [hs] at h2; cases h2
    | some u => rw [hs] at h2; simp only [Option.map_some, Option.some.injEq, Prod.mk.injEq, and_true] at h2; rw [← h2]
  · cases hy
  · cases hy; exact h4
theorem SlE_lo' (t : TypeId) (x y : Operand) : SlQ P (slLoW P t) (evE e x) (evE e y) w0 v → SlE P ⟨d, .slice t x (some y) none none, ty, pos, af, none⟩ e w0 v = True := fun h => eq_true (SlE_lo d ty pos af e w0 v t x y h)
theorem SlE_hi' (t : TypeId) (x y : Operand) : SlQ P (slHiW P t) (evE e x) (evE e y) w0 v → SlE P ⟨d, .slice t x none (some y) none, ty, pos, af, none⟩ e w0 v = True := fun h => eq_true (SlE_hi d ty pos af e w0 v t x y h)
end

theorem cmpR_neg (p q : Int × Int) : cmpR p.1 p.2 q.1 q.2 < 0 ↔ ltP p q := by
  unfold cmpR num ltP
  by_cases h1 : p.1 < q.1
  · simp [h1]
  · by_cases h2 : p.1 > q.1
    · have h3 : ¬ p.1 = q.1 := by omega
      simp [h1, h2, h3]
    · have h3 : p.1 = q.1 := by omega
      simp [h3]
      by_cases h4 : p.2 < q.2
      · simp [h4]
      · by_cases h5 : q.2 < p.2
        · simp [h4, h5]
        · simp [h4, h5]
theorem ss_insert {l : List (Int × Int)} (hs : SS l) {i : Nat} {id : Int × Int} (h1 : ∀ p ∈ l.take i, ltP p id) (h2 : ∀ x, l[i]? = some x → ltP id x) : SS (l.take i ++ [id] ++ l.drop i) := by
  have hlt : ∀ x ∈ l.drop i, ltP id x := by
    intro x hx
    cases hd : l.drop i with
    | nil => rw [hd] at hx; cases hx
    | cons y t =>
      have hy : l[i]? = some y := by
        have : (l.drop i)[0]? = some y := by rw [hd]; rfl
        rwa [List.getElem?_drop] at this
      have hsd : SS (l.drop i) := hs.sublist (List.drop_sublist i l)
      rw [hd] at hx hsd
      rcases List.mem_cons.1 hx with rfl | hx
      · exact h2 _ hy
      · exact ltP_tr (h2 _ hy) ((List.pairwise_cons.1 hsd).1 x hx)
  unfold SS
  rw [List.append_assoc, List.pairwise_append]
  refine ⟨hs.sublist (List.take_sublist i l), ?_, ?_⟩
  · rw [List.singleton_append, List.pairwise_cons]
    exact ⟨hlt, hs.sublist (List.drop_sublist i l)⟩
  · intro a ha b hb
    rcases List.mem_append.1 hb with hb | hb
    · simp at hb; subst hb; exact h1 a ha
    · exact ltP_tr (h1 a ha) (hlt b hb)
theorem mem_insert {l : List (Int × Int)} {i : Nat} {id p : Int × Int} : p ∈ l.take i ++ [id] ++ l.drop i ↔ p = id ∨ p ∈ l := by
  have : p ∈ l ↔ p ∈ l.take i ∨ p ∈ l.drop i := by
    conv => lhs; rw [← List.take_append_drop i l, List.mem_append]
  rw [this]
  simp only [List.mem_append, List.mem_singleton]
  constructor
  · rintro ((h | h) | h)
    · exact .inr (.inl h)
    · exact .inl h
    · exact .inr (.inr h)
  · rintro (h | h | h)
    · exact .inl (.inr h)
    · exact .inl (.inl h)
    · exact .inr h


theorem lw_lowE {w1 : AW} {l s : Nat} (h1 : l ≤ s) (h2 : s ≤ w1.low) : (w1.lw l).low = l := by
  show (bif Nat.ble l w1.low then l else w1.low) = l
  rw [Nat.ble_eq_true_of_le (by omega)]; rfl
theorem rd_take {w : AW} {b k n : Nat} {l : List (Int × Int)} (hg : RowOk w b (flatP l) k) {i : Nat} (hi : i ≤ l.length) : Rd w 2 (.slice (some ⟨b, 0, none⟩) i n) (l.take i).length (flatP (l.take i)) := by
  have hl : (l.take i).length = i := by rw [List.length_take, Nat.min_eq_left hi]
  refine ⟨by rw [hl]; rfl, ?_, flatP_len _⟩
  rw [hl]
  show w.cells ⟨b, 0, none⟩ (i * 2) = _
  rw [cells_row hg.1 0 (i * 2) (by rw [flatP_len]; omega), List.drop_zero, flatP_take]
theorem rd_drop {w : AW} {b k : Nat} {l : List (Int × Int)} (hg : RowOk w b (flatP l) k) {i : Nat} (hi : i ≤ l.length) :
    ∃ ad : Addr, ad.block = b ∧ slLoW Tryz.prog 38 (.slice (some ⟨b, 0, none⟩) l.length l.length) (.int .i64 (i : Int)) w = some (.slice (some ad) (l.length - i) (l.length - i), w) ∧ Rd w 2 (.slice (some ad) (l.length - i) (l.length - i)) (l.drop i).length (flatP (l.drop i)) := by
  have hl : (l.drop i).length = l.length - i := List.length_drop
  have hsl := slLo_ok (o := 0) (len := l.length) (cap := l.length) (i := i) hg hi (Nat.le_refl _)
  refine ⟨_, ?_, hsl, by rw [hl]; rfl, ?_, flatP_len _⟩
  · cases Nat.beq l.length i <;> rfl
  · rw [hl]
    show w.cells _ ((l.length - i) * 2) = _
    cases hb : Nat.beq l.length i with
    | true =>
      have := Nat.eq_of_beq_eq_true hb
      subst this
      rw [cond_true, Nat.sub_self, Nat.zero_mul, cells_row hg.1 0 0 (Nat.zero_le _), List.drop_length]
      rfl
    | false =>
      rw [cond_false, Nat.zero_add, cells_row hg.1 (i * 2) ((l.length - i) * 2) (by rw [flatP_len]; omega), flatP_drop, List.take_of_length_le (by rw [flatP_len, hl]; omega)]

theorem putRow_ok (l : List (Int × Int)) (hl : l.length + 1 ≤ 1000000) (hs : SS l) (id : Int × Int) {w : AW} {b k : Nat} (hg : RowOk w b (flatP l) k) (hb : b < w.size) (hlow : w.low ≤ w.size) : CallP 57 [.slice (some ⟨b, 0, none⟩) l.length l.length, .agg ⟨[.int .i64 id.1, .int .i64 id.2]⟩] w (fun r w' => Gr w w' ∧ ∃ m b' k', r = .slice (some ⟨b', 0, none⟩) m.length m.length ∧ RowOk w' b' (flatP m) k' ∧ b' < w'.size ∧ SS m ∧ (∀ p, p ∈ m ↔ p = id ∨ p ∈ l) ∧ m.length ≤ l.length + 1) := by
  obtain ⟨w1, b1, g1, z1, r1⟩ := boxW_ok 41 (.agg ⟨[.int .i64 id.1, .int .i64 id.2]⟩) w
  change w1.heap.get w.size = some (.row [.int .i64 id.1, .int .i64 id.2] 41 0) at r1
  have hg0 : w1.heap.get b = some (.row (flatP l ++ []) 41 k) := by rw [List.append_nil, g1.same _ hb]; exact hg.1
  refine CallP.of (t := 4) (args := [.slice (some ⟨b, 0, none⟩) l.length l.length, .agg ⟨[.int .i64 id.1, .int .i64 id.2]⟩]) Tryz.func57 rfl rfl (by simp) (by show _ ≤ 46; simp) ?_
  have a0 : argsE [.slice (some ⟨b, 0, none⟩) l.length l.length, .agg ⟨[.int .i64 id.1, .int .i64 id.2]⟩] 0 = .slice (some ⟨b, 0, none⟩) l.length l.length := rfl
  have a1 : argsE [.slice (some ⟨b, 0, none⟩) l.length l.length, .agg ⟨[.int .i64 id.1, .int .i64 id.2]⟩] 1 = .agg ⟨[.int .i64 id.1, .int .i64 id.2]⟩ := rfl
  refine TF.seq ?_
  refine TF.reg (call := oracle []) (by show 46 ≤ 1000000; decide) (by kernel_rfl) (oracle_ok _ (by simp)) ?_
  simp (maxSteps := 2000000) only [EVS, EVL, Nat.reduceEqDiff, Nat.reduceAdd, reduceIte, XE.then, XE.out, b1, a0, a1]
  refine TF.seq ?_
  refine TF.reg (call := oracle []) (by show 46 ≤ 1000000; decide) (by kernel_rfl) (oracle_ok _ (by simp)) ?_
  simp (maxSteps := 2000000) only [EVS, EVL, Nat.reduceEqDiff, Nat.reduceAdd, reduceIte, XE.then, XE.out, b1, a0, a1]
  refine TF.seq ?_
  refine TF.block ?_
  generalize hw0 : w = w0 at *
  refine TF.loopH (fun e w => ∃ i : Nat, i ≤ l.length ∧ e 0 = .slice (some ⟨b, 0, none⟩) l.length l.length ∧ e 3 = .pointer (some ⟨w0.size, 0, none⟩) ∧ e 5 = .int .i64 (i : Int) ∧ (∀ p ∈ l.take i, ltP p id) ∧ Gr w1 w) (fun e w => l.length - natOf (e 5)) ?_ ?_
  · exact ⟨0, Nat.zero_le _, a0, (by simp (maxSteps := 2000000) only [EVS, EVL, Nat.reduceEqDiff, Nat.reduceAdd, reduceIte, XE.then, XE.out, b1, a0, a1]), rfl, fun p h => by simp at h, Gr.refl _⟩
  · rintro e w4 ⟨i, hi1, h0, h3, h5, hlt', g4⟩
    have hl4 := g4.lowle (g1.lowle hlow)
    refine TF.seq ?_
    refine TF.seq ?_
    have rl := rs_lw w4 hl4
    by_cases hlt : i < l.length
    · have hc_hlt := hlt
      have hx1 : l[i]? = some l[i] := List.getElem?_eq_getElem hlt
      generalize l[i] = x at *
      have cx := g4.cells' (by have := g1.size; omega) (row_at hg0 hx1)
      have cb := g4.cells' (by omega) (row_cells (n := 2) r1 rfl)
      obtain ⟨w5, k5, g5⟩ := cmpRow_ok x.1 x.2 id.1 id.2 w4.rs
      replace k5 : CallT [0] Tryz.prog 101 ⟨[.agg ⟨[.int .i64 x.1, .int .i64 x.2]⟩, .agg ⟨[.int .i64 id.1, .int .i64 id.2]⟩]⟩ w4.rs (.int .i64 (cmpR x.1 x.2 id.1 id.2)) w5 := k5
      have gg := rs_gr g5 hl4
      have glow := g5.low
      have hl5 := gg.lowle hl4
      obtain ⟨w6, hw6⟩ : ∃ wx, w5.lw w4.low = wx := ⟨_, rfl⟩
      have zw6 : w5.size = w6.size := by rw [← hw6]; rfl
      rw [hw6] at gg hl5
      have rl6 := rs_lw w6 hl5
      refine TF.regD (call := oracle [(101, ⟨[.agg ⟨[.int .i64 x.1, .int .i64 x.2]⟩, .agg ⟨[.int .i64 id.1, .int .i64 id.2]⟩]⟩, w4.rs, .int .i64 (cmpR x.1 x.2 id.1 id.2), w5)]) (by show 46 ≤ 1000000; decide) (by kernel_rfl) (oracle_ok _ (by simpa using k5)) ?_
      simp (maxSteps := 2000000) only [EVS, EVL, Nat.reduceEqDiff, Nat.reduceAdd, reduceIte, XE.then, XE.out, h0, h3, h5, hlt, cx, cb, rl, hw6, rl6, glow, zw6]
      by_cases hq : ltP x id
      · have hc_hq := hq
        have hc := (cmpR_neg x id).2 hq
        refine TF.cond (t := true) rfl (by simp only [EVS, hc, decide_true, decide_false, if_true]) ?_
        simp (maxSteps := 2000000) only [EVS, EVL, Nat.reduceEqDiff, Nat.reduceAdd, reduceIte, XE.then, XE.out, h0, h3, h5, hlt]
        refine TF.skip ?_
        try simp (maxSteps := 2000000) only [EVS, EVL, Nat.reduceEqDiff, Nat.reduceAdd, reduceIte, XE.then, XE.out, h0, h3, h5, hlt]
        refine TF.block ?_
        refine TF.reg (call := oracle []) (by show 46 ≤ 1000000; decide) (by kernel_rfl) (oracle_ok _ (by simp)) ?_
        simp (maxSteps := 2000000) only [EVS, EVL, Nat.reduceEqDiff, Nat.reduceAdd, reduceIte, XE.then, XE.out, h0, h3, h5, hlt]
        refine ⟨⟨i + 1, by omega, (by simp (maxSteps := 2000000) only [EVS, EVL, Nat.reduceEqDiff, Nat.reduceAdd, reduceIte, XE.then, XE.out, h0, h3, h5, hlt, wr1 (show i < 4611686018427387904 by omega)]), (by simp (maxSteps := 2000000) only [EVS, EVL, Nat.reduceEqDiff, Nat.reduceAdd, reduceIte, XE.then, XE.out, h0, h3, h5, hlt, wr1 (show i < 4611686018427387904 by omega)]), (by simp (maxSteps := 2000000) only [EVS, EVL, Nat.reduceEqDiff, Nat.reduceAdd, reduceIte, XE.then, XE.out, h0, h3, h5, hlt, wr1 (show i < 4611686018427387904 by omega)]), ?_, g4.trans gg⟩, ?_⟩
        · intro p' hp'; rw [mem_take_step hx1] at hp'; exact hp'.elim (hlt' p') fun h => by rw [h]; exact hq
        · simp only [EVS, h5, wr1 (show i < 4611686018427387904 by omega), Nat.reduceEqDiff, if_true, if_false, reduceIte]; omega
      · have hc_hq := hq
        have hc : ¬ cmpR x.1 x.2 id.1 id.2 < 0 := fun h => hq ((cmpR_neg x id).1 h)
        refine TF.cond (t := false) rfl (by simp only [EVS, hc, decide_true, decide_false, if_true]) ?_
        simp (maxSteps := 2000000) only [EVS, EVL, Nat.reduceEqDiff, Nat.reduceAdd, reduceIte, XE.then, XE.out, h0, h3, h5, hlt]
        refine TF.exit ?_
        simp (maxSteps := 2000000) only [EVS, EVL, Nat.reduceEqDiff, Nat.reduceAdd, reduceIte, XE.then, XE.out, h0, h3, h5, hlt]
        refine TF.seq ?_
        refine TF.seq ?_
        have cx6 := gg.cells' (by have := (g1.trans g4).size; omega) cx
        have cb6 := gg.cells' (by have := g4.size; omega) cb
        refine TF.regD (call := oracle []) (by show 46 ≤ 1000000; decide) (by kernel_rfl) (oracle_ok _ (by simp)) ?_
        simp (maxSteps := 2000000) only [EVS, EVL, Nat.reduceEqDiff, Nat.reduceAdd, reduceIte, XE.then, XE.out, h0, h3, h5, hlt, cx6, cb6, rl6, bin_peql]
        by_cases heq : x = id
        · have hc_heq := heq
          have hpe : pEq x id = true := (pEq_iff x id).2 heq
          refine TF.cond (t := true) rfl (by simp only [EVS, hpe, if_true]) ?_
          simp (maxSteps := 2000000) only [EVS, EVL, Nat.reduceEqDiff, Nat.reduceAdd, reduceIte, XE.then, XE.out, h0, h3, h5, hlt]
          refine TF.seq ?_
          refine TF.reg (call := oracle []) (by show 46 ≤ 1000000; decide) (by kernel_rfl) (oracle_ok _ (by simp)) ?_
          simp (maxSteps := 2000000) only [EVS, EVL, Nat.reduceEqDiff, Nat.reduceAdd, reduceIte, XE.then, XE.out, h0, h3, h5, hlt]
          refine TF.ret ?_
          try simp (maxSteps := 2000000) only [EVS, EVL, Nat.reduceEqDiff, Nat.reduceAdd, reduceIte, XE.then, XE.out, h0, h3, h5, hlt]
          exact ⟨g1.trans (g4.trans gg), l, b, k, rfl, ⟨by rw [(g1.trans (g4.trans gg)).same _ hb]; exact hg.1, hg.2⟩, Nat.lt_of_lt_of_le hb (g1.trans (g4.trans gg)).size, hs, fun p => ⟨.inr, fun h => h.elim (fun h => by rw [h, ← heq]; exact List.mem_of_getElem? hx1) _root_.id⟩, by omega⟩
        · have hc_heq := heq
          have hpe : pEq x id = false := Bool.eq_false_iff.2 fun h => heq ((pEq_iff x id).1 h)
          refine TF.cond (t := false) rfl (by simp only [EVS, hpe, if_true]) ?_
          simp (maxSteps := 2000000) only [EVS, EVL, Nat.reduceEqDiff, Nat.reduceAdd, reduceIte, XE.then, XE.out, h0, h3, h5, hlt]
          refine TF.skip ?_
          try simp (maxSteps := 2000000) only [EVS, EVL, Nat.reduceEqDiff, Nat.reduceAdd, reduceIte, XE.then, XE.out, h0, h3, h5, hlt]
          refine TF.seq ?_
          have hnext : ∀ y, l[i]? = some y → ltP id y := fun y hy => by rw [hx1] at hy; cases hy; exact Classical.byContradiction fun h => heq (ltP_tot hq h)
          have gW := g4.trans gg
          have hlow4 : w6.low ≤ w6.size := gW.lowle (g1.lowle hlow)
          have rl4 := rs_lw w6 hlow4
          have hg4 : RowOk w6 b (flatP l) k := ⟨by rw [(g1.trans gW).same _ hb]; exact hg.1, hg.2⟩
          have hb4 : b < w6.size := Nat.lt_of_lt_of_le hb (g1.trans gW).size
          obtain ⟨wa, el', b0, hu1, ga, za, ra⟩ := bs0W_ok sl_38 w6.rs
          rw [un_38] at hu1
          cases hu1
          obtain ⟨wA, hwA⟩ : ∃ wx, wa.lw w6.low = wx := ⟨_, rfl⟩
          have zwA : wa.size = wA.size := by rw [← hwA]; rfl
          have gA := rs_gr ga hlow4
          rw [hwA] at gA
          have glA := ga.low
          have hlA := gA.lowle hlow4
          have rlA := rs_lw wA hlA
          rw [rs_size] at za ra b0
          have raA : RowOk wA w6.size (flatP []) 0 := ⟨by rw [← hwA]; exact ra, by decide⟩
          have hgA : RowOk wA.rs b (flatP l) k := ⟨(gA.same _ hb4).trans hg4.1, hg4.2⟩
          have s3 := slHi_ok (o := 0) (len := l.length) (cap := l.length) hgA hi1
          have s3' := slHi_ok (o := 0) (len := l.length) (cap := l.length) hg4 hi1
          have hq3 : SlQ Tryz.prog (slHiW Tryz.prog 38) (.slice (some ⟨b, 0, none⟩) l.length l.length) (.int .i64 (i : Int)) w6 (.slice (some ⟨b, 0, none⟩) i l.length) := ⟨rfl, s3', ⟨_, _, _, rfl, hb4⟩, _, _, rfl⟩
          have hti : (l.take i).length = i := by rw [List.length_take, Nat.min_eq_left hi1]
          obtain ⟨R1, k1, wb, e4, ok1, kk1, hR1, hRR1, sz1, sm1, _, _, gr1⟩ := rowApp (w := wA.rs) (a := []) (c := l.take i) raA (fun h => by cases h) (show w6.size < wA.rs.size by rw [rs_size]; omega) (rd_take (n := l.length) hgA hi1) (by simp; omega)
          have gb := gr1 rfl
          rw [List.nil_append] at e4 ok1 kk1
          rw [hti, List.length_nil] at e4
          obtain ⟨wB, hwB⟩ : ∃ wx, wb.lw wA.low = wx := ⟨_, rfl⟩
          have zwB : wb.size = wB.size := by rw [← hwB]; rfl
          have gB := rs_gr gb hlA
          rw [hwB] at gB
          have glB := gb.low
          have hlB := gB.lowle hlA
          have rlB := rs_lw wB hlB
          have hR1' : w6.size ≤ R1 := by rcases hRR1 with h | h <;> first | omega | (rw [rs_size] at h; omega)
          have okB : RowOk wB R1 (flatP (l.take i)) k1 := ⟨by rw [← hwB]; exact ok1.1, ok1.2⟩
          have hR1B : R1 < wB.size := by rw [← zwB]; exact hR1
          have cb : w6.cells ⟨w0.size, 0, none⟩ 2 = some [.int .i64 id.1, .int .i64 id.2] := (gW.cells' (by omega) (row_cells (n := 2) r1 rfl))
          have cbB : wB.cells ⟨w0.size, 0, none⟩ 2 = some [.int .i64 id.1, .int .i64 id.2] := (gA.trans gB).cells' (by have := gW.size; omega) cb
          have cbb : wb.cells ⟨w0.size, 0, none⟩ 2 = some [.int .i64 id.1, .int .i64 id.2] := by rw [← hwB] at cbB; exact cbB
          obtain ⟨wc, b6, gc, zc, rc⟩ := bs1W_ok bs_38 (.agg ⟨[.int .i64 id.1, .int .i64 id.2]⟩) (l := cellsP id) rfl rfl wB.rs
          obtain ⟨wC, hwC⟩ : ∃ wx, wc.lw wB.low = wx := ⟨_, rfl⟩
          have zwC : wc.size = wC.size := by rw [← hwC]; rfl
          have gC := rs_gr gc hlB
          rw [hwC] at gC
          have glC := gc.low
          have hlC := gC.lowle hlB
          have rlC := rs_lw wC hlC
          rw [rs_size] at zc rc b6
          have okC : RowOk wC.rs R1 (flatP (l.take i)) k1 := ⟨(gC.same _ hR1B).trans okB.1, okB.2⟩
          have rdC : Rd wC.rs 2 (.slice (some ⟨wB.size, 0, none⟩) 1 1) [id].length (flatP [id]) := ⟨rfl, row_cells (w := wC.rs) (by rw [← hwC]; exact rc) rfl, rfl⟩
          obtain ⟨R2, k2, wd, e7, ok2, kk2, hR2, hRR2, sz2, sm2, _, low2, _⟩ := rowApp (w := wC.rs) okC kk1 (show R1 < wC.rs.size by rw [rs_size]; have := gC.size; omega) rdC (by rw [hti]; simp; omega)
          rw [rs_size] at sz2 sm2 hRR2
          obtain ⟨wD, hwD⟩ : ∃ wx, wd.lw wC.low = wx := ⟨_, rfl⟩
          have zwD : wd.size = wD.size := by rw [← hwD]; rfl
          have hC4 : w6.size ≤ wC.size := by have := gA.size; have := gB.size; have := gC.size; omega
          have lC : wC.low = w6.low := by rw [gC.low, gB.low, gA.low]
          have lD : wD.low = w6.low := by rw [← hwD, ← lC]; exact lw_lowE (s := w6.size) (by omega) (low2 w6.size hR1' (by rw [rs_low]; exact hC4))
          have hR2' : w6.size ≤ R2 := by rcases hRR2 with h | h <;> omega
          have zD : wC.size ≤ wD.size := by rw [← zwD]; exact sz2
          have hlD : wD.low ≤ wD.size := by rw [lD]; omega
          have rlD := rs_lw wD hlD
          have okD : RowOk wD.rs R2 (flatP (l.take i ++ [id])) k2 := ⟨by rw [← hwD]; exact ok2.1, ok2.2⟩
          have smD : ∀ j, j < w6.size → wD.heap.get j = w6.heap.get j := fun j hj => by rw [← hwD]; exact (sm2 j (by omega) (by omega)).trans (((gA.trans (gB.trans gC)).same j hj))
          have e7l : (l.take i ++ [id]).length = i + 1 := by rw [List.length_append, hti]; rfl
          rw [hti, e7l] at e7
          have hgD : RowOk wD.rs b (flatP l) k := ⟨(smD b hb4).trans hg4.1, hg4.2⟩
          obtain ⟨ad, had, s10, rd10⟩ := rd_drop hgD hi1
          have hgS : slLoW Tryz.prog 38 (.slice (some ⟨b, 0, none⟩) l.length l.length) (.int .i64 (i : Int)) w6 = some (.slice (some ad) (l.length - i) (l.length - i), w6) := by have q1 := slLo_ok (o := 0) (len := l.length) (cap := l.length) (i := i) hg4 hi1 (Nat.le_refl _); have q2 := slLo_ok (o := 0) (len := l.length) (cap := l.length) (i := i) hgD hi1 (Nat.le_refl _); rw [s10] at q2; simp only [Option.some.injEq, Prod.mk.injEq, and_true] at q2; rw [q1, q2]
          have hq10 : SlQ Tryz.prog (slLoW Tryz.prog 38) (.slice (some ⟨b, 0, none⟩) l.length l.length) (.int .i64 (i : Int)) w6 (.slice (some ad) (l.length - i) (l.length - i)) := ⟨rfl, hgS, ⟨_, _, _, rfl, hb4⟩, _, _, rfl⟩
          obtain ⟨R3, k3, we, e11, ok3, kk3, hR3, hRR3, sz3, sm3, _, low3, _⟩ := rowApp (w := wD.rs) okD kk2 (show R2 < wD.rs.size by rw [rs_size, ← zwD]; exact hR2) rd10 (by rw [e7l, List.length_drop]; omega)
          rw [rs_size] at sz3 sm3 hRR3
          rw [e7l] at e11
          obtain ⟨wE, hwE⟩ : ∃ wx, we.lw wD.low = wx := ⟨_, rfl⟩
          have zwE : we.size = wE.size := by rw [← hwE]; rfl
          have lE : wE.low = w6.low := by rw [← hwE, ← lD]; exact lw_lowE (s := w6.size) (by omega) (low3 w6.size hR2' (by rw [rs_low]; omega))
          have okE : RowOk wE R3 (flatP (l.take i ++ [id] ++ l.drop i)) k3 := ⟨by rw [← hwE]; exact ok3.1, ok3.2⟩
          have gE : Gr w6 wE := ⟨lE, by rw [← zwE]; omega, fun j hj => by rw [← hwE]; exact (sm3 j (by omega) (by omega)).trans (smD j hj)⟩
          have hlE : wE.low ≤ wE.size := by rw [lE, ← zwE]; omega
          have rlE := rs_lw wE hlE
          refine TF.regF (call := oracle []) (by show 46 ≤ 1000000; decide) (by kernel_rfl) (oracle_ok _ (by simp)) ?_
          simp (maxSteps := 2000000) only [EVS, EVL, Nat.reduceEqDiff, Nat.reduceAdd, reduceIte, XE.then, XE.out, h0, h3, h5, hlt, opsF_go, opsF_nil, SlE_move, SlE_assign, SlE_load, SlE_bs, SlE_call, SlE_lo', SlE_hi', hq3, hq10, res_slHi, res_slLo, flatV_slice, b0, s3, e4, cbb, cbB, b6, e7, s10, e11, hwA, hwB, hwC, hwD, hwE, rl4, rlA, rlB, rlC, rlD, glA, glB, glC, zwA, zwB, zwC, zwD, zwE, rlE, and_true]
          refine ⟨.inr (by kernel_rfl), .inr (by kernel_rfl), ?_⟩
          refine TF.ret ?_
          try simp (maxSteps := 2000000) only [EVS, EVL, Nat.reduceEqDiff, Nat.reduceAdd, reduceIte, XE.then, XE.out, h0, h3, h5, hlt]
          exact ⟨g1.trans (gW.trans gE), _, R3, k3, rfl, okE, by rw [← zwE]; exact hR3, ss_insert hs hlt' hnext, fun p => mem_insert, by rw [List.length_append, e7l, List.length_drop]; omega⟩
    · have hc_hlt := hlt
      refine TF.regD (call := oracle []) (by show 46 ≤ 1000000; decide) (by kernel_rfl) (oracle_ok _ (by simp)) ?_
      simp (maxSteps := 2000000) only [EVS, EVL, Nat.reduceEqDiff, Nat.reduceAdd, reduceIte, XE.then, XE.out, h0, h3, h5, hlt, rl, show (false == true) = false from rfl]
      have gg := Gr.refl w4
      have hl5 := hl4
      refine TF.cond (t := false) rfl (by simp (maxSteps := 2000000) only [EVS, EVL, Nat.reduceEqDiff, Nat.reduceAdd, reduceIte, XE.then, XE.out, h0, h3, h5, hlt]) ?_
      simp (maxSteps := 2000000) only [EVS, EVL, Nat.reduceEqDiff, Nat.reduceAdd, reduceIte, XE.then, XE.out, h0, h3, h5, hlt]
      refine TF.exit ?_
      simp (maxSteps := 2000000) only [EVS, EVL, Nat.reduceEqDiff, Nat.reduceAdd, reduceIte, XE.then, XE.out, h0, h3, h5, hlt]
      refine TF.seq ?_
      refine TF.seq ?_
      refine TF.regD (call := oracle []) (by show 46 ≤ 1000000; decide) (by kernel_rfl) (oracle_ok _ (by simp)) ?_
      simp (maxSteps := 2000000) only [EVS, EVL, Nat.reduceEqDiff, Nat.reduceAdd, reduceIte, XE.then, XE.out, h0, h3, h5, hlt, rl, show (false == true) = false from rfl]
      refine TF.cond (t := false) rfl (by simp (maxSteps := 2000000) only [EVS, EVL, Nat.reduceEqDiff, Nat.reduceAdd, reduceIte, XE.then, XE.out, h0, h3, h5, hlt]) ?_
      simp (maxSteps := 2000000) only [EVS, EVL, Nat.reduceEqDiff, Nat.reduceAdd, reduceIte, XE.then, XE.out, h0, h3, h5, hlt]
      refine TF.skip ?_
      try simp (maxSteps := 2000000) only [EVS, EVL, Nat.reduceEqDiff, Nat.reduceAdd, reduceIte, XE.then, XE.out, h0, h3, h5, hlt]
      refine TF.seq ?_
      have hnext : ∀ y, l[i]? = some y → ltP id y := fun y hy => absurd (List.getElem?_eq_some_iff.1 hy).1 hlt
      have gW := g4
      have hlow4 : w4.low ≤ w4.size := gW.lowle (g1.lowle hlow)
      have rl4 := rs_lw w4 hlow4
      have hg4 : RowOk w4 b (flatP l) k := ⟨by rw [(g1.trans gW).same _ hb]; exact hg.1, hg.2⟩
      have hb4 : b < w4.size := Nat.lt_of_lt_of_le hb (g1.trans gW).size
      obtain ⟨wa, el', b0, hu1, ga, za, ra⟩ := bs0W_ok sl_38 w4.rs
      rw [un_38] at hu1
      cases hu1
      obtain ⟨wA, hwA⟩ : ∃ wx, wa.lw w4.low = wx := ⟨_, rfl⟩
      have zwA : wa.size = wA.size := by rw [← hwA]; rfl
      have gA := rs_gr ga hlow4
      rw [hwA] at gA
      have glA := ga.low
      have hlA := gA.lowle hlow4
      have rlA := rs_lw wA hlA
      rw [rs_size] at za ra b0
      have raA : RowOk wA w4.size (flatP []) 0 := ⟨by rw [← hwA]; exact ra, by decide⟩
      have hgA : RowOk wA.rs b (flatP l) k := ⟨(gA.same _ hb4).trans hg4.1, hg4.2⟩
      have s3 := slHi_ok (o := 0) (len := l.length) (cap := l.length) hgA hi1
      have s3' := slHi_ok (o := 0) (len := l.length) (cap := l.length) hg4 hi1
      have hq3 : SlQ Tryz.prog (slHiW Tryz.prog 38) (.slice (some ⟨b, 0, none⟩) l.length l.length) (.int .i64 (i : Int)) w4 (.slice (some ⟨b, 0, none⟩) i l.length) := ⟨rfl, s3', ⟨_, _, _, rfl, hb4⟩, _, _, rfl⟩
      have hti : (l.take i).length = i := by rw [List.length_take, Nat.min_eq_left hi1]
      obtain ⟨R1, k1, wb, e4, ok1, kk1, hR1, hRR1, sz1, sm1, _, _, gr1⟩ := rowApp (w := wA.rs) (a := []) (c := l.take i) raA (fun h => by cases h) (show w4.size < wA.rs.size by rw [rs_size]; omega) (rd_take (n := l.length) hgA hi1) (by simp; omega)
      have gb := gr1 rfl
      rw [List.nil_append] at e4 ok1 kk1
      rw [hti, List.length_nil] at e4
      obtain ⟨wB, hwB⟩ : ∃ wx, wb.lw wA.low = wx := ⟨_, rfl⟩
      have zwB : wb.size = wB.size := by rw [← hwB]; rfl
      have gB := rs_gr gb hlA
      rw [hwB] at gB
      have glB := gb.low
      have hlB := gB.lowle hlA
      have rlB := rs_lw wB hlB
      have hR1' : w4.size ≤ R1 := by rcases hRR1 with h | h <;> first | omega | (rw [rs_size] at h; omega)
      have okB : RowOk wB R1 (flatP (l.take i)) k1 := ⟨by rw [← hwB]; exact ok1.1, ok1.2⟩
      have hR1B : R1 < wB.size := by rw [← zwB]; exact hR1
      have cb : w4.cells ⟨w0.size, 0, none⟩ 2 = some [.int .i64 id.1, .int .i64 id.2] := (gW.cells' (by omega) (row_cells (n := 2) r1 rfl))
      have cbB : wB.cells ⟨w0.size, 0, none⟩ 2 = some [.int .i64 id.1, .int .i64 id.2] := (gA.trans gB).cells' (by have := gW.size; omega) cb
      have cbb : wb.cells ⟨w0.size, 0, none⟩ 2 = some [.int .i64 id.1, .int .i64 id.2] := by rw [← hwB] at cbB; exact cbB
      obtain ⟨wc, b6, gc, zc, rc⟩ := bs1W_ok bs_38 (.agg ⟨[.int .i64 id.1, .int .i64 id.2]⟩) (l := cellsP id) rfl rfl wB.rs
      obtain ⟨wC, hwC⟩ : ∃ wx, wc.lw wB.low = wx := ⟨_, rfl⟩
      have zwC : wc.size = wC.size := by rw [← hwC]; rfl
      have gC := rs_gr gc hlB
      rw [hwC] at gC
      have glC := gc.low
      have hlC := gC.lowle hlB
      have rlC := rs_lw wC hlC
      rw [rs_size] at zc rc b6
      have okC : RowOk wC.rs R1 (flatP (l.take i)) k1 := ⟨(gC.same _ hR1B).trans okB.1, okB.2⟩
      have rdC : Rd wC.rs 2 (.slice (some ⟨wB.size, 0, none⟩) 1 1) [id].length (flatP [id]) := ⟨rfl, row_cells (w := wC.rs) (by rw [← hwC]; exact rc) rfl, rfl⟩
      obtain ⟨R2, k2, wd, e7, ok2, kk2, hR2, hRR2, sz2, sm2, _, low2, _⟩ := rowApp (w := wC.rs) okC kk1 (show R1 < wC.rs.size by rw [rs_size]; have := gC.size; omega) rdC (by rw [hti]; simp; omega)
      rw [rs_size] at sz2 sm2 hRR2
      obtain ⟨wD, hwD⟩ : ∃ wx, wd.lw wC.low = wx := ⟨_, rfl⟩
      have zwD : wd.size = wD.size := by rw [← hwD]; rfl
      have hC4 : w4.size ≤ wC.size := by have := gA.size; have := gB.size; have := gC.size; omega
      have lC : wC.low = w4.low := by rw [gC.low, gB.low, gA.low]
      have lD : wD.low = w4.low := by rw [← hwD, ← lC]; exact lw_lowE (s := w4.size) (by omega) (low2 w4.size hR1' (by rw [rs_low]; exact hC4))
      have hR2' : w4.size ≤ R2 := by rcases hRR2 with h | h <;> omega
      have zD : wC.size ≤ wD.size := by rw [← zwD]; exact sz2
      have hlD : wD.low ≤ wD.size := by rw [lD]; omega
      have rlD := rs_lw wD hlD
      have okD : RowOk wD.rs R2 (flatP (l.take i ++ [id])) k2 := ⟨by rw [← hwD]; exact ok2.1, ok2.2⟩
      have smD : ∀ j, j < w4.size → wD.heap.get j = w4.heap.get j := fun j hj => by rw [← hwD]; exact (sm2 j (by omega) (by omega)).trans (((gA.trans (gB.trans gC)).same j hj))
      have e7l : (l.take i ++ [id]).length = i + 1 := by rw [List.length_append, hti]; rfl
      rw [hti, e7l] at e7
      have hgD : RowOk wD.rs b (flatP l) k := ⟨(smD b hb4).trans hg4.1, hg4.2⟩
      obtain ⟨ad, had, s10, rd10⟩ := rd_drop hgD hi1
      have hgS : slLoW Tryz.prog 38 (.slice (some ⟨b, 0, none⟩) l.length l.length) (.int .i64 (i : Int)) w4 = some (.slice (some ad) (l.length - i) (l.length - i), w4) := by have q1 := slLo_ok (o := 0) (len := l.length) (cap := l.length) (i := i) hg4 hi1 (Nat.le_refl _); have q2 := slLo_ok (o := 0) (len := l.length) (cap := l.length) (i := i) hgD hi1 (Nat.le_refl _); rw [s10] at q2; simp only [Option.some.injEq, Prod.mk.injEq, and_true] at q2; rw [q1, q2]
      have hq10 : SlQ Tryz.prog (slLoW Tryz.prog 38) (.slice (some ⟨b, 0, none⟩) l.length l.length) (.int .i64 (i : Int)) w4 (.slice (some ad) (l.length - i) (l.length - i)) := ⟨rfl, hgS, ⟨_, _, _, rfl, hb4⟩, _, _, rfl⟩
      obtain ⟨R3, k3, we, e11, ok3, kk3, hR3, hRR3, sz3, sm3, _, low3, _⟩ := rowApp (w := wD.rs) okD kk2 (show R2 < wD.rs.size by rw [rs_size, ← zwD]; exact hR2) rd10 (by rw [e7l, List.length_drop]; omega)
      rw [rs_size] at sz3 sm3 hRR3
      rw [e7l] at e11
      obtain ⟨wE, hwE⟩ : ∃ wx, we.lw wD.low = wx := ⟨_, rfl⟩
      have zwE : we.size = wE.size := by rw [← hwE]; rfl
      have lE : wE.low = w4.low := by rw [← hwE, ← lD]; exact lw_lowE (s := w4.size) (by omega) (low3 w4.size hR2' (by rw [rs_low]; omega))
      have okE : RowOk wE R3 (flatP (l.take i ++ [id] ++ l.drop i)) k3 := ⟨by rw [← hwE]; exact ok3.1, ok3.2⟩
      have gE : Gr w4 wE := ⟨lE, by rw [← zwE]; omega, fun j hj => by rw [← hwE]; exact (sm3 j (by omega) (by omega)).trans (smD j hj)⟩
      have hlE : wE.low ≤ wE.size := by rw [lE, ← zwE]; omega
      have rlE := rs_lw wE hlE
      refine TF.regF (call := oracle []) (by show 46 ≤ 1000000; decide) (by kernel_rfl) (oracle_ok _ (by simp)) ?_
      simp (maxSteps := 2000000) only [EVS, EVL, Nat.reduceEqDiff, Nat.reduceAdd, reduceIte, XE.then, XE.out, h0, h3, h5, hlt, opsF_go, opsF_nil, SlE_move, SlE_assign, SlE_load, SlE_bs, SlE_call, SlE_lo', SlE_hi', hq3, hq10, res_slHi, res_slLo, flatV_slice, b0, s3, e4, cbb, cbB, b6, e7, s10, e11, hwA, hwB, hwC, hwD, hwE, rl4, rlA, rlB, rlC, rlD, glA, glB, glC, zwA, zwB, zwC, zwD, zwE, rlE, and_true]
      refine ⟨.inr (by kernel_rfl), .inr (by kernel_rfl), ?_⟩
      refine TF.ret ?_
      try simp (maxSteps := 2000000) only [EVS, EVL, Nat.reduceEqDiff, Nat.reduceAdd, reduceIte, XE.then, XE.out, h0, h3, h5, hlt]
      exact ⟨g1.trans (gW.trans gE), _, R3, k3, rfl, okE, by rw [← zwE]; exact hR3, ss_insert hs hlt' hnext, fun p => mem_insert, by rw [List.length_append, e7l, List.length_drop]; omega⟩

end Go.Proofs.YtkjbbbjebidniaaGreatDoor
