/- Comparing values and rows of values. -/
import Derived.Test.YtkjbbbjebidniaaGreatDoorM5
namespace Go.Proofs.YtkjbbbjebidniaaGreatDoor
open Go Go.RowKit
set_option linter.unusedSimpArgs false
set_option linter.unusedVariables false
set_option maxRecDepth 100000

theorem str_ne (a b : ByteArray) : (!(a.toList == b.toList)) = decide (a ≠ b) := by
  rw [ByteArray.toList_eq, ByteArray.toList_eq]
  by_cases h : a = b
  · subst h; simp
  · have : ¬ a.data.toList = b.data.toList := fun hh => h (by
      obtain ⟨⟨x⟩⟩ := a
      obtain ⟨⟨y⟩⟩ := b
      simp at hh; rw [hh])
    simp [h]
    intro hh
    exact this (by rw [hh])
theorem bin_sneq (xt : TypeId) (x y : Operand) (a b : ByteArray) : binV Tryz.prog .neq xt x y (.string a) (.string b) = some (.bool (decide (a ≠ b))) := by rw [← str_ne]; simp only [binV, flatV, flat1, eqGuard, binOp, Op.stringOp, Bool.and_self, cond_true]; rfl
theorem bin_slss (xt : TypeId) (x y : Operand) (a b : ByteArray) : ∃ t, binV Tryz.prog .lss xt x y (.string a) (.string b) = some (.bool t) := ⟨_, by simp [binV, flatV, flat1, eqGuard, binOp, Op.stringOp]; rfl⟩

theorem Val3.ext' {x y : Val3} (h1 : x.kind = y.kind) (h2 : x.int = y.int) (h3 : x.text = y.text) : x = y := by cases x; cases y; cases h1; cases h2; cases h3; rfl
abbrev valV (x : Val3) : Value := .agg #[.int .i64 x.kind, .int .i64 x.int, .string x.text]

/-- Two new boxes. -/
theorem two_boxes (el : TypeId) (x y : Value) (w : AW) : ∃ w1 w2, boxW el x w = some (.pointer (some ⟨w.size, 0, none⟩), w1) ∧ boxW el y w1 = some (.pointer (some ⟨w1.size, 0, none⟩), w2) ∧ Gr w w1 ∧ Gr w w2 ∧ w1.size = w.size + 1 ∧ w2.size = w.size + 2 ∧ w2.heap.get w.size = some (.row x.cells.toList el 0) ∧ w2.heap.get w1.size = some (.row y.cells.toList el 0) := by
  obtain ⟨w1, b1, g1, z1, r1⟩ := boxW_ok el x w
  obtain ⟨w2, b2, g2, z2, r2⟩ := boxW_ok el y w1
  exact ⟨w1, w2, b1, b2, g1, g1.trans g2, z1, by omega, by rw [g2.same _ (by omega)]; exact r1, r2⟩
theorem row_cells {w : AW} {b n : Nat} {l : List Value} {el : TypeId} {k : Nat} (h : w.heap.get b = some (.row l el k)) (hl : l.length = n) : w.cells ⟨b, 0, none⟩ n = some l := by
  subst hl
  simp only [AW.cells, h, Nat.zero_add, Nat.ble_eq_true_of_le (Nat.le_refl _), cond_true, List.drop_zero, List.take_length]

theorem cmpVal_ok (x y : Val3) (w : AW) : CallP 93 [valV x, valV y] w (fun r w' => Gr w w' ∧ ∃ k : Int, r = .int .i64 k ∧ (k = 0 ↔ x = y)) := by
  obtain ⟨w1, w2, b1, b2, g1, g2, z1, z2, r1, r2⟩ := two_boxes 52 (valV x) (valV y) w
  have c0 : w2.cell ⟨w.size, 0, none⟩ = some (.int .i64 x.kind) := by rw [cell_at r1]; rfl
  have c1 : w2.cell ⟨w.size, 1, none⟩ = some (.int .i64 x.int) := by rw [cell_at r1]; rfl
  have c2 : w2.cell ⟨w.size, 2, none⟩ = some (.string x.text) := by rw [cell_at r1]; rfl
  have c3 : w2.cell ⟨w1.size, 0, none⟩ = some (.int .i64 y.kind) := by rw [cell_at r2]; rfl
  have c4 : w2.cell ⟨w1.size, 1, none⟩ = some (.int .i64 y.int) := by rw [cell_at r2]; rfl
  have c5 : w2.cell ⟨w1.size, 2, none⟩ = some (.string y.text) := by rw [cell_at r2]; rfl
  obtain ⟨st, hst⟩ := bin_slss 9 (.tmp 33) (.tmp 35) x.text y.text
  refine CallP.of (t := 4) (args := [valV x, valV y]) Tryz.func93 rfl rfl (by simp) (by show _ ≤ 38; simp) ?_
  have a0 : argsE [valV x, valV y] 0 = valV x := rfl
  have a1 : argsE [valV x, valV y] 1 = valV y := rfl
  refine TF.seq ?_
  refine TF.reg (call := oracle []) (by show 38 ≤ 1000000; decide) (by kernel_rfl) (oracle_ok _ (by simp)) ?_
  simp only [EVS, EVL, Nat.reduceEqDiff, Nat.reduceAdd, reduceIte, XE.then, XE.out, b1, b2, c0, c1, c2, c3, c4, c5, a0, a1]
  refine TF.seq ?_
  refine TF.seq ?_
  refine TF.reg (call := oracle []) (by show 38 ≤ 1000000; decide) (by kernel_rfl) (oracle_ok _ (by simp)) ?_
  simp only [EVS, EVL, Nat.reduceEqDiff, Nat.reduceAdd, reduceIte, XE.then, XE.out, b1, b2, c0, c1, c2, c3, c4, c5, a0, a1]
  by_cases h1 : x.kind = y.kind
  · have hc_h1 := h1
    refine TF.cond (t := false) rfl (by simp only [EVS, c0, c3]; simp [h1]) ?_
    simp only [EVS, EVL, Nat.reduceEqDiff, Nat.reduceAdd, reduceIte, XE.then, XE.out, b1, b2, c0, c1, c2, c3, c4, c5, a0, a1, h1]
    refine TF.skip ?_
    simp only [EVS, EVL, Nat.reduceEqDiff, Nat.reduceAdd, reduceIte, XE.then, XE.out, b1, b2, c0, c1, c2, c3, c4, c5, a0, a1, h1]
    refine TF.seq ?_
    refine TF.seq ?_
    refine TF.reg (call := oracle []) (by show 38 ≤ 1000000; decide) (by kernel_rfl) (oracle_ok _ (by simp)) ?_
    simp only [EVS, EVL, Nat.reduceEqDiff, Nat.reduceAdd, reduceIte, XE.then, XE.out, b1, b2, c0, c1, c2, c3, c4, c5, a0, a1, h1]
    by_cases h2 : x.int = y.int
    · have hc_h2 := h2
      refine TF.cond (t := false) rfl (by simp only [EVS, c1, c4]; simp [h2]) ?_
      simp only [EVS, EVL, Nat.reduceEqDiff, Nat.reduceAdd, reduceIte, XE.then, XE.out, b1, b2, c0, c1, c2, c3, c4, c5, a0, a1, h1, h2]
      refine TF.skip ?_
      simp only [EVS, EVL, Nat.reduceEqDiff, Nat.reduceAdd, reduceIte, XE.then, XE.out, b1, b2, c0, c1, c2, c3, c4, c5, a0, a1, h1, h2]
      refine TF.seq ?_
      refine TF.seq ?_
      refine TF.reg (call := oracle []) (by show 38 ≤ 1000000; decide) (by kernel_rfl) (oracle_ok _ (by simp)) ?_
      simp only [EVS, EVL, Nat.reduceEqDiff, Nat.reduceAdd, reduceIte, XE.then, XE.out, b1, b2, c0, c1, c2, c3, c4, c5, a0, a1, h1, h2, bin_sneq]
      by_cases h3 : x.text = y.text
      · have hc_h3 := h3
        refine TF.cond (t := false) rfl (by simp only [EVS, c2, c5, bin_sneq]; simp [h3]) ?_
        simp only [EVS, EVL, Nat.reduceEqDiff, Nat.reduceAdd, reduceIte, XE.then, XE.out, b1, b2, c0, c1, c2, c3, c4, c5, a0, a1, h1, h2, h3]
        refine TF.skip ?_
        simp only [EVS, EVL, Nat.reduceEqDiff, Nat.reduceAdd, reduceIte, XE.then, XE.out, b1, b2, c0, c1, c2, c3, c4, c5, a0, a1, h1, h2, h3]
        refine TF.seq ?_
        refine TF.reg (call := oracle []) (by show 38 ≤ 1000000; decide) (by kernel_rfl) (oracle_ok _ (by simp)) ?_
        simp only [EVS, EVL, Nat.reduceEqDiff, Nat.reduceAdd, reduceIte, XE.then, XE.out, b1, b2, c0, c1, c2, c3, c4, c5, a0, a1, h1, h2, h3]
        refine TF.ret ?_
        simp only [EVS, EVL, Nat.reduceEqDiff, Nat.reduceAdd, reduceIte, XE.then, XE.out, b1, b2, c0, c1, c2, c3, c4, c5, a0, a1, h1, h2, h3]
        refine ⟨g2, _, rfl, ?_⟩; exact ⟨fun h => Val3.ext' h1 h2 h3, fun h => rfl⟩
      · have hc_h3 := h3
        refine TF.cond (t := true) rfl (by simp only [EVS, c2, c5, bin_sneq]; simp [h3]) ?_
        simp only [EVS, EVL, Nat.reduceEqDiff, Nat.reduceAdd, reduceIte, XE.then, XE.out, b1, b2, c0, c1, c2, c3, c4, c5, a0, a1, h1, h2, h3]
        refine TF.seq ?_
        have k1 := sign_ok st w2
        refine TF.reg (call := oracle [(94, #[.bool st], w2, .int .i64 (if st then -1 else 1), w2)]) (by show 38 ≤ 1000000; decide) (by kernel_rfl) (oracle_ok _ (by simpa using k1)) ?_
        simp only [EVS, EVL, Nat.reduceEqDiff, Nat.reduceAdd, reduceIte, XE.then, XE.out, b1, b2, c0, c1, c2, c3, c4, c5, a0, a1, h1, h2, h3, hst]
        refine TF.ret ?_
        simp only [EVS, EVL, Nat.reduceEqDiff, Nat.reduceAdd, reduceIte, XE.then, XE.out, b1, b2, c0, c1, c2, c3, c4, c5, a0, a1, h1, h2, h3]
        refine ⟨g2, _, rfl, ?_⟩; exact ⟨fun h => absurd h (by split <;> decide), fun h => absurd (congrArg Val3.text h) h3⟩
    · have hc_h2 := h2
      refine TF.cond (t := true) rfl (by simp only [EVS, c1, c4]; simp [h2]) ?_
      simp only [EVS, EVL, Nat.reduceEqDiff, Nat.reduceAdd, reduceIte, XE.then, XE.out, b1, b2, c0, c1, c2, c3, c4, c5, a0, a1, h1, h2]
      refine TF.seq ?_
      have k1 := sign_ok (decide (x.int < y.int)) w2
      refine TF.reg (call := oracle [(94, #[.bool (decide (x.int < y.int))], w2, .int .i64 (if decide (x.int < y.int) then -1 else 1), w2)]) (by show 38 ≤ 1000000; decide) (by kernel_rfl) (oracle_ok _ (by simpa using k1)) ?_
      simp only [EVS, EVL, Nat.reduceEqDiff, Nat.reduceAdd, reduceIte, XE.then, XE.out, b1, b2, c0, c1, c2, c3, c4, c5, a0, a1, h1, h2]
      refine TF.ret ?_
      simp only [EVS, EVL, Nat.reduceEqDiff, Nat.reduceAdd, reduceIte, XE.then, XE.out, b1, b2, c0, c1, c2, c3, c4, c5, a0, a1, h1, h2]
      refine ⟨g2, _, rfl, ?_⟩; exact ⟨fun h => absurd h (by split <;> decide), fun h => absurd (congrArg Val3.int h) h2⟩
  · have hc_h1 := h1
    refine TF.cond (t := true) rfl (by simp only [EVS, c0, c3]; simp [h1]) ?_
    simp only [EVS, EVL, Nat.reduceEqDiff, Nat.reduceAdd, reduceIte, XE.then, XE.out, b1, b2, c0, c1, c2, c3, c4, c5, a0, a1, h1]
    refine TF.seq ?_
    have k1 := sign_ok (decide (x.kind < y.kind)) w2
    refine TF.reg (call := oracle [(94, #[.bool (decide (x.kind < y.kind))], w2, .int .i64 (if decide (x.kind < y.kind) then -1 else 1), w2)]) (by show 38 ≤ 1000000; decide) (by kernel_rfl) (oracle_ok _ (by simpa using k1)) ?_
    simp only [EVS, EVL, Nat.reduceEqDiff, Nat.reduceAdd, reduceIte, XE.then, XE.out, b1, b2, c0, c1, c2, c3, c4, c5, a0, a1, h1]
    refine TF.ret ?_
    simp only [EVS, EVL, Nat.reduceEqDiff, Nat.reduceAdd, reduceIte, XE.then, XE.out, b1, b2, c0, c1, c2, c3, c4, c5, a0, a1, h1]
    refine ⟨g2, _, rfl, ?_⟩; exact ⟨fun h => absurd h (by split <;> decide), fun h => absurd (congrArg Val3.kind h) h1⟩

theorem take_step {α : Type} {xs ys : List α} {i : Nat} {x : α} (h : xs.take i = ys.take i) (hx : xs[i]? = some x) (hy : ys[i]? = some x) : xs.take (i + 1) = ys.take (i + 1) := by rw [List.take_add_one, List.take_add_one, h, hx, hy]

theorem cmpRows_ok (xs ys : List Val3) (hx : xs.length < 4611686018427387904) {Ψ : Psi} {w : AW} {u v : Value} (W : Wt Ψ w) (hu : Den Ψ u (lst encV xs)) (hv : Den Ψ v (lst encV ys)) : CallP 48 [u, v] w (fun r w' => Gr w w' ∧ ∃ k : Int, r = .int .i64 k ∧ (k = 0 ↔ xs = ys)) := by
  obtain ⟨ua, uc, rfl⟩ := hu.len
  obtain ⟨va, vc, rfl⟩ := hv.len
  refine CallP.of (t := 4) (args := [.slice ua xs.length uc, .slice va ys.length vc]) Tryz.func48 rfl rfl (by simp) (by show _ ≤ 42; simp) ?_
  have a0 : argsE [.slice ua xs.length uc, .slice va ys.length vc] 0 = .slice ua xs.length uc := rfl
  have a1 : argsE [.slice ua xs.length uc, .slice va ys.length vc] 1 = .slice va ys.length vc := rfl
  refine TF.seq ?_
  refine TF.reg (call := oracle []) (by show 42 ≤ 1000000; decide) (by kernel_rfl) (oracle_ok _ (by simp)) ?_
  simp only [EVS, EVL, Nat.reduceEqDiff, Nat.reduceAdd, reduceIte, XE.then, XE.out, a0, a1]
  refine TF.seq ?_
  refine TF.seq ?_
  refine TF.reg (call := oracle []) (by show 42 ≤ 1000000; decide) (by kernel_rfl) (oracle_ok _ (by simp)) ?_
  simp only [EVS, EVL, Nat.reduceEqDiff, Nat.reduceAdd, reduceIte, XE.then, XE.out, a0, a1]
  refine TF.block ?_
  generalize hW0 : w = W0 at *
  refine TF.loopH (fun e w => ∃ i : Nat, i ≤ xs.length ∧ i ≤ ys.length ∧ e 0 = .slice ua xs.length uc ∧ e 1 = .slice va ys.length vc ∧ e 5 = .int .i64 i ∧ xs.take i = ys.take i ∧ w.low ≤ w.size ∧ Gr W0 w) (fun e w => xs.length - natOf (e 5)) ?_ ?_
  · exact ⟨0, Nat.zero_le _, Nat.zero_le _, a0, a1, rfl, rfl, W.low, Gr.refl _⟩
  · rintro e w1 ⟨i, hi1, hi2, h0, h1, h5, htk, hlow, g⟩
    refine TF.seq ?_
    refine TF.seq ?_
    by_cases hlt : i < xs.length
    · have hc_hlt := hlt
      refine TF.reg (call := oracle []) (by show 42 ≤ 1000000; decide) (by kernel_rfl) (oracle_ok _ (by simp)) ?_
      simp only [EVS, EVL, Nat.reduceEqDiff, Nat.reduceAdd, reduceIte, XE.then, XE.out, h0, h1, h5, hlt]
      by_cases hlt2 : i < ys.length
      · have hc_hlt2 := hlt2
        refine TF.cond (t := true) rfl (by simp only [EVS, EVL, Nat.reduceEqDiff, Nat.reduceAdd, reduceIte, XE.then, XE.out, h0, h1, h5, hlt, hlt2]) ?_
        simp only [EVS, EVL, Nat.reduceEqDiff, Nat.reduceAdd, reduceIte, XE.then, XE.out, h0, h1, h5, hlt, hlt2]
        refine TF.skip ?_
        simp only [EVS, EVL, Nat.reduceEqDiff, Nat.reduceAdd, reduceIte, XE.then, XE.out, h0, h1, h5, hlt, hlt2]
        refine TF.seq ?_
        refine TF.block ?_
        refine TF.seq ?_
        have hx1 : xs[i]? = some xs[i] := List.getElem?_eq_getElem hlt
        have hy1 : ys[i]? = some ys[i] := List.getElem?_eq_getElem hlt2
        generalize xs[i] = x at *
        generalize ys[i] = y at *
        obtain ⟨ub, uo, uc', e1, _, _, hcx⟩ := (W.gr g).rdV hu hx1
        cases e1
        obtain ⟨vb, vo, vc', e2, _, _, hcy⟩ := (W.gr g).rdV hv hy1
        cases e2
        obtain ⟨rv, w2, k1, g2, k, rfl, hk⟩ := cmpVal_ok x y w1.rs
        have gg := rs_gr g2 hlow
        have glow := g2.low
        have rl := rs_lw w1 hlow
        have rl2 := rs_lw (w2.lw w1.low) (gg.lowle hlow)
        refine TF.regD (call := oracle [(93, ⟨[valV x, valV y]⟩, w1.rs, .int .i64 k, w2)]) (by show 42 ≤ 1000000; decide) (by kernel_rfl) (oracle_ok _ (by simpa using k1)) ?_
        simp only [EVS, EVL, Nat.reduceEqDiff, Nat.reduceAdd, reduceIte, XE.then, XE.out, h0, h1, h5, hlt, hlt2, hcx, hcy, glow, rl, rl2]
        refine TF.seq ?_
        refine TF.reg (call := oracle []) (by show 42 ≤ 1000000; decide) (by kernel_rfl) (oracle_ok _ (by simp)) ?_
        simp only [EVS, EVL, Nat.reduceEqDiff, Nat.reduceAdd, reduceIte, XE.then, XE.out, h0, h1, h5, hlt, hlt2]
        by_cases hk0 : k = 0
        · have hc_hk0 := hk0
          have hxy := hk.1 hk0
          refine TF.cond (t := false) rfl (by simp only [EVS, bne_iff_ne]; simp [hk0]) ?_
          simp only [EVS, EVL, Nat.reduceEqDiff, Nat.reduceAdd, reduceIte, XE.then, XE.out, h0, h1, h5, hlt, hlt2, hk0]
          refine TF.skip ?_
          simp only [EVS, EVL, Nat.reduceEqDiff, Nat.reduceAdd, reduceIte, XE.then, XE.out, h0, h1, h5, hlt, hlt2, hk0]
          refine TF.reg (call := oracle []) (by show 42 ≤ 1000000; decide) (by kernel_rfl) (oracle_ok _ (by simp)) ?_
          simp only [EVS, EVL, Nat.reduceEqDiff, Nat.reduceAdd, reduceIte, XE.then, XE.out, h0, h1, h5, hlt, hlt2, hk0, wr1 (Nat.lt_trans hlt hx)]
          refine ⟨⟨i + 1, by omega, by omega, (by simp only [EVS, EVL, Nat.reduceEqDiff, Nat.reduceAdd, reduceIte, XE.then, XE.out, h0, h1, h5, hlt, hlt2, hk0, wr1 (Nat.lt_trans hlt hx)]), (by simp only [EVS, EVL, Nat.reduceEqDiff, Nat.reduceAdd, reduceIte, XE.then, XE.out, h0, h1, h5, hlt, hlt2, hk0, wr1 (Nat.lt_trans hlt hx)]), (by simp only [EVS, EVL, Nat.reduceEqDiff, Nat.reduceAdd, reduceIte, XE.then, XE.out, h0, h1, h5, hlt, hlt2, hk0, wr1 (Nat.lt_trans hlt hx)]), take_step htk hx1 (by rw [hy1, hxy]), gg.lowle hlow, g.trans gg⟩, ?_⟩
          simp only [EVS, h5, wr1 (Nat.lt_trans hlt hx), if_true, reduceIte]; omega
        · have hc_hk0 := hk0
          refine TF.cond (t := true) rfl (by simp only [EVS, bne_iff_ne]; simp [hk0]) ?_
          simp only [EVS, EVL, Nat.reduceEqDiff, Nat.reduceAdd, reduceIte, XE.then, XE.out, h0, h1, h5, hlt, hlt2, hk0]
          refine TF.seq ?_
          refine TF.reg (call := oracle []) (by show 42 ≤ 1000000; decide) (by kernel_rfl) (oracle_ok _ (by simp)) ?_
          simp only [EVS, EVL, Nat.reduceEqDiff, Nat.reduceAdd, reduceIte, XE.then, XE.out, h0, h1, h5, hlt, hlt2, hk0]
          refine TF.ret ?_
          simp only [EVS, EVL, Nat.reduceEqDiff, Nat.reduceAdd, reduceIte, XE.then, XE.out, h0, h1, h5, hlt, hlt2, hk0]
          exact ⟨g.trans gg, k, rfl, fun h => absurd h hk0, fun h => absurd (hk.2 (by rw [h, hy1] at hx1; cases hx1; rfl)) hk0⟩
      · have hc_hlt2 := hlt2
        refine TF.cond (t := false) rfl (by simp only [EVS, EVL, Nat.reduceEqDiff, Nat.reduceAdd, reduceIte, XE.then, XE.out, h0, h1, h5, hlt, hlt2]) ?_
        simp only [EVS, EVL, Nat.reduceEqDiff, Nat.reduceAdd, reduceIte, XE.then, XE.out, h0, h1, h5, hlt, hlt2]
        refine TF.exit ?_
        simp only [EVS, EVL, Nat.reduceEqDiff, Nat.reduceAdd, reduceIte, XE.then, XE.out, h0, h1, h5, hlt, hlt2]
        refine TF.seq ?_
        refine TF.seq ?_
        refine TF.reg (call := oracle []) (by show 42 ≤ 1000000; decide) (by kernel_rfl) (oracle_ok _ (by simp)) ?_
        simp only [EVS, EVL, Nat.reduceEqDiff, Nat.reduceAdd, reduceIte, XE.then, XE.out, h0, h1, h5, hlt, hlt2]
        by_cases hl : xs.length = ys.length
        · have hc_hl := hl
          refine TF.cond (t := true) rfl (by simp only [EVS]; simp [hl] <;> omega) ?_
          simp only [EVS, EVL, Nat.reduceEqDiff, Nat.reduceAdd, reduceIte, XE.then, XE.out, h0, h1, h5, hlt, hlt2, hl]
          refine TF.seq ?_
          refine TF.reg (call := oracle []) (by show 42 ≤ 1000000; decide) (by kernel_rfl) (oracle_ok _ (by simp)) ?_
          simp only [EVS, EVL, Nat.reduceEqDiff, Nat.reduceAdd, reduceIte, XE.then, XE.out, h0, h1, h5, hlt, hlt2, hl]
          refine TF.ret ?_
          simp only [EVS, EVL, Nat.reduceEqDiff, Nat.reduceAdd, reduceIte, XE.then, XE.out, h0, h1, h5, hlt, hlt2, hl]
          exfalso; omega
        · have hc_hl := hl
          refine TF.cond (t := false) rfl (by simp only [EVS]; simp [hl] <;> omega) ?_
          simp only [EVS, EVL, Nat.reduceEqDiff, Nat.reduceAdd, reduceIte, XE.then, XE.out, h0, h1, h5, hlt, hlt2, hl]
          refine TF.skip ?_
          simp only [EVS, EVL, Nat.reduceEqDiff, Nat.reduceAdd, reduceIte, XE.then, XE.out, h0, h1, h5, hlt, hlt2, hl]
          refine TF.seq ?_
          have ks := sign_ok (decide (xs.length < ys.length)) w1
          refine TF.reg (call := oracle [(94, #[.bool (decide (xs.length < ys.length))], w1, .int .i64 (if decide (xs.length < ys.length) then -1 else 1), w1)]) (by show 42 ≤ 1000000; decide) (by kernel_rfl) (oracle_ok _ (by simpa using ks)) ?_
          simp only [EVS, EVL, Nat.reduceEqDiff, Nat.reduceAdd, reduceIte, XE.then, XE.out, h0, h1, h5, hlt, hlt2, hl]
          refine TF.ret ?_
          simp only [EVS, EVL, Nat.reduceEqDiff, Nat.reduceAdd, reduceIte, XE.then, XE.out, h0, h1, h5, hlt, hlt2, hl]
          exact ⟨g, _, rfl, fun h => absurd h (by split <;> decide), fun h => absurd (congrArg List.length h) hl⟩
    · have hc_hlt := hlt
      refine TF.reg (call := oracle []) (by show 42 ≤ 1000000; decide) (by kernel_rfl) (oracle_ok _ (by simp)) ?_
      simp only [EVS, EVL, Nat.reduceEqDiff, Nat.reduceAdd, reduceIte, XE.then, XE.out, h0, h1, h5, hlt]
      refine TF.cond (t := false) rfl (by simp only [EVS, EVL, Nat.reduceEqDiff, Nat.reduceAdd, reduceIte, XE.then, XE.out, h0, h1, h5, hlt]) ?_
      simp only [EVS, EVL, Nat.reduceEqDiff, Nat.reduceAdd, reduceIte, XE.then, XE.out, h0, h1, h5, hlt]
      refine TF.exit ?_
      simp only [EVS, EVL, Nat.reduceEqDiff, Nat.reduceAdd, reduceIte, XE.then, XE.out, h0, h1, h5, hlt]
      refine TF.seq ?_
      refine TF.seq ?_
      refine TF.reg (call := oracle []) (by show 42 ≤ 1000000; decide) (by kernel_rfl) (oracle_ok _ (by simp)) ?_
      simp only [EVS, EVL, Nat.reduceEqDiff, Nat.reduceAdd, reduceIte, XE.then, XE.out, h0, h1, h5, hlt]
      by_cases hl : xs.length = ys.length
      · have hc_hl := hl
        refine TF.cond (t := true) rfl (by simp only [EVS]; simp [hl] <;> omega) ?_
        simp only [EVS, EVL, Nat.reduceEqDiff, Nat.reduceAdd, reduceIte, XE.then, XE.out, h0, h1, h5, hlt, hl]
        refine TF.seq ?_
        refine TF.reg (call := oracle []) (by show 42 ≤ 1000000; decide) (by kernel_rfl) (oracle_ok _ (by simp)) ?_
        simp only [EVS, EVL, Nat.reduceEqDiff, Nat.reduceAdd, reduceIte, XE.then, XE.out, h0, h1, h5, hlt, hl]
        refine TF.ret ?_
        simp only [EVS, EVL, Nat.reduceEqDiff, Nat.reduceAdd, reduceIte, XE.then, XE.out, h0, h1, h5, hlt, hl]
        exact ⟨g, 0, rfl, fun _ => by rw [List.take_of_length_le (by omega), List.take_of_length_le (by omega)] at htk; exact htk, fun _ => rfl⟩
      · have hc_hl := hl
        refine TF.cond (t := false) rfl (by simp only [EVS]; simp [hl] <;> omega) ?_
        simp only [EVS, EVL, Nat.reduceEqDiff, Nat.reduceAdd, reduceIte, XE.then, XE.out, h0, h1, h5, hlt, hl]
        refine TF.skip ?_
        simp only [EVS, EVL, Nat.reduceEqDiff, Nat.reduceAdd, reduceIte, XE.then, XE.out, h0, h1, h5, hlt, hl]
        refine TF.seq ?_
        have ks := sign_ok (decide (xs.length < ys.length)) w1
        refine TF.reg (call := oracle [(94, #[.bool (decide (xs.length < ys.length))], w1, .int .i64 (if decide (xs.length < ys.length) then -1 else 1), w1)]) (by show 42 ≤ 1000000; decide) (by kernel_rfl) (oracle_ok _ (by simpa using ks)) ?_
        simp only [EVS, EVL, Nat.reduceEqDiff, Nat.reduceAdd, reduceIte, XE.then, XE.out, h0, h1, h5, hlt, hl]
        refine TF.ret ?_
        simp only [EVS, EVL, Nat.reduceEqDiff, Nat.reduceAdd, reduceIte, XE.then, XE.out, h0, h1, h5, hlt, hl]
        exact ⟨g, _, rfl, fun h => absurd h (by split <;> decide), fun h => absurd (congrArg List.length h) hl⟩


end Go.Proofs.YtkjbbbjebidniaaGreatDoor
