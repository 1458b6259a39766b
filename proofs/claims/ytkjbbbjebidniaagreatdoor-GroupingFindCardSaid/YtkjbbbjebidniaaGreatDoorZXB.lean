/- Find: Few. -/
import Derived.Test.YtkjbbbjebidniaaGreatDoorZXA
namespace Go.Proofs.YtkjbbbjebidniaaGreatDoor
open Go Go.RowKit
set_option linter.unusedSimpArgs false
set_option linter.unusedVariables false
set_option maxRecDepth 100000
set_option maxHeartbeats 2000000

section
variable {P : Program}
def bs1Ok (P : Program) (t n el : Nat) : Bool :=
  match P.underlying t with
  | some (.slice el') => match P.info? el' with
    | some i => match i.zero with
      | some z => Nat.beq el' el && (Nat.beq i.size n && (flatV z && (Nat.ble (1 * i.size) 16777216 && (Nat.ble 1 (1 * i.size) && Nat.ble 1 z.cells.toList.length))))
      | none => false
    | none => false
  | _ => false
theorem bs1W_ok {t n el : Nat} (h : bs1Ok P t n el = true) (v : Value) {l : List Value} (hv : v.cells.toList = l) (hl : l.length = n) (w : AW) : ∃ w1, bs1W P t v w = some (.slice (some ⟨w.size, 0, none⟩) 1 1, w1) ∧ Gr w w1 ∧ w1.size = w.size + 1 ∧ w1.heap.get w.size = some (.row l el 0) := by
  unfold bs1Ok at h
  split at h
  case h_2 => cases h
  rename_i el' hu
  split at h
  case h_2 => cases h
  rename_i i hi
  split at h
  case h_2 => cases h
  rename_i z hz
  simp only [Bool.and_eq_true] at h
  obtain ⟨h0, h1, h2, h3, h4, h5⟩ := h
  have h0 := Nat.eq_of_beq_eq_true h0
  have h1 := Nat.eq_of_beq_eq_true h1
  subst h0
  obtain ⟨w1, hp⟩ := push_some w (.row l el' 0)
  obtain ⟨g1, g2, g3⟩ := push_gr hp
  refine ⟨w1, ?_, g1, g2, g3⟩
  have hfill : fillA (fun k => some (k * i.size, i.size)) [(0, v)] ((Array.range (1 * i.size)).map (z.cells[· % z.cells.size]!)).toList = some l := by
    have hlen : ((Array.range (1 * i.size)).map (z.cells[· % z.cells.size]!)).toList.length = i.size := by simp
    generalize ((Array.range (1 * i.size)).map (z.cells[· % z.cells.size]!)).toList = cs at hlen
    have hov : overA cs 0 l = some l := by
      unfold overA
      rw [hl, ← h1, hlen]
      simp only [Nat.zero_add, Nat.ble_eq_true_of_le (Nat.le_refl _), cond_true, List.take_zero, List.nil_append]
      rw [List.drop_of_length_le (by omega), List.append_nil]
    simp only [fillA, hv, hl, h1, Nat.beq_refl, cond_true, Nat.zero_mul, hov]
  unfold bs1W m_buildSlice
  simp only [hu, hi, hz, h2, h3, h4, h5, Bool.and_self, cond_true, Nat.beq, Bool.false_and, cond_false, List.map_cons, List.map_nil, hfill, hp]
end
theorem bs_102 : bs1Ok Tryz.prog 102 1 31 = true := by kernel_rfl
theorem flatten_one {u : Value} (h : oneC u = true) : u.cells.toList = [u] := by cases u <;> first | rfl | cases h
theorem isBl_t : isBl (.bool true) = true := rfl

theorem all_step {β : Type} {Q : β → Prop} {l : List β} {i : Nat} {y : β} (h : ∀ x ∈ l.take i, Q x) (hy : l[i]? = some y) (hq : Q y) : ∀ x ∈ l.take (i + 1), Q x := by
  intro x hx
  rw [List.take_add_one, hy] at hx
  rcases List.mem_append.1 hx with hx | hx
  · exact h x hx
  · simp at hx; subst hx; exact hq
theorem all_all {β : Type} {Q : β → Prop} {l : List β} {i : Nat} (h : ∀ x ∈ l.take i, Q x) (hi : ¬ i < l.length) : ∀ x ∈ l, Q x := by
  rw [List.take_of_length_le (by omega)] at h; exact h

def encC (c : ByteArray × Int) : List Dt := [vS c.1, vI c.2]
theorem dens_C {Ψ : Psi} {us : List Value} {c : ByteArray × Int} (h : Dens Ψ us (encC c)) : us = [.string c.1, .int .i64 c.2] := by
  obtain ⟨_, rfl, q1⟩ := h.vS_inv
  obtain ⟨_, rfl, q2⟩ := q1.vI_inv
  rw [q2.nil_inv]
theorem Wt.rdC {Ψ : Psi} {w : AW} {u : Value} {i : Nat} (W : Wt Ψ w) {l : List (ByteArray × Int)} (h : Den Ψ u (lst encC l)) {x : ByteArray × Int} (hi : l[i]? = some x) :
    ∃ b o c, u = .slice (some ⟨b, o, none⟩) l.length c ∧ i < l.length ∧ b < w.size ∧ w.cells ⟨b, o + i * 2, none⟩ 2 = some [.string x.1, .int .i64 x.2] := by
  obtain ⟨b, o, c, us, h1, h2, h3, h4, h5, _⟩ := W.elem (k := 2) (fun _ => rfl) h hi
  rw [dens_C h5] at h4
  exact ⟨b, o, c, h1, h2, h3, h4⟩

theorem short_ok (l : List Val3) (hl : l.length < 4611686018427387904) (k : Int) {Ψ : Psi} {w : AW} {u : Value} (W : Wt Ψ w) (hu : Den Ψ u (lst encV l)) : CallP 16 [u, .int .i64 k] w (fun r w' => Gr w w' ∧ ∃ t, r = .bool t) := by
  obtain ⟨ua, uc, rfl⟩ := hu.len
  refine CallP.of (t := 4) (args := [.slice ua l.length uc, .int .i64 k]) Tryz.func16 rfl rfl (by simp) (by show _ ≤ 23; simp) ?_
  have a0 : argsE [.slice ua l.length uc, .int .i64 k] 0 = .slice ua l.length uc := rfl
  have a1 : argsE [.slice ua l.length uc, .int .i64 k] 1 = .int .i64 k := rfl
  refine TF.seq ?_
  refine TF.reg (call := oracle []) (by show 23 ≤ 1000000; decide) (by kernel_rfl) (oracle_ok _ (by simp)) ?_
  simp (maxSteps := 2000000) only [EVS, EVL, Nat.reduceEqDiff, Nat.reduceAdd, reduceIte, XE.then, XE.out, a0, a1]
  refine TF.seq ?_
  refine TF.seq ?_
  refine TF.reg (call := oracle []) (by show 23 ≤ 1000000; decide) (by kernel_rfl) (oracle_ok _ (by simp)) ?_
  simp (maxSteps := 2000000) only [EVS, EVL, Nat.reduceEqDiff, Nat.reduceAdd, reduceIte, XE.then, XE.out, a0, a1]
  refine TF.block ?_
  generalize hW0 : w = W0 at *
  refine TF.loopH (fun e w => ∃ i : Nat, i ≤ l.length ∧ e 0 = .slice ua l.length uc ∧ e 1 = .int .i64 k ∧ e 5 = .int .i64 (i : Int) ∧ Gr W0 w) (fun e w => l.length - natOf (e 5)) ?_ ?_
  · exact ⟨0, Nat.zero_le _, a0, a1, rfl, Gr.refl _⟩
  · rintro e w1 ⟨i, hi1, h0, h1, h5, g⟩
    refine TF.seq ?_
    refine TF.seq ?_
    refine TF.reg (call := oracle []) (by show 23 ≤ 1000000; decide) (by kernel_rfl) (oracle_ok _ (by simp)) ?_
    simp (maxSteps := 2000000) only [EVS, EVL, Nat.reduceEqDiff, Nat.reduceAdd, reduceIte, XE.then, XE.out, h0, h1, h5]
    by_cases hlt : i < l.length
    · have hc_hlt := hlt
      refine TF.cond (t := true) rfl (by simp (maxSteps := 2000000) only [EVS, EVL, Nat.reduceEqDiff, Nat.reduceAdd, reduceIte, XE.then, XE.out, h0, h1, h5, hlt]) ?_
      simp (maxSteps := 2000000) only [EVS, EVL, Nat.reduceEqDiff, Nat.reduceAdd, reduceIte, XE.then, XE.out, h0, h1, h5, hlt]
      refine TF.skip ?_
      simp (maxSteps := 2000000) only [EVS, EVL, Nat.reduceEqDiff, Nat.reduceAdd, reduceIte, XE.then, XE.out, h0, h1, h5, hlt]
      refine TF.seq ?_
      refine TF.block ?_
      refine TF.seq ?_
      have hx1 : l[i]? = some l[i] := List.getElem?_eq_getElem hlt
      generalize l[i] = x at *
      obtain ⟨ub, uo, uc', e1, _, hub, hcx⟩ := (W.gr g).rdV hu hx1
      cases e1
      have hcx := cell_of hcx 2 rfl
      refine TF.reg (call := oracle []) (by show 23 ≤ 1000000; decide) (by kernel_rfl) (oracle_ok _ (by simp)) ?_
      simp (maxSteps := 2000000) only [EVS, EVL, Nat.reduceEqDiff, Nat.reduceAdd, reduceIte, XE.then, XE.out, h0, h1, h5, hlt, hcx]
      by_cases hq : x.text.size > 300
      · have hc_hq := hq
        refine TF.cond (t := true) rfl (by simp only [EVS]; simp [hq] <;> omega) ?_
        simp (maxSteps := 2000000) only [EVS, EVL, Nat.reduceEqDiff, Nat.reduceAdd, reduceIte, XE.then, XE.out, h0, h1, h5, hlt]
        refine TF.seq ?_
        refine TF.reg (call := oracle []) (by show 23 ≤ 1000000; decide) (by kernel_rfl) (oracle_ok _ (by simp)) ?_
        simp (maxSteps := 2000000) only [EVS, EVL, Nat.reduceEqDiff, Nat.reduceAdd, reduceIte, XE.then, XE.out, h0, h1, h5, hlt]
        refine TF.ret ?_
        try simp (maxSteps := 2000000) only [EVS, EVL, Nat.reduceEqDiff, Nat.reduceAdd, reduceIte, XE.then, XE.out, h0, h1, h5, hlt]
        exact ⟨g, _, rfl⟩
      · have hc_hq := hq
        refine TF.cond (t := false) rfl (by simp only [EVS]; simp [hq] <;> omega) ?_
        simp (maxSteps := 2000000) only [EVS, EVL, Nat.reduceEqDiff, Nat.reduceAdd, reduceIte, XE.then, XE.out, h0, h1, h5, hlt]
        refine TF.skip ?_
        simp (maxSteps := 2000000) only [EVS, EVL, Nat.reduceEqDiff, Nat.reduceAdd, reduceIte, XE.then, XE.out, h0, h1, h5, hlt]
        refine TF.reg (call := oracle []) (by show 23 ≤ 1000000; decide) (by kernel_rfl) (oracle_ok _ (by simp)) ?_
        simp (maxSteps := 2000000) only [EVS, EVL, Nat.reduceEqDiff, Nat.reduceAdd, reduceIte, XE.then, XE.out, h0, h1, h5, hlt, wr1 (Nat.lt_trans hlt hl)]
        refine ⟨⟨i + 1, by omega, (by simp (maxSteps := 2000000) only [EVS, EVL, Nat.reduceEqDiff, Nat.reduceAdd, reduceIte, XE.then, XE.out, h0, h1, h5, hlt, wr1 (Nat.lt_trans hlt hl)]), (by simp (maxSteps := 2000000) only [EVS, EVL, Nat.reduceEqDiff, Nat.reduceAdd, reduceIte, XE.then, XE.out, h0, h1, h5, hlt, wr1 (Nat.lt_trans hlt hl)]), (by simp (maxSteps := 2000000) only [EVS, EVL, Nat.reduceEqDiff, Nat.reduceAdd, reduceIte, XE.then, XE.out, h0, h1, h5, hlt, wr1 (Nat.lt_trans hlt hl)]), g⟩, ?_⟩
        simp only [EVS, h5, wr1 (Nat.lt_trans hlt hl), Nat.reduceEqDiff, if_true, if_false, reduceIte]; omega
    · have hc_hlt := hlt
      refine TF.cond (t := false) rfl (by simp (maxSteps := 2000000) only [EVS, EVL, Nat.reduceEqDiff, Nat.reduceAdd, reduceIte, XE.then, XE.out, h0, h1, h5, hlt]) ?_
      simp (maxSteps := 2000000) only [EVS, EVL, Nat.reduceEqDiff, Nat.reduceAdd, reduceIte, XE.then, XE.out, h0, h1, h5, hlt]
      refine TF.exit ?_
      simp (maxSteps := 2000000) only [EVS, EVL, Nat.reduceEqDiff, Nat.reduceAdd, reduceIte, XE.then, XE.out, h0, h1, h5, hlt]
      refine TF.seq ?_
      refine TF.reg (call := oracle []) (by show 23 ≤ 1000000; decide) (by kernel_rfl) (oracle_ok _ (by simp)) ?_
      simp (maxSteps := 2000000) only [EVS, EVL, Nat.reduceEqDiff, Nat.reduceAdd, reduceIte, XE.then, XE.out, h0, h1, h5, hlt]
      refine TF.ret ?_
      try simp (maxSteps := 2000000) only [EVS, EVL, Nat.reduceEqDiff, Nat.reduceAdd, reduceIte, XE.then, XE.out, h0, h1, h5, hlt]
      exact ⟨g, _, rfl⟩

section
variable {α : Type} {enc : α → Dt} {big : α → Prop} {wt : α → Nat}

theorem few1_ok (H : WtOk big enc wt) (a : α) (ha : big a) (L : Nat) (hL : L ≤ 1000) {Ψ : Psi} {w : AW} {u : Value} {b c : Nat} (W : Wt Ψ w) (hu : Den Ψ u (enc a)) (hb : b < w.size) (hc : w.cell ⟨b, 0, none⟩ = some u) : CallP 17 [.int .i64 (L : Int), .slice (some ⟨b, 0, none⟩) 1 c] w (fun r w' => Gr w w' ∧ ∃ t, r = .bool t ∧ (t = true → wt a ≤ L)) := by
  refine CallP.of (t := 4) (args := [.int .i64 (L : Int), .slice (some ⟨b, 0, none⟩) 1 c]) Tryz.func17 rfl rfl (by simp) (by show _ ≤ 20; simp) ?_
  have a0 : argsE [.int .i64 (L : Int), .slice (some ⟨b, 0, none⟩) 1 c] 0 = .int .i64 (L : Int) := rfl
  have a1 : argsE [.int .i64 (L : Int), .slice (some ⟨b, 0, none⟩) 1 c] 1 = .slice (some ⟨b, 0, none⟩) 1 c := rfl
  refine TF.seq ?_
  refine TF.reg (call := oracle []) (by show 20 ≤ 1000000; decide) (by kernel_rfl) (oracle_ok _ (by simp)) ?_
  simp (maxSteps := 2000000) only [EVS, EVL, Nat.reduceEqDiff, Nat.reduceAdd, reduceIte, XE.then, XE.out, a0, a1]
  refine TF.seq ?_
  refine TF.seq ?_
  refine TF.reg (call := oracle []) (by show 20 ≤ 1000000; decide) (by kernel_rfl) (oracle_ok _ (by simp)) ?_
  simp (maxSteps := 2000000) only [EVS, EVL, Nat.reduceEqDiff, Nat.reduceAdd, reduceIte, XE.then, XE.out, a0, a1]
  refine TF.block ?_
  generalize hW0 : w = W0 at *
  refine TF.loopH (fun e w => ∃ i : Nat, i ≤ 1 ∧ e 0 = .int .i64 (L : Int) ∧ e 1 = .slice (some ⟨b, 0, none⟩) 1 c ∧ e 5 = .int .i64 (i : Int) ∧ (i = 1 → wt a ≤ L) ∧ w.low ≤ w.size ∧ Gr W0 w) (fun e w => 1 - natOf (e 5)) ?_ ?_
  · exact ⟨0, Nat.zero_le _, a0, a1, rfl, fun h => by omega, W.low, Gr.refl _⟩
  · rintro e w1 ⟨i, hi1, h0, h1, h5, hw, hlow, g⟩
    refine TF.seq ?_
    refine TF.seq ?_
    by_cases hlt : i < 1
    · have hc_hlt := hlt
      refine TF.reg (call := oracle []) (by show 20 ≤ 1000000; decide) (by kernel_rfl) (oracle_ok _ (by simp)) ?_
      simp (maxSteps := 2000000) only [EVS, EVL, Nat.reduceEqDiff, Nat.reduceAdd, reduceIte, XE.then, XE.out, h0, h1, h5, hlt]
      refine TF.cond (t := true) rfl (by simp (maxSteps := 2000000) only [EVS, EVL, Nat.reduceEqDiff, Nat.reduceAdd, reduceIte, XE.then, XE.out, h0, h1, h5, hlt]) ?_
      simp (maxSteps := 2000000) only [EVS, EVL, Nat.reduceEqDiff, Nat.reduceAdd, reduceIte, XE.then, XE.out, h0, h1, h5, hlt]
      refine TF.skip ?_
      simp (maxSteps := 2000000) only [EVS, EVL, Nat.reduceEqDiff, Nat.reduceAdd, reduceIte, XE.then, XE.out, h0, h1, h5, hlt]
      refine TF.seq ?_
      refine TF.block ?_
      refine TF.seq ?_
      have cc : w1.cell ⟨b, i * 1, none⟩ = some u := by rw [show i * 1 = 0 by omega]; exact g.cell' hb hc
      obtain ⟨rv, w2, k2, g2, m, rfl, _, hm2⟩ := H a ha L 12 hL (Nat.le_refl _) (W.gr g) hu
      have gg := g2
      have hlow2 := gg.lowle hlow
      refine TF.reg (call := oracle [(43, ⟨[u, .int .i64 (L : Int), .int .i64 12]⟩, w1, .int .i64 (m : Int), w2)]) (by show 20 ≤ 1000000; decide) (by kernel_rfl) (oracle_ok _ (by simpa using k2)) ?_
      simp (maxSteps := 2000000) only [EVS, EVL, Nat.reduceEqDiff, Nat.reduceAdd, reduceIte, XE.then, XE.out, h0, h1, h5, hlt, cc]
      by_cases hq : m ≤ L
      · have hc_hq := hq
        refine TF.cond (t := false) rfl (by simp only [EVS]; simp <;> omega) ?_
        simp (maxSteps := 2000000) only [EVS, EVL, Nat.reduceEqDiff, Nat.reduceAdd, reduceIte, XE.then, XE.out, h0, h1, h5, hlt]
        refine TF.skip ?_
        simp (maxSteps := 2000000) only [EVS, EVL, Nat.reduceEqDiff, Nat.reduceAdd, reduceIte, XE.then, XE.out, h0, h1, h5, hlt]
        refine TF.reg (call := oracle []) (by show 20 ≤ 1000000; decide) (by kernel_rfl) (oracle_ok _ (by simp)) ?_
        simp (maxSteps := 2000000) only [EVS, EVL, Nat.reduceEqDiff, Nat.reduceAdd, reduceIte, XE.then, XE.out, h0, h1, h5, hlt, wr1 (show i < 4611686018427387904 by omega)]
        refine ⟨⟨i + 1, by omega, (by simp (maxSteps := 2000000) only [EVS, EVL, Nat.reduceEqDiff, Nat.reduceAdd, reduceIte, XE.then, XE.out, h0, h1, h5, hlt, wr1 (show i < 4611686018427387904 by omega)]), (by simp (maxSteps := 2000000) only [EVS, EVL, Nat.reduceEqDiff, Nat.reduceAdd, reduceIte, XE.then, XE.out, h0, h1, h5, hlt, wr1 (show i < 4611686018427387904 by omega)]), (by simp (maxSteps := 2000000) only [EVS, EVL, Nat.reduceEqDiff, Nat.reduceAdd, reduceIte, XE.then, XE.out, h0, h1, h5, hlt, wr1 (show i < 4611686018427387904 by omega)]), fun _ => Nat.le_trans (hm2 hq) hq, hlow2, g.trans gg⟩, ?_⟩
        simp only [EVS, h5, wr1 (show i < 4611686018427387904 by omega), Nat.reduceEqDiff, if_true, if_false, reduceIte]; omega
      · have hc_hq := hq
        refine TF.cond (t := true) rfl (by simp only [EVS]; simp <;> omega) ?_
        simp (maxSteps := 2000000) only [EVS, EVL, Nat.reduceEqDiff, Nat.reduceAdd, reduceIte, XE.then, XE.out, h0, h1, h5, hlt]
        refine TF.seq ?_
        refine TF.reg (call := oracle []) (by show 20 ≤ 1000000; decide) (by kernel_rfl) (oracle_ok _ (by simp)) ?_
        simp (maxSteps := 2000000) only [EVS, EVL, Nat.reduceEqDiff, Nat.reduceAdd, reduceIte, XE.then, XE.out, h0, h1, h5, hlt]
        refine TF.ret ?_
        try simp (maxSteps := 2000000) only [EVS, EVL, Nat.reduceEqDiff, Nat.reduceAdd, reduceIte, XE.then, XE.out, h0, h1, h5, hlt]
        exact ⟨g.trans gg, false, rfl, fun h => by cases h⟩
    · have hc_hlt := hlt
      refine TF.reg (call := oracle []) (by show 20 ≤ 1000000; decide) (by kernel_rfl) (oracle_ok _ (by simp)) ?_
      simp (maxSteps := 2000000) only [EVS, EVL, Nat.reduceEqDiff, Nat.reduceAdd, reduceIte, XE.then, XE.out, h0, h1, h5, hlt]
      refine TF.cond (t := false) rfl (by simp (maxSteps := 2000000) only [EVS, EVL, Nat.reduceEqDiff, Nat.reduceAdd, reduceIte, XE.then, XE.out, h0, h1, h5, hlt]) ?_
      simp (maxSteps := 2000000) only [EVS, EVL, Nat.reduceEqDiff, Nat.reduceAdd, reduceIte, XE.then, XE.out, h0, h1, h5, hlt]
      refine TF.exit ?_
      simp (maxSteps := 2000000) only [EVS, EVL, Nat.reduceEqDiff, Nat.reduceAdd, reduceIte, XE.then, XE.out, h0, h1, h5, hlt]
      refine TF.seq ?_
      refine TF.reg (call := oracle []) (by show 20 ≤ 1000000; decide) (by kernel_rfl) (oracle_ok _ (by simp)) ?_
      simp (maxSteps := 2000000) only [EVS, EVL, Nat.reduceEqDiff, Nat.reduceAdd, reduceIte, XE.then, XE.out, h0, h1, h5, hlt]
      refine TF.ret ?_
      try simp (maxSteps := 2000000) only [EVS, EVL, Nat.reduceEqDiff, Nat.reduceAdd, reduceIte, XE.then, XE.out, h0, h1, h5, hlt]
      exact ⟨g, true, rfl, fun _ => hw (by omega)⟩


def fewRow (wt : α → Nat) (x : ARow α) : Prop := x.vals.length ≤ 20 ∧ x.sums.length ≤ 20 ∧ wt x.ann ≤ 60 ∧ ∀ s ∈ x.sums, s.2.length ≤ 20 ∧ ∀ p ∈ s.2, wt p.2 ≤ 60
def bgRow (big : α → Prop) (x : ARow α) : Prop := x.vals.length < 4611686018427387904 ∧ x.sums.length < 4611686018427387904 ∧ big x.ann ∧ ∀ s ∈ x.sums, s.2.length < 4611686018427387904 ∧ ∀ p ∈ s.2, big p.2

theorem few_ok (H : WtOk big enc wt) (cols : List (ByteArray × Int)) (rows : List (ARow α)) (hc : cols.length < 4611686018427387904) (hr : rows.length < 4611686018427387904) (hbig : ∀ x ∈ rows, bgRow big x) {Ψ : Psi} {w : AW} {ucol u uab : Value} (W : Wt Ψ w) (hu0 : Den Ψ ucol (lst encC cols)) (hu : Den Ψ u (lst (encRow enc) rows)) : CallP 5 [.agg ⟨[ucol, u, uab]⟩, .int .i64 8, .int .i64 60] w (fun r w' => Gr w w' ∧ ∃ t, r = .bool t ∧ (t = true → rows.length ≤ 8 ∧ ∀ x ∈ rows, fewRow wt x)) := by
  obtain ⟨ua, uc, rfl⟩ := hu.len
  obtain ⟨va, vc, rfl⟩ := hu0.len
  obtain ⟨w1, b1, g1, z1, r1⟩ := boxW_ok 25 (.agg ⟨[.slice va cols.length vc, .slice ua rows.length uc, uab]⟩) w
  have c0 : w1.cell ⟨w.size, 0, none⟩ = some (.slice va cols.length vc) := by rw [cell_at r1]; rfl
  have c1 : w1.cell ⟨w.size, 1, none⟩ = some (.slice ua rows.length uc) := by rw [cell_at r1]; rfl
  refine CallP.of (t := 6) (args := [.agg ⟨[.slice va cols.length vc, .slice ua rows.length uc, uab]⟩, .int .i64 8, .int .i64 60]) Tryz.func5 rfl rfl (by simp) (by show _ ≤ 123; simp) ?_
  have a0 : argsE [.agg ⟨[.slice va cols.length vc, .slice ua rows.length uc, uab]⟩, .int .i64 8, .int .i64 60] 0 = .agg ⟨[.slice va cols.length vc, .slice ua rows.length uc, uab]⟩ := rfl
  have a1 : argsE [.agg ⟨[.slice va cols.length vc, .slice ua rows.length uc, uab]⟩, .int .i64 8, .int .i64 60] 1 = .int .i64 8 := rfl
  have a2 : argsE [.agg ⟨[.slice va cols.length vc, .slice ua rows.length uc, uab]⟩, .int .i64 8, .int .i64 60] 2 = .int .i64 60 := rfl
  refine TF.seq ?_
  refine TF.reg (call := oracle []) (by show 123 ≤ 1000000; decide) (by kernel_rfl) (oracle_ok _ (by simp)) ?_
  simp (maxSteps := 2000000) only [EVS, EVL, Nat.reduceEqDiff, Nat.reduceAdd, reduceIte, XE.then, XE.out, b1, c0, c1, a0, a1, a2]
  refine TF.seq ?_
  refine TF.seq ?_
  by_cases hr8 : ((rows.length : Nat) : Int) > 8
  · have hc_hr8 := hr8
    refine TF.reg (call := oracle []) (by show 123 ≤ 1000000; decide) (by kernel_rfl) (oracle_ok _ (by simp)) ?_
    simp (maxSteps := 2000000) only [EVS, EVL, Nat.reduceEqDiff, Nat.reduceAdd, reduceIte, XE.then, XE.out, b1, c0, c1, a0, a1, a2, hr8]
    refine TF.cond (t := true) rfl (by simp (maxSteps := 2000000) only [EVS, EVL, Nat.reduceEqDiff, Nat.reduceAdd, reduceIte, XE.then, XE.out, b1, c0, c1, a0, a1, a2, hr8]) ?_
    simp (maxSteps := 2000000) only [EVS, EVL, Nat.reduceEqDiff, Nat.reduceAdd, reduceIte, XE.then, XE.out, b1, c0, c1, a0, a1, a2, hr8]
    refine TF.seq ?_
    refine TF.reg (call := oracle []) (by show 123 ≤ 1000000; decide) (by kernel_rfl) (oracle_ok _ (by simp)) ?_
    simp (maxSteps := 2000000) only [EVS, EVL, Nat.reduceEqDiff, Nat.reduceAdd, reduceIte, XE.then, XE.out, b1, c0, c1, a0, a1, a2, hr8]
    refine TF.ret ?_
    try simp (maxSteps := 2000000) only [EVS, EVL, Nat.reduceEqDiff, Nat.reduceAdd, reduceIte, XE.then, XE.out, b1, c0, c1, a0, a1, a2, hr8]
    exact ⟨g1, false, rfl, fun h => by cases h⟩
  · have hc_hr8 := hr8
    refine TF.reg (call := oracle []) (by show 123 ≤ 1000000; decide) (by kernel_rfl) (oracle_ok _ (by simp)) ?_
    simp (maxSteps := 2000000) only [EVS, EVL, Nat.reduceEqDiff, Nat.reduceAdd, reduceIte, XE.then, XE.out, b1, c0, c1, a0, a1, a2, hr8]
    by_cases hc20 : ((cols.length : Nat) : Int) > 20
    · have hc_hc20 := hc20
      refine TF.cond (t := true) rfl (by simp (maxSteps := 2000000) only [EVS, EVL, Nat.reduceEqDiff, Nat.reduceAdd, reduceIte, XE.then, XE.out, b1, c0, c1, a0, a1, a2, hr8, hc20]) ?_
      simp (maxSteps := 2000000) only [EVS, EVL, Nat.reduceEqDiff, Nat.reduceAdd, reduceIte, XE.then, XE.out, b1, c0, c1, a0, a1, a2, hr8, hc20]
      refine TF.seq ?_
      refine TF.reg (call := oracle []) (by show 123 ≤ 1000000; decide) (by kernel_rfl) (oracle_ok _ (by simp)) ?_
      simp (maxSteps := 2000000) only [EVS, EVL, Nat.reduceEqDiff, Nat.reduceAdd, reduceIte, XE.then, XE.out, b1, c0, c1, a0, a1, a2, hr8, hc20]
      refine TF.ret ?_
      try simp (maxSteps := 2000000) only [EVS, EVL, Nat.reduceEqDiff, Nat.reduceAdd, reduceIte, XE.then, XE.out, b1, c0, c1, a0, a1, a2, hr8, hc20]
      exact ⟨g1, false, rfl, fun h => by cases h⟩
    · have hc_hc20 := hc20
      refine TF.cond (t := false) rfl (by simp (maxSteps := 2000000) only [EVS, EVL, Nat.reduceEqDiff, Nat.reduceAdd, reduceIte, XE.then, XE.out, b1, c0, c1, a0, a1, a2, hr8, hc20]) ?_
      simp (maxSteps := 2000000) only [EVS, EVL, Nat.reduceEqDiff, Nat.reduceAdd, reduceIte, XE.then, XE.out, b1, c0, c1, a0, a1, a2, hr8, hc20]
      refine TF.skip ?_
      simp (maxSteps := 2000000) only [EVS, EVL, Nat.reduceEqDiff, Nat.reduceAdd, reduceIte, XE.then, XE.out, b1, c0, c1, a0, a1, a2, hr8, hc20]
      refine TF.seq ?_
      refine TF.seq ?_
      refine TF.reg (call := oracle []) (by show 123 ≤ 1000000; decide) (by kernel_rfl) (oracle_ok _ (by simp)) ?_
      simp (maxSteps := 2000000) only [EVS, EVL, Nat.reduceEqDiff, Nat.reduceAdd, reduceIte, XE.then, XE.out, b1, c0, c1, a0, a1, a2, hr8, hc20]
      refine TF.block ?_
      generalize hw0 : w = w0 at *
      refine TF.loopH (fun e w => ∃ i : Nat, i ≤ cols.length ∧ e 2 = .int .i64 60 ∧ e 3 = .pointer (some ⟨w0.size, 0, none⟩) ∧ e 7 = .int .i64 (i : Int) ∧ w.low ≤ w.size ∧ Gr w1 w) (fun e w => cols.length - natOf (e 7)) ?_ ?_
      · exact ⟨0, Nat.zero_le _, (by simp (maxSteps := 2000000) only [EVS, EVL, Nat.reduceEqDiff, Nat.reduceAdd, reduceIte, XE.then, XE.out, b1, c0, c1, a0, a1, a2, hr8, hc20]), (by simp (maxSteps := 2000000) only [EVS, EVL, Nat.reduceEqDiff, Nat.reduceAdd, reduceIte, XE.then, XE.out, b1, c0, c1, a0, a1, a2, hr8, hc20]), rfl, (W.gr g1).low, Gr.refl _⟩
      · rintro e w2 ⟨i, hi1, h2, h3, h7, hlow, g⟩
        replace c0 := g.cell' (by omega) c0
        replace c1 := g.cell' (by omega) c1
        refine TF.seq ?_
        refine TF.seq ?_
        refine TF.reg (call := oracle []) (by show 123 ≤ 1000000; decide) (by kernel_rfl) (oracle_ok _ (by simp)) ?_
        simp (maxSteps := 2000000) only [EVS, EVL, Nat.reduceEqDiff, Nat.reduceAdd, reduceIte, XE.then, XE.out, c0, c1, hr8, hc20, h2, h3, h7, c0, c1]
        by_cases hlt : i < cols.length
        · have hc_hlt := hlt
          refine TF.cond (t := true) rfl (by simp (maxSteps := 2000000) only [EVS, EVL, Nat.reduceEqDiff, Nat.reduceAdd, reduceIte, XE.then, XE.out, c0, c1, hr8, hc20, h2, h3, h7, c0, c1, hlt]) ?_
          simp (maxSteps := 2000000) only [EVS, EVL, Nat.reduceEqDiff, Nat.reduceAdd, reduceIte, XE.then, XE.out, c0, c1, hr8, hc20, h2, h3, h7, c0, c1, hlt]
          refine TF.skip ?_
          simp (maxSteps := 2000000) only [EVS, EVL, Nat.reduceEqDiff, Nat.reduceAdd, reduceIte, XE.then, XE.out, c0, c1, hr8, hc20, h2, h3, h7, c0, c1, hlt]
          refine TF.seq ?_
          refine TF.block ?_
          refine TF.seq ?_
          have hx1 : cols[i]? = some cols[i] := List.getElem?_eq_getElem hlt
          generalize cols[i] = x at *
          obtain ⟨ub, uo, uc', e1, _, hub, hcx⟩ := ((W.gr g1).gr g).rdC hu0 hx1
          cases e1
          have hcx := cell_of0 hcx rfl
          refine TF.reg (call := oracle []) (by show 123 ≤ 1000000; decide) (by kernel_rfl) (oracle_ok _ (by simp)) ?_
          simp (maxSteps := 2000000) only [EVS, EVL, Nat.reduceEqDiff, Nat.reduceAdd, reduceIte, XE.then, XE.out, c0, c1, hr8, hc20, h2, h3, h7, c0, c1, hlt, hcx]
          by_cases hq3 : ((x.1.size : Nat) : Int) > 300
          · have hc_hq3 := hq3
            refine TF.cond (t := true) rfl (by simp (maxSteps := 2000000) only [EVS, EVL, Nat.reduceEqDiff, Nat.reduceAdd, reduceIte, XE.then, XE.out, c0, c1, hr8, hc20, h2, h3, h7, c0, c1, hlt, hq3]) ?_
            simp (maxSteps := 2000000) only [EVS, EVL, Nat.reduceEqDiff, Nat.reduceAdd, reduceIte, XE.then, XE.out, c0, c1, hr8, hc20, h2, h3, h7, c0, c1, hlt, hq3]
            refine TF.seq ?_
            refine TF.reg (call := oracle []) (by show 123 ≤ 1000000; decide) (by kernel_rfl) (oracle_ok _ (by simp)) ?_
            simp (maxSteps := 2000000) only [EVS, EVL, Nat.reduceEqDiff, Nat.reduceAdd, reduceIte, XE.then, XE.out, c0, c1, hr8, hc20, h2, h3, h7, c0, c1, hlt, hq3]
            refine TF.ret ?_
            try simp (maxSteps := 2000000) only [EVS, EVL, Nat.reduceEqDiff, Nat.reduceAdd, reduceIte, XE.then, XE.out, c0, c1, hr8, hc20, h2, h3, h7, c0, c1, hlt, hq3]
            exact ⟨g1.trans g, false, rfl, fun h => by cases h⟩
          · have hc_hq3 := hq3
            refine TF.cond (t := false) rfl (by simp (maxSteps := 2000000) only [EVS, EVL, Nat.reduceEqDiff, Nat.reduceAdd, reduceIte, XE.then, XE.out, c0, c1, hr8, hc20, h2, h3, h7, c0, c1, hlt, hq3]) ?_
            simp (maxSteps := 2000000) only [EVS, EVL, Nat.reduceEqDiff, Nat.reduceAdd, reduceIte, XE.then, XE.out, c0, c1, hr8, hc20, h2, h3, h7, c0, c1, hlt, hq3]
            refine TF.skip ?_
            simp (maxSteps := 2000000) only [EVS, EVL, Nat.reduceEqDiff, Nat.reduceAdd, reduceIte, XE.then, XE.out, c0, c1, hr8, hc20, h2, h3, h7, c0, c1, hlt, hq3]
            refine TF.reg (call := oracle []) (by show 123 ≤ 1000000; decide) (by kernel_rfl) (oracle_ok _ (by simp)) ?_
            simp (maxSteps := 2000000) only [EVS, EVL, Nat.reduceEqDiff, Nat.reduceAdd, reduceIte, XE.then, XE.out, c0, c1, hr8, hc20, h2, h3, h7, c0, c1, hlt, hq3, wr1 (Nat.lt_trans hlt hc)]
            refine ⟨⟨i + 1, by omega, (by simp (maxSteps := 2000000) only [EVS, EVL, Nat.reduceEqDiff, Nat.reduceAdd, reduceIte, XE.then, XE.out, c0, c1, hr8, hc20, h2, h3, h7, c0, c1, hlt, hq3, wr1 (Nat.lt_trans hlt hc)]), (by simp (maxSteps := 2000000) only [EVS, EVL, Nat.reduceEqDiff, Nat.reduceAdd, reduceIte, XE.then, XE.out, c0, c1, hr8, hc20, h2, h3, h7, c0, c1, hlt, hq3, wr1 (Nat.lt_trans hlt hc)]), (by simp (maxSteps := 2000000) only [EVS, EVL, Nat.reduceEqDiff, Nat.reduceAdd, reduceIte, XE.then, XE.out, c0, c1, hr8, hc20, h2, h3, h7, c0, c1, hlt, hq3, wr1 (Nat.lt_trans hlt hc)]), hlow, g⟩, ?_⟩
            simp only [EVS, h7, wr1 (Nat.lt_trans hlt hc), Nat.reduceEqDiff, if_true, if_false, reduceIte]; omega
        · have hc_hlt := hlt
          refine TF.cond (t := false) rfl (by simp (maxSteps := 2000000) only [EVS, EVL, Nat.reduceEqDiff, Nat.reduceAdd, reduceIte, XE.then, XE.out, c0, c1, hr8, hc20, h2, h3, h7, c0, c1, hlt]) ?_
          simp (maxSteps := 2000000) only [EVS, EVL, Nat.reduceEqDiff, Nat.reduceAdd, reduceIte, XE.then, XE.out, c0, c1, hr8, hc20, h2, h3, h7, c0, c1, hlt]
          refine TF.exit ?_
          simp (maxSteps := 2000000) only [EVS, EVL, Nat.reduceEqDiff, Nat.reduceAdd, reduceIte, XE.then, XE.out, c0, c1, hr8, hc20, h2, h3, h7, c0, c1, hlt]
          refine TF.seq ?_
          refine TF.seq ?_
          refine TF.reg (call := oracle []) (by show 123 ≤ 1000000; decide) (by kernel_rfl) (oracle_ok _ (by simp)) ?_
          simp (maxSteps := 2000000) only [EVS, EVL, Nat.reduceEqDiff, Nat.reduceAdd, reduceIte, XE.then, XE.out, c0, c1, hr8, hc20, h2, h3, h7, c0, c1, hlt]
          refine TF.block ?_
          refine TF.loopH (fun e w => ∃ i : Nat, i ≤ rows.length ∧ e 2 = .int .i64 60 ∧ e 3 = .pointer (some ⟨w0.size, 0, none⟩) ∧ e 8 = .int .i64 (i : Int) ∧ (∀ x ∈ rows.take i, fewRow wt x) ∧ w.low ≤ w.size ∧ Gr w1 w) (fun e w => rows.length - natOf (e 8)) ?_ ?_
          · exact ⟨0, Nat.zero_le _, (by simp (maxSteps := 2000000) only [EVS, EVL, Nat.reduceEqDiff, Nat.reduceAdd, reduceIte, XE.then, XE.out, c0, c1, hr8, hc20, h2, h3, h7, c0, c1, hlt]), (by simp (maxSteps := 2000000) only [EVS, EVL, Nat.reduceEqDiff, Nat.reduceAdd, reduceIte, XE.then, XE.out, c0, c1, hr8, hc20, h2, h3, h7, c0, c1, hlt]), rfl, fun x h => by simp at h, hlow, g⟩
          · rintro e w2 ⟨i, hi1, h2, h3, h8, hall, hlow, g⟩
            have c1 : w2.cell ⟨w0.size, 1, none⟩ = some (.slice ua rows.length uc) := g.cell' (by omega) (by rw [cell_at r1]; rfl)
            refine TF.seq ?_
            refine TF.seq ?_
            refine TF.reg (call := oracle []) (by show 123 ≤ 1000000; decide) (by kernel_rfl) (oracle_ok _ (by simp)) ?_
            simp (maxSteps := 2000000) only [EVS, EVL, Nat.reduceEqDiff, Nat.reduceAdd, reduceIte, XE.then, XE.out, c1, hr8, hc20, h2, h3, c1, hlt, h8]
            by_cases hlt2 : i < rows.length
            · have hc_hlt2 := hlt2
              refine TF.cond (t := true) rfl (by simp (maxSteps := 2000000) only [EVS, EVL, Nat.reduceEqDiff, Nat.reduceAdd, reduceIte, XE.then, XE.out, c1, hr8, hc20, h2, h3, c1, hlt, h8, hlt2]) ?_
              simp (maxSteps := 2000000) only [EVS, EVL, Nat.reduceEqDiff, Nat.reduceAdd, reduceIte, XE.then, XE.out, c1, hr8, hc20, h2, h3, c1, hlt, h8, hlt2]
              refine TF.skip ?_
              simp (maxSteps := 2000000) only [EVS, EVL, Nat.reduceEqDiff, Nat.reduceAdd, reduceIte, XE.then, XE.out, c1, hr8, hc20, h2, h3, c1, hlt, h8, hlt2]
              refine TF.seq ?_
              refine TF.block ?_
              refine TF.seq ?_
              have hx1 : rows[i]? = some rows[i] := List.getElem?_eq_getElem hlt2
              obtain ⟨hb1, hb2, hb3, hb4⟩ := hbig _ (List.getElem_mem hlt2)
              generalize rows[i] = x at *
              obtain ⟨ub, uo, uc', xv, xs, xa, e1, _, hub, hcx, hdv, hds, hda⟩ := W.rdRow hu hx1
              cases e1
              have cx := (g1.trans g).cells' hub hcx
              obtain ⟨w3, w4, b3, b4, g4, z4, r4⟩ := new_box al_33 st_33 w2 hlow [xv, xs, xa] rfl (by simp [hdv.one, hds.one, hda.one])
              replace g4 := g.trans g4
              have hlow4 : w4.low ≤ w4.size := g4.lowle (W.gr g1).low
              obtain ⟨va', vc', rfl⟩ := hdv.len
              obtain ⟨sa, sc, rfl⟩ := hds.len
              have d0 : w4.cell ⟨w2.size, 0, none⟩ = some (.slice va' x.vals.length vc') := by rw [cell_at r4]; rfl
              have d1 : w4.cell ⟨w2.size, 1, none⟩ = some (.slice sa x.sums.length sc) := by rw [cell_at r4]; rfl
              have d2 : w4.cell ⟨w2.size, 2, none⟩ = some xa := by rw [cell_at r4]; rfl
              refine TF.reg (call := oracle []) (by show 123 ≤ 1000000; decide) (by kernel_rfl) (oracle_ok _ (by simp)) ?_
              simp (maxSteps := 2000000) only [EVS, EVL, Nat.reduceEqDiff, Nat.reduceAdd, reduceIte, XE.then, XE.out, c1, hr8, hc20, h2, h3, c1, hlt, h8, hlt2, cx, b3, b4]
              refine TF.seq ?_
              refine TF.seq ?_
              by_cases hv20 : ((x.vals.length : Nat) : Int) > 20
              · have hc_hv20 := hv20
                refine TF.reg (call := oracle []) (by show 123 ≤ 1000000; decide) (by kernel_rfl) (oracle_ok _ (by simp)) ?_
                simp (maxSteps := 2000000) only [EVS, EVL, Nat.reduceEqDiff, Nat.reduceAdd, reduceIte, XE.then, XE.out, c1, hr8, hc20, h2, h3, c1, hlt, h8, hlt2, hv20, res_not, isBl_bool, notV_bool, d0, d1]
                refine TF.cond (t := true) rfl (by simp (maxSteps := 2000000) only [EVS, EVL, Nat.reduceEqDiff, Nat.reduceAdd, reduceIte, XE.then, XE.out, c1, hr8, hc20, h2, h3, c1, hlt, h8, hlt2, hv20]) ?_
                simp (maxSteps := 2000000) only [EVS, EVL, Nat.reduceEqDiff, Nat.reduceAdd, reduceIte, XE.then, XE.out, c1, hr8, hc20, h2, h3, c1, hlt, h8, hlt2, hv20]
                refine TF.seq ?_
                refine TF.reg (call := oracle []) (by show 123 ≤ 1000000; decide) (by kernel_rfl) (oracle_ok _ (by simp)) ?_
                simp (maxSteps := 2000000) only [EVS, EVL, Nat.reduceEqDiff, Nat.reduceAdd, reduceIte, XE.then, XE.out, c1, hr8, hc20, h2, h3, c1, hlt, h8, hlt2, hv20]
                refine TF.ret ?_
                try simp (maxSteps := 2000000) only [EVS, EVL, Nat.reduceEqDiff, Nat.reduceAdd, reduceIte, XE.then, XE.out, c1, hr8, hc20, h2, h3, c1, hlt, h8, hlt2, hv20]
                exact ⟨g1.trans g4, false, rfl, fun h => by cases h⟩
              · have hc_hv20 := hv20
                by_cases hs20 : ((x.sums.length : Nat) : Int) > 20
                · have hc_hs20 := hs20
                  refine TF.reg (call := oracle []) (by show 123 ≤ 1000000; decide) (by kernel_rfl) (oracle_ok _ (by simp)) ?_
                  simp (maxSteps := 2000000) only [EVS, EVL, Nat.reduceEqDiff, Nat.reduceAdd, reduceIte, XE.then, XE.out, c1, hr8, hc20, h2, h3, c1, hlt, h8, hlt2, hv20, hs20, res_not, isBl_bool, notV_bool, d0, d1]
                  refine TF.cond (t := true) rfl (by simp (maxSteps := 2000000) only [EVS, EVL, Nat.reduceEqDiff, Nat.reduceAdd, reduceIte, XE.then, XE.out, c1, hr8, hc20, h2, h3, c1, hlt, h8, hlt2, hv20, hs20]) ?_
                  simp (maxSteps := 2000000) only [EVS, EVL, Nat.reduceEqDiff, Nat.reduceAdd, reduceIte, XE.then, XE.out, c1, hr8, hc20, h2, h3, c1, hlt, h8, hlt2, hv20, hs20]
                  refine TF.seq ?_
                  refine TF.reg (call := oracle []) (by show 123 ≤ 1000000; decide) (by kernel_rfl) (oracle_ok _ (by simp)) ?_
                  simp (maxSteps := 2000000) only [EVS, EVL, Nat.reduceEqDiff, Nat.reduceAdd, reduceIte, XE.then, XE.out, c1, hr8, hc20, h2, h3, c1, hlt, h8, hlt2, hv20, hs20]
                  refine TF.ret ?_
                  try simp (maxSteps := 2000000) only [EVS, EVL, Nat.reduceEqDiff, Nat.reduceAdd, reduceIte, XE.then, XE.out, c1, hr8, hc20, h2, h3, c1, hlt, h8, hlt2, hv20, hs20]
                  exact ⟨g1.trans g4, false, rfl, fun h => by cases h⟩
                · have hc_hs20 := hs20
                  obtain ⟨rv, w5, k16, g5, t16, rfl⟩ := short_ok x.vals hb1 300 ((W.gr g1).gr g4) hdv
                  have d2' := g5.cell' (show w2.size < w4.size by omega) d2
                  by_cases h16 : t16 = true
                  · have hc_h16 := h16
                    subst h16
                    obtain ⟨w6, s6, g6, z6, r6⟩ := bs1W_ok bs_102 xa (l := [xa]) (by rw [flatten_one hda.one]) rfl w5
                    have W5 := ((W.gr g1).gr g4).gr (g5.trans g6)
                    obtain ⟨rv, w7, k17, g7, t17, rfl, hw17⟩ := few1_ok H x.ann hb3 60 (by decide) (b := w5.size) (c := 1) W5 hda (by omega) (by rw [cell_at r6]; rfl)
                    have g47 := g5.trans (g6.trans g7)
                    replace g7 := g4.trans g47
                    have hlow7 : w7.low ≤ w7.size := g7.lowle (W.gr g1).low
                    refine TF.reg (call := oracle [(16, ⟨[.slice va' x.vals.length vc', .int .i64 300]⟩, w4, .bool true, w5), (17, ⟨[.int .i64 60, .slice (some ⟨w5.size, 0, none⟩) 1 1]⟩, w6, .bool t17, w7)]) (by show 123 ≤ 1000000; decide) (by kernel_rfl) (oracle_ok _ (by simpa using ⟨k16, k17⟩)) ?_
                    simp (maxSteps := 2000000) only [EVS, EVL, Nat.reduceEqDiff, Nat.reduceAdd, reduceIte, XE.then, XE.out, c1, hr8, hc20, h2, h3, c1, hlt, h8, hlt2, hv20, hs20, res_not, isBl_bool, notV_bool, d0, d1, d2', s6, Bool.not_true, Bool.not_false, oracle_skip (show (17 : FuncId) ≠ 16 by decide)]
                    by_cases h17 : t17 = true
                    · have hc_h17 := h17
                      refine TF.cond (t := false) rfl (by simp only [EVS]; simp [h17]) ?_
                      simp (maxSteps := 2000000) only [EVS, EVL, Nat.reduceEqDiff, Nat.reduceAdd, reduceIte, XE.then, XE.out, c1, hr8, hc20, h2, h3, c1, hlt, h8, hlt2, hv20, hs20]
                      refine TF.skip ?_
                      simp (maxSteps := 2000000) only [EVS, EVL, Nat.reduceEqDiff, Nat.reduceAdd, reduceIte, XE.then, XE.out, c1, hr8, hc20, h2, h3, c1, hlt, h8, hlt2, hv20, hs20]
                      refine TF.seq ?_
                      refine TF.reg (call := oracle []) (by show 123 ≤ 1000000; decide) (by kernel_rfl) (oracle_ok _ (by simp)) ?_
                      simp (maxSteps := 2000000) only [EVS, EVL, Nat.reduceEqDiff, Nat.reduceAdd, reduceIte, XE.then, XE.out, c1, hr8, hc20, h2, h3, c1, hlt, h8, hlt2, hv20, hs20]
                      refine TF.block ?_
                      refine TF.loopH (fun e w => ∃ j : Nat, j ≤ x.sums.length ∧ e 2 = .int .i64 60 ∧ e 3 = .pointer (some ⟨w0.size, 0, none⟩) ∧ e 8 = .int .i64 (i : Int) ∧ e 9 = .pointer (some ⟨w2.size, 0, none⟩) ∧ e 10 = .int .i64 (j : Int) ∧ (∀ s ∈ x.sums.take j, s.2.length ≤ 20 ∧ ∀ p ∈ s.2, wt p.2 ≤ 60) ∧ w.low ≤ w.size ∧ Gr w7 w) (fun e w => x.sums.length - natOf (e 10)) ?_ ?_
                      · exact ⟨0, Nat.zero_le _, (by simp (maxSteps := 2000000) only [EVS, EVL, Nat.reduceEqDiff, Nat.reduceAdd, reduceIte, XE.then, XE.out, c1, hr8, hc20, h2, h3, c1, hlt, h8, hlt2, hv20, hs20]), (by simp (maxSteps := 2000000) only [EVS, EVL, Nat.reduceEqDiff, Nat.reduceAdd, reduceIte, XE.then, XE.out, c1, hr8, hc20, h2, h3, c1, hlt, h8, hlt2, hv20, hs20]), (by simp (maxSteps := 2000000) only [EVS, EVL, Nat.reduceEqDiff, Nat.reduceAdd, reduceIte, XE.then, XE.out, c1, hr8, hc20, h2, h3, c1, hlt, h8, hlt2, hv20, hs20]), (by simp (maxSteps := 2000000) only [EVS, EVL, Nat.reduceEqDiff, Nat.reduceAdd, reduceIte, XE.then, XE.out, c1, hr8, hc20, h2, h3, c1, hlt, h8, hlt2, hv20, hs20]), rfl, fun x h => by simp at h, hlow7, Gr.refl _⟩
                      · rintro e w8 ⟨j, hj1, h2, h3, h8, h9, h10, hs4, hlow8, g8⟩
                        have d1' := (g47.trans g8).cell' (show w2.size < w4.size by omega) d1
                        refine TF.seq ?_
                        refine TF.seq ?_
                        refine TF.reg (call := oracle []) (by show 123 ≤ 1000000; decide) (by kernel_rfl) (oracle_ok _ (by simp)) ?_
                        simp (maxSteps := 2000000) only [EVS, EVL, Nat.reduceEqDiff, Nat.reduceAdd, reduceIte, XE.then, XE.out, c1, hr8, hc20, h2, h3, c1, hlt, h8, hlt2, hv20, hs20, h9, h10, d1']
                        by_cases hlt4 : j < x.sums.length
                        · have hc_hlt4 := hlt4
                          refine TF.cond (t := true) rfl (by simp (maxSteps := 2000000) only [EVS, EVL, Nat.reduceEqDiff, Nat.reduceAdd, reduceIte, XE.then, XE.out, c1, hr8, hc20, h2, h3, c1, hlt, h8, hlt2, hv20, hs20, h9, h10, d1', hlt4]) ?_
                          simp (maxSteps := 2000000) only [EVS, EVL, Nat.reduceEqDiff, Nat.reduceAdd, reduceIte, XE.then, XE.out, c1, hr8, hc20, h2, h3, c1, hlt, h8, hlt2, hv20, hs20, h9, h10, d1', hlt4]
                          refine TF.skip ?_
                          simp (maxSteps := 2000000) only [EVS, EVL, Nat.reduceEqDiff, Nat.reduceAdd, reduceIte, XE.then, XE.out, c1, hr8, hc20, h2, h3, c1, hlt, h8, hlt2, hv20, hs20, h9, h10, d1', hlt4]
                          refine TF.seq ?_
                          refine TF.block ?_
                          refine TF.seq ?_
                          refine TF.seq ?_
                          have hy1 : x.sums[j]? = some x.sums[j] := List.getElem?_eq_getElem hlt4
                          obtain ⟨hb5, hb6⟩ := hb4 _ (List.getElem_mem hlt4)
                          generalize x.sums[j] = y at *
                          obtain ⟨sb, so, sc', xi, e2, _, hsb, hcs, hdi, _⟩ := W.rdSum hds hy1
                          cases e2
                          obtain ⟨ia, ic, rfl⟩ := hdi.len
                          have hcs := cell_of hcs 1 rfl
                          have cs := (g1.trans (g7.trans g8)).cell' hsb hcs
                          refine TF.reg (call := oracle []) (by show 123 ≤ 1000000; decide) (by kernel_rfl) (oracle_ok _ (by simp)) ?_
                          simp (maxSteps := 2000000) only [EVS, EVL, Nat.reduceEqDiff, Nat.reduceAdd, reduceIte, XE.then, XE.out, c1, hr8, hc20, h2, h3, c1, hlt, h8, hlt2, hv20, hs20, h9, h10, d1', hlt4, cs]
                          by_cases hi20 : ((y.2.length : Nat) : Int) > 20
                          · have hc_hi20 := hi20
                            refine TF.cond (t := true) rfl (by simp (maxSteps := 2000000) only [EVS, EVL, Nat.reduceEqDiff, Nat.reduceAdd, reduceIte, XE.then, XE.out, c1, hr8, hc20, h2, h3, c1, hlt, h8, hlt2, hv20, hs20, h9, h10, d1', hlt4, hi20]) ?_
                            simp (maxSteps := 2000000) only [EVS, EVL, Nat.reduceEqDiff, Nat.reduceAdd, reduceIte, XE.then, XE.out, c1, hr8, hc20, h2, h3, c1, hlt, h8, hlt2, hv20, hs20, h9, h10, d1', hlt4, hi20]
                            refine TF.seq ?_
                            refine TF.reg (call := oracle []) (by show 123 ≤ 1000000; decide) (by kernel_rfl) (oracle_ok _ (by simp)) ?_
                            simp (maxSteps := 2000000) only [EVS, EVL, Nat.reduceEqDiff, Nat.reduceAdd, reduceIte, XE.then, XE.out, c1, hr8, hc20, h2, h3, c1, hlt, h8, hlt2, hv20, hs20, h9, h10, d1', hlt4, hi20]
                            refine TF.ret ?_
                            try simp (maxSteps := 2000000) only [EVS, EVL, Nat.reduceEqDiff, Nat.reduceAdd, reduceIte, XE.then, XE.out, c1, hr8, hc20, h2, h3, c1, hlt, h8, hlt2, hv20, hs20, h9, h10, d1', hlt4, hi20]
                            exact ⟨g1.trans (g7.trans g8), false, rfl, fun h => by cases h⟩
                          · have hc_hi20 := hi20
                            refine TF.cond (t := false) rfl (by simp (maxSteps := 2000000) only [EVS, EVL, Nat.reduceEqDiff, Nat.reduceAdd, reduceIte, XE.then, XE.out, c1, hr8, hc20, h2, h3, c1, hlt, h8, hlt2, hv20, hs20, h9, h10, d1', hlt4, hi20]) ?_
                            simp (maxSteps := 2000000) only [EVS, EVL, Nat.reduceEqDiff, Nat.reduceAdd, reduceIte, XE.then, XE.out, c1, hr8, hc20, h2, h3, c1, hlt, h8, hlt2, hv20, hs20, h9, h10, d1', hlt4, hi20]
                            refine TF.skip ?_
                            simp (maxSteps := 2000000) only [EVS, EVL, Nat.reduceEqDiff, Nat.reduceAdd, reduceIte, XE.then, XE.out, c1, hr8, hc20, h2, h3, c1, hlt, h8, hlt2, hv20, hs20, h9, h10, d1', hlt4, hi20]
                            refine TF.seq ?_
                            refine TF.reg (call := oracle []) (by show 123 ≤ 1000000; decide) (by kernel_rfl) (oracle_ok _ (by simp)) ?_
                            simp (maxSteps := 2000000) only [EVS, EVL, Nat.reduceEqDiff, Nat.reduceAdd, reduceIte, XE.then, XE.out, c1, hr8, hc20, h2, h3, c1, hlt, h8, hlt2, hv20, hs20, h9, h10, d1', hlt4, hi20]
                            refine TF.block ?_
                            refine TF.loopH (fun e w => ∃ q : Nat, q ≤ y.2.length ∧ e 2 = .int .i64 60 ∧ e 3 = .pointer (some ⟨w0.size, 0, none⟩) ∧ e 8 = .int .i64 (i : Int) ∧ e 9 = .pointer (some ⟨w2.size, 0, none⟩) ∧ e 10 = .int .i64 (j : Int) ∧ e 11 = .int .i64 (q : Int) ∧ (∀ p ∈ y.2.take q, wt p.2 ≤ 60) ∧ w.low ≤ w.size ∧ Gr w7 w) (fun e w => y.2.length - natOf (e 11)) ?_ ?_
                            · exact ⟨0, Nat.zero_le _, (by simp (maxSteps := 2000000) only [EVS, EVL, Nat.reduceEqDiff, Nat.reduceAdd, reduceIte, XE.then, XE.out, c1, hr8, hc20, h2, h3, c1, hlt, h8, hlt2, hv20, hs20, h9, h10, d1', hlt4, hi20]), (by simp (maxSteps := 2000000) only [EVS, EVL, Nat.reduceEqDiff, Nat.reduceAdd, reduceIte, XE.then, XE.out, c1, hr8, hc20, h2, h3, c1, hlt, h8, hlt2, hv20, hs20, h9, h10, d1', hlt4, hi20]), (by simp (maxSteps := 2000000) only [EVS, EVL, Nat.reduceEqDiff, Nat.reduceAdd, reduceIte, XE.then, XE.out, c1, hr8, hc20, h2, h3, c1, hlt, h8, hlt2, hv20, hs20, h9, h10, d1', hlt4, hi20]), (by simp (maxSteps := 2000000) only [EVS, EVL, Nat.reduceEqDiff, Nat.reduceAdd, reduceIte, XE.then, XE.out, c1, hr8, hc20, h2, h3, c1, hlt, h8, hlt2, hv20, hs20, h9, h10, d1', hlt4, hi20]), (by simp (maxSteps := 2000000) only [EVS, EVL, Nat.reduceEqDiff, Nat.reduceAdd, reduceIte, XE.then, XE.out, c1, hr8, hc20, h2, h3, c1, hlt, h8, hlt2, hv20, hs20, h9, h10, d1', hlt4, hi20]), rfl, fun x h => by simp at h, hlow8, g8⟩
                            · rintro e w9 ⟨q, hq1, h2, h3, h8, h9, h10, h11, hs6, hlow9, g9⟩
                              have d1' := (g47.trans g9).cell' (show w2.size < w4.size by omega) d1
                              have cs := (g1.trans (g7.trans g9)).cell' hsb hcs
                              refine TF.seq ?_
                              refine TF.seq ?_
                              refine TF.reg (call := oracle []) (by show 123 ≤ 1000000; decide) (by kernel_rfl) (oracle_ok _ (by simp)) ?_
                              simp (maxSteps := 2000000) only [EVS, EVL, Nat.reduceEqDiff, Nat.reduceAdd, reduceIte, XE.then, XE.out, c1, hr8, hc20, h2, h3, c1, hlt, h8, hlt2, hv20, hs20, h9, h10, d1', hlt4, hi20, h11, cs]
                              by_cases hlt6 : q < y.2.length
                              · have hc_hlt6 := hlt6
                                refine TF.cond (t := true) rfl (by simp (maxSteps := 2000000) only [EVS, EVL, Nat.reduceEqDiff, Nat.reduceAdd, reduceIte, XE.then, XE.out, c1, hr8, hc20, h2, h3, c1, hlt, h8, hlt2, hv20, hs20, h9, h10, d1', hlt4, hi20, h11, cs, hlt6]) ?_
                                simp (maxSteps := 2000000) only [EVS, EVL, Nat.reduceEqDiff, Nat.reduceAdd, reduceIte, XE.then, XE.out, c1, hr8, hc20, h2, h3, c1, hlt, h8, hlt2, hv20, hs20, h9, h10, d1', hlt4, hi20, h11, cs, hlt6]
                                refine TF.skip ?_
                                simp (maxSteps := 2000000) only [EVS, EVL, Nat.reduceEqDiff, Nat.reduceAdd, reduceIte, XE.then, XE.out, c1, hr8, hc20, h2, h3, c1, hlt, h8, hlt2, hv20, hs20, h9, h10, d1', hlt4, hi20, h11, cs, hlt6]
                                refine TF.seq ?_
                                refine TF.block ?_
                                refine TF.seq ?_
                                have hz1 : y.2[q]? = some y.2[q] := List.getElem?_eq_getElem hlt6
                                have hbz := hb6 _ (List.getElem_mem hlt6)
                                generalize y.2[q] = z at *
                                obtain ⟨ib, io, ic', za, e3, _, hib, hcz, hdz, _⟩ := W.rdI hdi hz1
                                cases e3
                                have cz := (g1.trans (g7.trans g9)).cells' hib hcz
                                obtain ⟨w10, w11, b10, b11, g11, z11, r11⟩ := new_box al_66 st_66 w9 hlow9 [.int .i64 z.1.kind, .int .i64 z.1.int, .string z.1.text, za] rfl (by simp [oneI, oneS, hdz.one])
                                replace g11 := g9.trans g11
                                have hlow11 := g11.lowle hlow7
                                have f2 : w11.cell ⟨w9.size, 2, none⟩ = some (.string z.1.text) := by rw [cell_at r11]; rfl
                                have f3 : w11.cell ⟨w9.size, 3, none⟩ = some za := by rw [cell_at r11]; rfl
                                refine TF.reg (call := oracle []) (by show 123 ≤ 1000000; decide) (by kernel_rfl) (oracle_ok _ (by simp)) ?_
                                simp (maxSteps := 2000000) only [EVS, EVL, Nat.reduceEqDiff, Nat.reduceAdd, reduceIte, XE.then, XE.out, c1, hr8, hc20, h2, h3, c1, hlt, h8, hlt2, hv20, hs20, h9, h10, d1', hlt4, hi20, h11, cs, hlt6, cz, b10, b11]
                                refine TF.seq ?_
                                by_cases ht3 : ((z.1.text.size : Nat) : Int) > 300
                                · have hc_ht3 := ht3
                                  refine TF.reg (call := oracle []) (by show 123 ≤ 1000000; decide) (by kernel_rfl) (oracle_ok _ (by simp)) ?_
                                  simp (maxSteps := 2000000) only [EVS, EVL, Nat.reduceEqDiff, Nat.reduceAdd, reduceIte, XE.then, XE.out, c1, hr8, hc20, h2, h3, c1, hlt, h8, hlt2, hv20, hs20, h9, h10, d1', hlt4, hi20, h11, cs, hlt6, ht3, f2, res_not, isBl_bool, notV_bool]
                                  refine TF.cond (t := true) rfl (by simp (maxSteps := 2000000) only [EVS, EVL, Nat.reduceEqDiff, Nat.reduceAdd, reduceIte, XE.then, XE.out, c1, hr8, hc20, h2, h3, c1, hlt, h8, hlt2, hv20, hs20, h9, h10, d1', hlt4, hi20, h11, cs, hlt6, ht3]) ?_
                                  simp (maxSteps := 2000000) only [EVS, EVL, Nat.reduceEqDiff, Nat.reduceAdd, reduceIte, XE.then, XE.out, c1, hr8, hc20, h2, h3, c1, hlt, h8, hlt2, hv20, hs20, h9, h10, d1', hlt4, hi20, h11, cs, hlt6, ht3]
                                  refine TF.seq ?_
                                  refine TF.reg (call := oracle []) (by show 123 ≤ 1000000; decide) (by kernel_rfl) (oracle_ok _ (by simp)) ?_
                                  simp (maxSteps := 2000000) only [EVS, EVL, Nat.reduceEqDiff, Nat.reduceAdd, reduceIte, XE.then, XE.out, c1, hr8, hc20, h2, h3, c1, hlt, h8, hlt2, hv20, hs20, h9, h10, d1', hlt4, hi20, h11, cs, hlt6, ht3]
                                  refine TF.ret ?_
                                  try simp (maxSteps := 2000000) only [EVS, EVL, Nat.reduceEqDiff, Nat.reduceAdd, reduceIte, XE.then, XE.out, c1, hr8, hc20, h2, h3, c1, hlt, h8, hlt2, hv20, hs20, h9, h10, d1', hlt4, hi20, h11, cs, hlt6, ht3]
                                  exact ⟨g1.trans (g7.trans g11), false, rfl, fun h => by cases h⟩
                                · have hc_ht3 := ht3
                                  obtain ⟨w12, s12, g12, z12, r12⟩ := bs1W_ok bs_102 za (l := [za]) (by rw [flatten_one hdz.one]) rfl w11
                                  have W12 := (W.gr (g1.trans (g7.trans g11))).gr g12
                                  obtain ⟨rv, w13, kp, g13, tp, rfl, hwp⟩ := few1_ok H z.2 hbz 60 (by decide) (b := w11.size) (c := 1) W12 hdz (by omega) (by rw [cell_at r12]; rfl)
                                  replace g13 := g11.trans (g12.trans g13)
                                  have hlow13 : w13.low ≤ w13.size := g13.lowle hlow7
                                  refine TF.reg (call := oracle [(17, ⟨[.int .i64 60, .slice (some ⟨w11.size, 0, none⟩) 1 1]⟩, w12, .bool tp, w13)]) (by show 123 ≤ 1000000; decide) (by kernel_rfl) (oracle_ok _ (by simpa using kp)) ?_
                                  simp (maxSteps := 2000000) only [EVS, EVL, Nat.reduceEqDiff, Nat.reduceAdd, reduceIte, XE.then, XE.out, c1, hr8, hc20, h2, h3, c1, hlt, h8, hlt2, hv20, hs20, h9, h10, d1', hlt4, hi20, h11, cs, hlt6, ht3, f2, f3, s12, res_not, isBl_bool, notV_bool]
                                  by_cases hp : tp = true
                                  · have hc_hp := hp
                                    refine TF.cond (t := false) rfl (by simp only [EVS]; simp [hp]) ?_
                                    simp (maxSteps := 2000000) only [EVS, EVL, Nat.reduceEqDiff, Nat.reduceAdd, reduceIte, XE.then, XE.out, c1, hr8, hc20, h2, h3, c1, hlt, h8, hlt2, hv20, hs20, h9, h10, d1', hlt4, hi20, h11, cs, hlt6, ht3]
                                    refine TF.skip ?_
                                    simp (maxSteps := 2000000) only [EVS, EVL, Nat.reduceEqDiff, Nat.reduceAdd, reduceIte, XE.then, XE.out, c1, hr8, hc20, h2, h3, c1, hlt, h8, hlt2, hv20, hs20, h9, h10, d1', hlt4, hi20, h11, cs, hlt6, ht3]
                                    refine TF.reg (call := oracle []) (by show 123 ≤ 1000000; decide) (by kernel_rfl) (oracle_ok _ (by simp)) ?_
                                    simp (maxSteps := 2000000) only [EVS, EVL, Nat.reduceEqDiff, Nat.reduceAdd, reduceIte, XE.then, XE.out, c1, hr8, hc20, h2, h3, c1, hlt, h8, hlt2, hv20, hs20, h9, h10, d1', hlt4, hi20, h11, cs, hlt6, ht3, wr1 (Nat.lt_trans hlt6 hb5)]
                                    refine ⟨⟨q + 1, by omega, (by simp (maxSteps := 2000000) only [EVS, EVL, Nat.reduceEqDiff, Nat.reduceAdd, reduceIte, XE.then, XE.out, c1, hr8, hc20, h2, h3, c1, hlt, h8, hlt2, hv20, hs20, h9, h10, d1', hlt4, hi20, h11, cs, hlt6, ht3, wr1 (Nat.lt_trans hlt6 hb5)]), (by simp (maxSteps := 2000000) only [EVS, EVL, Nat.reduceEqDiff, Nat.reduceAdd, reduceIte, XE.then, XE.out, c1, hr8, hc20, h2, h3, c1, hlt, h8, hlt2, hv20, hs20, h9, h10, d1', hlt4, hi20, h11, cs, hlt6, ht3, wr1 (Nat.lt_trans hlt6 hb5)]), (by simp (maxSteps := 2000000) only [EVS, EVL, Nat.reduceEqDiff, Nat.reduceAdd, reduceIte, XE.then, XE.out, c1, hr8, hc20, h2, h3, c1, hlt, h8, hlt2, hv20, hs20, h9, h10, d1', hlt4, hi20, h11, cs, hlt6, ht3, wr1 (Nat.lt_trans hlt6 hb5)]), (by simp (maxSteps := 2000000) only [EVS, EVL, Nat.reduceEqDiff, Nat.reduceAdd, reduceIte, XE.then, XE.out, c1, hr8, hc20, h2, h3, c1, hlt, h8, hlt2, hv20, hs20, h9, h10, d1', hlt4, hi20, h11, cs, hlt6, ht3, wr1 (Nat.lt_trans hlt6 hb5)]), (by simp (maxSteps := 2000000) only [EVS, EVL, Nat.reduceEqDiff, Nat.reduceAdd, reduceIte, XE.then, XE.out, c1, hr8, hc20, h2, h3, c1, hlt, h8, hlt2, hv20, hs20, h9, h10, d1', hlt4, hi20, h11, cs, hlt6, ht3, wr1 (Nat.lt_trans hlt6 hb5)]), (by simp (maxSteps := 2000000) only [EVS, EVL, Nat.reduceEqDiff, Nat.reduceAdd, reduceIte, XE.then, XE.out, c1, hr8, hc20, h2, h3, c1, hlt, h8, hlt2, hv20, hs20, h9, h10, d1', hlt4, hi20, h11, cs, hlt6, ht3, wr1 (Nat.lt_trans hlt6 hb5)]), all_step hs6 hz1 (hwp hp), hlow13, g13⟩, ?_⟩
                                    simp only [EVS, h11, wr1 (Nat.lt_trans hlt6 hb5), Nat.reduceEqDiff, if_true, if_false, reduceIte]; omega
                                  · have hc_hp := hp
                                    refine TF.cond (t := true) rfl (by simp only [EVS]; simp [hp]) ?_
                                    simp (maxSteps := 2000000) only [EVS, EVL, Nat.reduceEqDiff, Nat.reduceAdd, reduceIte, XE.then, XE.out, c1, hr8, hc20, h2, h3, c1, hlt, h8, hlt2, hv20, hs20, h9, h10, d1', hlt4, hi20, h11, cs, hlt6, ht3]
                                    refine TF.seq ?_
                                    refine TF.reg (call := oracle []) (by show 123 ≤ 1000000; decide) (by kernel_rfl) (oracle_ok _ (by simp)) ?_
                                    simp (maxSteps := 2000000) only [EVS, EVL, Nat.reduceEqDiff, Nat.reduceAdd, reduceIte, XE.then, XE.out, c1, hr8, hc20, h2, h3, c1, hlt, h8, hlt2, hv20, hs20, h9, h10, d1', hlt4, hi20, h11, cs, hlt6, ht3]
                                    refine TF.ret ?_
                                    try simp (maxSteps := 2000000) only [EVS, EVL, Nat.reduceEqDiff, Nat.reduceAdd, reduceIte, XE.then, XE.out, c1, hr8, hc20, h2, h3, c1, hlt, h8, hlt2, hv20, hs20, h9, h10, d1', hlt4, hi20, h11, cs, hlt6, ht3]
                                    exact ⟨g1.trans (g7.trans g13), false, rfl, fun h => by cases h⟩
                              · have hc_hlt6 := hlt6
                                refine TF.cond (t := false) rfl (by simp (maxSteps := 2000000) only [EVS, EVL, Nat.reduceEqDiff, Nat.reduceAdd, reduceIte, XE.then, XE.out, c1, hr8, hc20, h2, h3, c1, hlt, h8, hlt2, hv20, hs20, h9, h10, d1', hlt4, hi20, h11, cs, hlt6]) ?_
                                simp (maxSteps := 2000000) only [EVS, EVL, Nat.reduceEqDiff, Nat.reduceAdd, reduceIte, XE.then, XE.out, c1, hr8, hc20, h2, h3, c1, hlt, h8, hlt2, hv20, hs20, h9, h10, d1', hlt4, hi20, h11, cs, hlt6]
                                refine TF.exit ?_
                                simp (maxSteps := 2000000) only [EVS, EVL, Nat.reduceEqDiff, Nat.reduceAdd, reduceIte, XE.then, XE.out, c1, hr8, hc20, h2, h3, c1, hlt, h8, hlt2, hv20, hs20, h9, h10, d1', hlt4, hi20, h11, cs, hlt6]
                                refine TF.reg (call := oracle []) (by show 123 ≤ 1000000; decide) (by kernel_rfl) (oracle_ok _ (by simp)) ?_
                                simp (maxSteps := 2000000) only [EVS, EVL, Nat.reduceEqDiff, Nat.reduceAdd, reduceIte, XE.then, XE.out, c1, hr8, hc20, h2, h3, c1, hlt, h8, hlt2, hv20, hs20, h9, h10, d1', hlt4, hi20, h11, cs, hlt6, wr1 (Nat.lt_trans hlt4 hb2)]
                                refine ⟨⟨j + 1, by omega, (by simp (maxSteps := 2000000) only [EVS, EVL, Nat.reduceEqDiff, Nat.reduceAdd, reduceIte, XE.then, XE.out, c1, hr8, hc20, h2, h3, c1, hlt, h8, hlt2, hv20, hs20, h9, h10, d1', hlt4, hi20, h11, cs, hlt6, wr1 (Nat.lt_trans hlt4 hb2)]), (by simp (maxSteps := 2000000) only [EVS, EVL, Nat.reduceEqDiff, Nat.reduceAdd, reduceIte, XE.then, XE.out, c1, hr8, hc20, h2, h3, c1, hlt, h8, hlt2, hv20, hs20, h9, h10, d1', hlt4, hi20, h11, cs, hlt6, wr1 (Nat.lt_trans hlt4 hb2)]), (by simp (maxSteps := 2000000) only [EVS, EVL, Nat.reduceEqDiff, Nat.reduceAdd, reduceIte, XE.then, XE.out, c1, hr8, hc20, h2, h3, c1, hlt, h8, hlt2, hv20, hs20, h9, h10, d1', hlt4, hi20, h11, cs, hlt6, wr1 (Nat.lt_trans hlt4 hb2)]), (by simp (maxSteps := 2000000) only [EVS, EVL, Nat.reduceEqDiff, Nat.reduceAdd, reduceIte, XE.then, XE.out, c1, hr8, hc20, h2, h3, c1, hlt, h8, hlt2, hv20, hs20, h9, h10, d1', hlt4, hi20, h11, cs, hlt6, wr1 (Nat.lt_trans hlt4 hb2)]), (by simp (maxSteps := 2000000) only [EVS, EVL, Nat.reduceEqDiff, Nat.reduceAdd, reduceIte, XE.then, XE.out, c1, hr8, hc20, h2, h3, c1, hlt, h8, hlt2, hv20, hs20, h9, h10, d1', hlt4, hi20, h11, cs, hlt6, wr1 (Nat.lt_trans hlt4 hb2)]), all_step hs4 hy1 ⟨by omega, all_all hs6 hlt6⟩, hlow9, g9⟩, ?_⟩
                                simp only [EVS, h10, wr1 (Nat.lt_trans hlt4 hb2), Nat.reduceEqDiff, if_true, if_false, reduceIte]; omega
                        · have hc_hlt4 := hlt4
                          refine TF.cond (t := false) rfl (by simp (maxSteps := 2000000) only [EVS, EVL, Nat.reduceEqDiff, Nat.reduceAdd, reduceIte, XE.then, XE.out, c1, hr8, hc20, h2, h3, c1, hlt, h8, hlt2, hv20, hs20, h9, h10, d1', hlt4]) ?_
                          simp (maxSteps := 2000000) only [EVS, EVL, Nat.reduceEqDiff, Nat.reduceAdd, reduceIte, XE.then, XE.out, c1, hr8, hc20, h2, h3, c1, hlt, h8, hlt2, hv20, hs20, h9, h10, d1', hlt4]
                          refine TF.exit ?_
                          simp (maxSteps := 2000000) only [EVS, EVL, Nat.reduceEqDiff, Nat.reduceAdd, reduceIte, XE.then, XE.out, c1, hr8, hc20, h2, h3, c1, hlt, h8, hlt2, hv20, hs20, h9, h10, d1', hlt4]
                          refine TF.reg (call := oracle []) (by show 123 ≤ 1000000; decide) (by kernel_rfl) (oracle_ok _ (by simp)) ?_
                          simp (maxSteps := 2000000) only [EVS, EVL, Nat.reduceEqDiff, Nat.reduceAdd, reduceIte, XE.then, XE.out, c1, hr8, hc20, h2, h3, c1, hlt, h8, hlt2, hv20, hs20, h9, h10, d1', hlt4, wr1 (Nat.lt_trans hlt2 hr)]
                          refine ⟨⟨i + 1, by omega, (by simp (maxSteps := 2000000) only [EVS, EVL, Nat.reduceEqDiff, Nat.reduceAdd, reduceIte, XE.then, XE.out, c1, hr8, hc20, h2, h3, c1, hlt, h8, hlt2, hv20, hs20, h9, h10, d1', hlt4, wr1 (Nat.lt_trans hlt2 hr)]), (by simp (maxSteps := 2000000) only [EVS, EVL, Nat.reduceEqDiff, Nat.reduceAdd, reduceIte, XE.then, XE.out, c1, hr8, hc20, h2, h3, c1, hlt, h8, hlt2, hv20, hs20, h9, h10, d1', hlt4, wr1 (Nat.lt_trans hlt2 hr)]), (by simp (maxSteps := 2000000) only [EVS, EVL, Nat.reduceEqDiff, Nat.reduceAdd, reduceIte, XE.then, XE.out, c1, hr8, hc20, h2, h3, c1, hlt, h8, hlt2, hv20, hs20, h9, h10, d1', hlt4, wr1 (Nat.lt_trans hlt2 hr)]), all_step hall hx1 ⟨by omega, by omega, hw17 h17, all_all hs4 hlt4⟩, hlow8, g7.trans g8⟩, ?_⟩
                          simp only [EVS, h8, wr1 (Nat.lt_trans hlt2 hr), Nat.reduceEqDiff, if_true, if_false, reduceIte]; omega
                    · have hc_h17 := h17
                      refine TF.cond (t := true) rfl (by simp only [EVS]; simp [h17]) ?_
                      simp (maxSteps := 2000000) only [EVS, EVL, Nat.reduceEqDiff, Nat.reduceAdd, reduceIte, XE.then, XE.out, c1, hr8, hc20, h2, h3, c1, hlt, h8, hlt2, hv20, hs20]
                      refine TF.seq ?_
                      refine TF.reg (call := oracle []) (by show 123 ≤ 1000000; decide) (by kernel_rfl) (oracle_ok _ (by simp)) ?_
                      simp (maxSteps := 2000000) only [EVS, EVL, Nat.reduceEqDiff, Nat.reduceAdd, reduceIte, XE.then, XE.out, c1, hr8, hc20, h2, h3, c1, hlt, h8, hlt2, hv20, hs20]
                      refine TF.ret ?_
                      try simp (maxSteps := 2000000) only [EVS, EVL, Nat.reduceEqDiff, Nat.reduceAdd, reduceIte, XE.then, XE.out, c1, hr8, hc20, h2, h3, c1, hlt, h8, hlt2, hv20, hs20]
                      exact ⟨g1.trans g7, false, rfl, fun h => by cases h⟩
                  · have hc_h16 := h16
                    rw [Bool.not_eq_true] at h16
                    subst h16
                    refine TF.reg (call := oracle [(16, ⟨[.slice va' x.vals.length vc', .int .i64 300]⟩, w4, .bool false, w5)]) (by show 123 ≤ 1000000; decide) (by kernel_rfl) (oracle_ok _ (by simpa using k16)) ?_
                    simp (maxSteps := 2000000) only [EVS, EVL, Nat.reduceEqDiff, Nat.reduceAdd, reduceIte, XE.then, XE.out, c1, hr8, hc20, h2, h3, c1, hlt, h8, hlt2, hv20, hs20, res_not, isBl_bool, notV_bool, d0, d1, Bool.not_true, Bool.not_false]
                    refine TF.cond (t := true) rfl (by simp (maxSteps := 2000000) only [EVS, EVL, Nat.reduceEqDiff, Nat.reduceAdd, reduceIte, XE.then, XE.out, c1, hr8, hc20, h2, h3, c1, hlt, h8, hlt2, hv20, hs20]) ?_
                    simp (maxSteps := 2000000) only [EVS, EVL, Nat.reduceEqDiff, Nat.reduceAdd, reduceIte, XE.then, XE.out, c1, hr8, hc20, h2, h3, c1, hlt, h8, hlt2, hv20, hs20]
                    refine TF.seq ?_
                    refine TF.reg (call := oracle []) (by show 123 ≤ 1000000; decide) (by kernel_rfl) (oracle_ok _ (by simp)) ?_
                    simp (maxSteps := 2000000) only [EVS, EVL, Nat.reduceEqDiff, Nat.reduceAdd, reduceIte, XE.then, XE.out, c1, hr8, hc20, h2, h3, c1, hlt, h8, hlt2, hv20, hs20]
                    refine TF.ret ?_
                    try simp (maxSteps := 2000000) only [EVS, EVL, Nat.reduceEqDiff, Nat.reduceAdd, reduceIte, XE.then, XE.out, c1, hr8, hc20, h2, h3, c1, hlt, h8, hlt2, hv20, hs20]
                    exact ⟨g1.trans (g4.trans g5), false, rfl, fun h => by cases h⟩
            · have hc_hlt2 := hlt2
              refine TF.cond (t := false) rfl (by simp (maxSteps := 2000000) only [EVS, EVL, Nat.reduceEqDiff, Nat.reduceAdd, reduceIte, XE.then, XE.out, c1, hr8, hc20, h2, h3, c1, hlt, h8, hlt2]) ?_
              simp (maxSteps := 2000000) only [EVS, EVL, Nat.reduceEqDiff, Nat.reduceAdd, reduceIte, XE.then, XE.out, c1, hr8, hc20, h2, h3, c1, hlt, h8, hlt2]
              refine TF.exit ?_
              simp (maxSteps := 2000000) only [EVS, EVL, Nat.reduceEqDiff, Nat.reduceAdd, reduceIte, XE.then, XE.out, c1, hr8, hc20, h2, h3, c1, hlt, h8, hlt2]
              refine TF.seq ?_
              refine TF.reg (call := oracle []) (by show 123 ≤ 1000000; decide) (by kernel_rfl) (oracle_ok _ (by simp)) ?_
              simp (maxSteps := 2000000) only [EVS, EVL, Nat.reduceEqDiff, Nat.reduceAdd, reduceIte, XE.then, XE.out, c1, hr8, hc20, h2, h3, c1, hlt, h8, hlt2]
              refine TF.ret ?_
              try simp (maxSteps := 2000000) only [EVS, EVL, Nat.reduceEqDiff, Nat.reduceAdd, reduceIte, XE.then, XE.out, c1, hr8, hc20, h2, h3, c1, hlt, h8, hlt2]
              exact ⟨g1.trans g, true, rfl, fun _ => ⟨by omega, all_all hall hlt2⟩⟩
end

end Go.Proofs.YtkjbbbjebidniaaGreatDoor
