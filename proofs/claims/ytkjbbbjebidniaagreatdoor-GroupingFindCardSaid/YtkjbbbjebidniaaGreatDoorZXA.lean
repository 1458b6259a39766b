/- Find: the weight of an annotation; Few. -/
import Derived.Test.YtkjbbbjebidniaaGreatDoorZX9
namespace Go.Proofs.YtkjbbbjebidniaaGreatDoor
open Go Go.RowKit
set_option linter.unusedSimpArgs false
set_option linter.unusedVariables false
set_option maxRecDepth 100000
set_option maxHeartbeats 2000000

theorem Gr.cell' {w w' : AW} (g : Gr w w') {b o : Nat} {u : Value} (hb : b < w.size) (h : w.cell ⟨b, o, none⟩ = some u) : w'.cell ⟨b, o, none⟩ = some u := by rw [g.cell hb]; exact h
theorem wrA {a b : Nat} (h : a + b < 4611686018427387904) : IntKind.i64.wrap ((a : Int) + (b : Int)) = ((a + b : Nat) : Int) := by rw [wr (by omega) (by omega)]; omega
theorem wrS {a b : Nat} (h : b ≤ a) (ha : a < 4611686018427387904) : IntKind.i64.wrap ((a : Int) - (b : Int)) = ((a - b : Nat) : Int) := by rw [wr (by omega) (by omega)]; omega
theorem wrS1 {a : Nat} (h : 1 ≤ a) (ha : a < 4611686018427387904) : IntKind.i64.wrap ((a : Int) - 1) = ((a - 1 : Nat) : Int) := by rw [wr (by omega) (by omega)]; omega

/-- A new box, and what it holds. -/
theorem new_box {t n : Nat} (ha : alOk Tryz.prog t n = true) (hs : stOk Tryz.prog t n = true) (w : AW) (hlow : w.low ≤ w.size) (l : List Value) (hl : l.length = n) (h1 : l.all oneC = true) :
    ∃ w1 w2, allocW Tryz.prog t w = some (.pointer (some ⟨w.size, 0, none⟩), w1) ∧ storeW Tryz.prog t (.pointer (some ⟨w.size, 0, none⟩)) (.agg ⟨l⟩) w1 = some (undef, w2) ∧ Gr w w2 ∧ w2.size = w.size + 1 ∧ w2.heap.get w.size = some (.row l t 0) := by
  obtain ⟨w1, z, b1, g1, z1, r1, hz⟩ := allocW_ok ha w
  obtain ⟨w2, s1, s2, s3, s4, _⟩ := store_box hs (l := l) hl h1 hz r1 g1 hlow (Nat.le_refl _) (by omega)
  exact ⟨w1, w2, b1, s1, s2, by omega, s4⟩

def sm {β : Type} (f : β → Nat) : List β → Nat
  | [] => 0
  | a :: l => f a + sm f l
theorem sm_append {β : Type} (f : β → Nat) : ∀ l m : List β, sm f (l ++ m) = sm f l + sm f m
  | [], m => by simp [sm]
  | a :: l, m => by simp [sm, sm_append f l m]; omega
theorem sm_step {β : Type} (f : β → Nat) {l : List β} {i : Nat} {x : β} (h : l[i]? = some x) : sm f (l.take (i + 1)) = sm f (l.take i) + f x := by
  rw [List.take_add_one, h, sm_append]; simp [sm]
theorem sm_all {β : Type} (f : β → Nat) {l : List β} {i : Nat} (h : ¬ i < l.length) : sm f (l.take i) = sm f l := by rw [List.take_of_length_le (by omega)]
theorem sm_mem {β : Type} (f : β → Nat) : ∀ {l : List β} {x : β}, x ∈ l → f x ≤ sm f l
  | a :: l, x, h => by
    rcases List.mem_cons.1 h with rfl | h
    · simp [sm]
    · have := sm_mem f h; simp [sm]; omega

section
variable {α : Type}
def wF (wt : α → Nat) (x : Fac α) : Nat := (x.items.length + x.args.length) + sm wt x.args + sm (fun p : Val3 × α => wt p.2) x.items
def wT (wt : α → Nat) (t : Term α) : Nat := (1 + t.facs.length) + sm (wF wt) t.facs
def wD (wt : α → Nat) (d : List (Term α)) : Nat := sm (wT wt) d
def bgF (big : α → Prop) (x : Fac α) : Prop := x.args.length ≤ 140737488355328 ∧ x.items.length ≤ 140737488355328 ∧ x.bound.text.size ≤ 140737488355328 ∧ (∀ a ∈ x.args, big a) ∧ ∀ p ∈ x.items, big p.2 ∧ p.1.text.size ≤ 140737488355328
def bgT (big : α → Prop) (t : Term α) : Prop := t.facs.length ≤ 140737488355328 ∧ ∀ f ∈ t.facs, bgF big f
def bgD (big : α → Prop) (d : List (Term α)) : Prop := d.length ≤ 140737488355328 ∧ ∀ t ∈ d, bgT big t
/-- What weight answers. -/
def WtOk (big : α → Prop) (enc : α → Dt) (wt : α → Nat) : Prop := ∀ a, big a → ∀ (L k : Nat), L ≤ 1000 → k ≤ 12 → ∀ {Ψ : Psi} {w : AW} {u : Value}, Wt Ψ w → Den Ψ u (enc a) → CallP 43 [u, .int .i64 (L : Int), .int .i64 (k : Int)] w (fun r w' => Gr w w' ∧ ∃ m : Nat, r = .int .i64 (m : Int) ∧ m ≤ (k + 1) * 1125899906842624 ∧ (m ≤ L → wt a ≤ m))
variable {enc : α → Dt} {big : α → Prop} {wt : α → Nat}

theorem weight_ok (H : WtOk big enc wt) : WtOk (bgD big) (encAnn enc) (wD wt) := by
  intro d hd L k hL hk Ψ w u W hu
  obtain ⟨ua, uc, rfl⟩ := hu.len
  obtain ⟨hd1, hd2⟩ := hd
  refine CallP.of (t := 6) (args := [.slice ua d.length uc, .int .i64 (L : Int), .int .i64 (k : Int)]) Tryz.func43 rfl rfl (by simp) (by show _ ≤ 136; simp) ?_
  have a0 : argsE [.slice ua d.length uc, .int .i64 (L : Int), .int .i64 (k : Int)] 0 = .slice ua d.length uc := rfl
  have a1 : argsE [.slice ua d.length uc, .int .i64 (L : Int), .int .i64 (k : Int)] 1 = .int .i64 (L : Int) := rfl
  have a2 : argsE [.slice ua d.length uc, .int .i64 (L : Int), .int .i64 (k : Int)] 2 = .int .i64 (k : Int) := rfl
  refine TF.seq ?_
  refine TF.reg (call := oracle []) (by show 136 ≤ 1000000; decide) (by kernel_rfl) (oracle_ok _ (by simp)) ?_
  simp (maxSteps := 2000000) only [EVS, EVL, Nat.reduceEqDiff, Nat.reduceAdd, reduceIte, XE.then, XE.out, a0, a1, a2]
  refine TF.seq ?_
  refine TF.reg (call := oracle []) (by show 136 ≤ 1000000; decide) (by kernel_rfl) (oracle_ok _ (by simp)) ?_
  simp (maxSteps := 2000000) only [EVS, EVL, Nat.reduceEqDiff, Nat.reduceAdd, reduceIte, XE.then, XE.out, a0, a1, a2]
  refine TF.seq ?_
  refine TF.seq ?_
  refine TF.reg (call := oracle []) (by show 136 ≤ 1000000; decide) (by kernel_rfl) (oracle_ok _ (by simp)) ?_
  simp (maxSteps := 2000000) only [EVS, EVL, Nat.reduceEqDiff, Nat.reduceAdd, reduceIte, XE.then, XE.out, a0, a1, a2]
  by_cases h0 : k = 0
  · have hc_h0 := h0
    refine TF.cond (t := true) rfl (by simp only [EVS]; simp [h0]) ?_
    simp (maxSteps := 2000000) only [EVS, EVL, Nat.reduceEqDiff, Nat.reduceAdd, reduceIte, XE.then, XE.out, a0, a1, a2]
    refine TF.seq ?_
    refine TF.reg (call := oracle []) (by show 136 ≤ 1000000; decide) (by kernel_rfl) (oracle_ok _ (by simp)) ?_
    simp (maxSteps := 2000000) only [EVS, EVL, Nat.reduceEqDiff, Nat.reduceAdd, reduceIte, XE.then, XE.out, a0, a1, a2, wr1 (show L < 4611686018427387904 by omega)]
    refine TF.ret ?_
    try simp (maxSteps := 2000000) only [EVS, EVL, Nat.reduceEqDiff, Nat.reduceAdd, reduceIte, XE.then, XE.out, a0, a1, a2]
    exact ⟨Gr.refl _, L + 1, rfl, by omega, fun h => by omega⟩
  · have hc_h0 := h0
    refine TF.cond (t := false) rfl (by simp only [EVS]; simp [h0]) ?_
    simp (maxSteps := 2000000) only [EVS, EVL, Nat.reduceEqDiff, Nat.reduceAdd, reduceIte, XE.then, XE.out, a0, a1, a2]
    refine TF.skip ?_
    simp (maxSteps := 2000000) only [EVS, EVL, Nat.reduceEqDiff, Nat.reduceAdd, reduceIte, XE.then, XE.out, a0, a1, a2]
    refine TF.seq ?_
    refine TF.seq ?_
    refine TF.reg (call := oracle []) (by show 136 ≤ 1000000; decide) (by kernel_rfl) (oracle_ok _ (by simp)) ?_
    simp (maxSteps := 2000000) only [EVS, EVL, Nat.reduceEqDiff, Nat.reduceAdd, reduceIte, XE.then, XE.out, a0, a1, a2]
    refine TF.block ?_
    generalize hW0 : w = W0 at *
    refine TF.loopH (fun e w => ∃ i m : Nat, i ≤ d.length ∧ e 0 = .slice ua d.length uc ∧ e 1 = .int .i64 (L : Int) ∧ e 2 = .int .i64 (k : Int) ∧ e 7 = .int .i64 (m : Int) ∧ e 8 = .int .i64 (i : Int) ∧ m ≤ (k + 1) * 1125899906842624 ∧ (m ≤ L → sm (wT wt) (d.take i) ≤ m) ∧ w.low ≤ w.size ∧ Gr W0 w) (fun e w => d.length - natOf (e 8)) ?_ ?_
    · exact ⟨0, 0, Nat.zero_le _, a0, a1, a2, rfl, rfl, Nat.zero_le _, fun _ => Nat.zero_le _, W.low, Gr.refl _⟩
    · rintro e w1 ⟨i, m, hi1, h0, h1, h2, h7, h8, hmb, hms, hlow, g⟩
      refine TF.seq ?_
      refine TF.seq ?_
      by_cases hlt : i < d.length
      · have hc_hlt := hlt
        refine TF.reg (call := oracle []) (by show 136 ≤ 1000000; decide) (by kernel_rfl) (oracle_ok _ (by simp)) ?_
        simp (maxSteps := 2000000) only [EVS, EVL, Nat.reduceEqDiff, Nat.reduceAdd, reduceIte, XE.then, XE.out, h0, h1, h2, h7, h8, hlt]
        by_cases hm : m ≤ L
        · have hc_hm := hm
          refine TF.cond (t := true) rfl (by simp (maxSteps := 2000000) only [EVS, EVL, Nat.reduceEqDiff, Nat.reduceAdd, reduceIte, XE.then, XE.out, h0, h1, h2, h7, h8, hlt, hm]) ?_
          simp (maxSteps := 2000000) only [EVS, EVL, Nat.reduceEqDiff, Nat.reduceAdd, reduceIte, XE.then, XE.out, h0, h1, h2, h7, h8, hlt, hm]
          refine TF.skip ?_
          simp (maxSteps := 2000000) only [EVS, EVL, Nat.reduceEqDiff, Nat.reduceAdd, reduceIte, XE.then, XE.out, h0, h1, h2, h7, h8, hlt, hm]
          refine TF.seq ?_
          refine TF.block ?_
          refine TF.seq ?_
          have hx1 : d[i]? = some d[i] := List.getElem?_eq_getElem hlt
          have hm1 := hd2 _ (List.getElem_mem hlt)
          generalize d[i] = x at *
          obtain ⟨ub, uo, uc', ux, e1, _, hub, hcx, hdx, _⟩ := W.rdT hu hx1
          cases e1
          obtain ⟨fa, fc, rfl⟩ := hdx.len
          obtain ⟨hm1, hm2⟩ := hm1
          have hcx := cell_of hcx 1 rfl
          have cx := g.cell' hub hcx
          have q1 := wr1 (show m < 4611686018427387904 by omega)
          have q2 := wrA (show (m + 1) + x.facs.length < 4611686018427387904 by omega)
          refine TF.reg (call := oracle []) (by show 136 ≤ 1000000; decide) (by kernel_rfl) (oracle_ok _ (by simp)) ?_
          simp (maxSteps := 2000000) only [EVS, EVL, Nat.reduceEqDiff, Nat.reduceAdd, reduceIte, XE.then, XE.out, h0, h1, h2, h7, h8, hlt, hm, cx, q1, q2]
          refine TF.seq ?_
          refine TF.reg (call := oracle []) (by show 136 ≤ 1000000; decide) (by kernel_rfl) (oracle_ok _ (by simp)) ?_
          simp (maxSteps := 2000000) only [EVS, EVL, Nat.reduceEqDiff, Nat.reduceAdd, reduceIte, XE.then, XE.out, h0, h1, h2, h7, h8, hlt, hm]
          refine TF.block ?_
          refine TF.loopH (fun e w => ∃ j m : Nat, j ≤ x.facs.length ∧ e 0 = .slice (some ⟨ub, uo, none⟩) d.length uc ∧ e 1 = .int .i64 (L : Int) ∧ e 2 = .int .i64 (k : Int) ∧ e 7 = .int .i64 (m : Int) ∧ e 8 = .int .i64 (i : Int) ∧ e 9 = .int .i64 (j : Int) ∧ m ≤ (k + 1) * 1125899906842624 ∧ (m ≤ L → sm (wT wt) (d.take i) + (1 + x.facs.length) + sm (wF wt) (x.facs.take j) ≤ m) ∧ w.low ≤ w.size ∧ Gr W0 w) (fun e w => x.facs.length - natOf (e 9)) ?_ ?_
          · refine ⟨0, m + 1 + x.facs.length, Nat.zero_le _, (by simp (maxSteps := 2000000) only [EVS, EVL, Nat.reduceEqDiff, Nat.reduceAdd, reduceIte, XE.then, XE.out, h0, h1, h2, h7, h8, hlt, hm]), (by simp (maxSteps := 2000000) only [EVS, EVL, Nat.reduceEqDiff, Nat.reduceAdd, reduceIte, XE.then, XE.out, h0, h1, h2, h7, h8, hlt, hm]), (by simp (maxSteps := 2000000) only [EVS, EVL, Nat.reduceEqDiff, Nat.reduceAdd, reduceIte, XE.then, XE.out, h0, h1, h2, h7, h8, hlt, hm]), rfl, (by simp (maxSteps := 2000000) only [EVS, EVL, Nat.reduceEqDiff, Nat.reduceAdd, reduceIte, XE.then, XE.out, h0, h1, h2, h7, h8, hlt, hm]), rfl, by omega, fun _ => ?_, hlow, g⟩
            have := hms hm
            simp only [List.take_zero, sm]; omega
          · rintro e w2 ⟨j, m2, hj1, h0, h1, h2, h7, h8, h9, hmb2, hms2, hlow2, g2⟩
            replace cx := g2.cell' hub hcx
            refine TF.seq ?_
            refine TF.seq ?_
            by_cases hlt2 : j < x.facs.length
            · have hc_hlt2 := hlt2
              refine TF.reg (call := oracle []) (by show 136 ≤ 1000000; decide) (by kernel_rfl) (oracle_ok _ (by simp)) ?_
              simp (maxSteps := 2000000) only [EVS, EVL, Nat.reduceEqDiff, Nat.reduceAdd, reduceIte, XE.then, XE.out, h0, h1, h2, h7, h8, hlt, hm, cx, h9, hlt2]
              by_cases hm2' : m2 ≤ L
              · have hc_hm2' := hm2'
                refine TF.cond (t := true) rfl (by simp (maxSteps := 2000000) only [EVS, EVL, Nat.reduceEqDiff, Nat.reduceAdd, reduceIte, XE.then, XE.out, h0, h1, h2, h7, h8, hlt, hm, cx, h9, hlt2, hm2']) ?_
                simp (maxSteps := 2000000) only [EVS, EVL, Nat.reduceEqDiff, Nat.reduceAdd, reduceIte, XE.then, XE.out, h0, h1, h2, h7, h8, hlt, hm, cx, h9, hlt2, hm2']
                refine TF.skip ?_
                simp (maxSteps := 2000000) only [EVS, EVL, Nat.reduceEqDiff, Nat.reduceAdd, reduceIte, XE.then, XE.out, h0, h1, h2, h7, h8, hlt, hm, cx, h9, hlt2, hm2']
                refine TF.seq ?_
                refine TF.block ?_
                refine TF.seq ?_
                have hy1 : x.facs[j]? = some x.facs[j] := List.getElem?_eq_getElem hlt2
                have hn1 := hm2 _ (List.getElem_mem hlt2)
                generalize x.facs[j] = y at *
                obtain ⟨fb, fo, fc', va, vi, e2, _, hfb, hcf, hda, hdi, _⟩ := W.rdF hdx hy1
                cases e2
                obtain ⟨hn1, hn2, hn3, hn4, hn5⟩ := hn1
                have cf := g2.cells' hfb (cells_of0 hcf 10 (by simp))
                simp only [List.take_succ_cons, List.take_zero] at cf
                obtain ⟨w3, w5, b3, b5, g5, z5, r5⟩ := new_box al_113 st_113 w2 hlow2 (atomL y va vi) rfl (by have q5 := hda.one; have q6 := hdi.one; simp [oneC, q5, q6]; exact ⟨q5, q6⟩)
                replace g5 := g2.trans g5
                have hlow5 : w5.low ≤ w5.size := g5.lowle W.low
                obtain ⟨aa, ac, rfl⟩ := hda.len
                obtain ⟨ia, ic, rfl⟩ := hdi.len
                have c3 : w5.cell ⟨w2.size, 3, none⟩ = some (.slice aa y.args.length ac) := by rw [cell_at r5]; rfl
                have c5 : w5.cell ⟨w2.size, 5, none⟩ = some (.slice ia y.items.length ic) := by rw [cell_at r5]; rfl
                have c9 : w5.cell ⟨w2.size, 9, none⟩ = some (.string y.bound.text) := by rw [cell_at r5]; rfl
                refine TF.reg (call := oracle []) (by show 136 ≤ 1000000; decide) (by kernel_rfl) (oracle_ok _ (by simp)) ?_
                simp (maxSteps := 2000000) only [EVS, EVL, Nat.reduceEqDiff, Nat.reduceAdd, reduceIte, XE.then, XE.out, h0, h1, h2, h7, h8, hlt, hm, cx, h9, hlt2, hm2', cf, b3, b5]
                refine TF.seq ?_
                have q1 := wrA (show m2 + y.items.length < 4611686018427387904 by omega)
                have q2 := wrA (show (m2 + y.items.length) + y.args.length < 4611686018427387904 by omega)
                have q3 := wrA (show (m2 + y.items.length + y.args.length) + y.bound.text.size < 4611686018427387904 by omega)
                refine TF.reg (call := oracle []) (by show 136 ≤ 1000000; decide) (by kernel_rfl) (oracle_ok _ (by simp)) ?_
                simp (maxSteps := 2000000) only [EVS, EVL, Nat.reduceEqDiff, Nat.reduceAdd, reduceIte, XE.then, XE.out, h0, h1, h2, h7, h8, hlt, hm, cx, h9, hlt2, hm2', c3, c5, c9, q1, q2, q3]
                refine TF.seq ?_
                refine TF.seq ?_
                refine TF.reg (call := oracle []) (by show 136 ≤ 1000000; decide) (by kernel_rfl) (oracle_ok _ (by simp)) ?_
                simp (maxSteps := 2000000) only [EVS, EVL, Nat.reduceEqDiff, Nat.reduceAdd, reduceIte, XE.then, XE.out, h0, h1, h2, h7, h8, hlt, hm, cx, h9, hlt2, hm2']
                refine TF.block ?_
                generalize hS : sm (wT wt) (d.take i) + (1 + x.facs.length) + sm (wF wt) (x.facs.take j) = S at *
                refine TF.loopH (fun e w => ∃ q m : Nat, q ≤ y.args.length ∧ e 0 = .slice (some ⟨ub, uo, none⟩) d.length uc ∧ e 1 = .int .i64 (L : Int) ∧ e 2 = .int .i64 (k : Int) ∧ e 7 = .int .i64 (m : Int) ∧ e 8 = .int .i64 (i : Int) ∧ e 9 = .int .i64 (j : Int) ∧ e 10 = .pointer (some ⟨w2.size, 0, none⟩) ∧ e 11 = .int .i64 (q : Int) ∧ m ≤ (k + 1) * 1125899906842624 ∧ (m ≤ L → S + (y.items.length + y.args.length) + sm wt (y.args.take q) ≤ m) ∧ w.low ≤ w.size ∧ Gr w5 w) (fun e w => y.args.length - natOf (e 11)) ?_ ?_
                · refine ⟨0, m2 + y.items.length + y.args.length + y.bound.text.size, Nat.zero_le _, (by simp (maxSteps := 2000000) only [EVS, EVL, Nat.reduceEqDiff, Nat.reduceAdd, reduceIte, XE.then, XE.out, h0, h1, h2, h7, h8, hlt, hm, cx, h9, hlt2, hm2']), (by simp (maxSteps := 2000000) only [EVS, EVL, Nat.reduceEqDiff, Nat.reduceAdd, reduceIte, XE.then, XE.out, h0, h1, h2, h7, h8, hlt, hm, cx, h9, hlt2, hm2']), (by simp (maxSteps := 2000000) only [EVS, EVL, Nat.reduceEqDiff, Nat.reduceAdd, reduceIte, XE.then, XE.out, h0, h1, h2, h7, h8, hlt, hm, cx, h9, hlt2, hm2']), rfl, (by simp (maxSteps := 2000000) only [EVS, EVL, Nat.reduceEqDiff, Nat.reduceAdd, reduceIte, XE.then, XE.out, h0, h1, h2, h7, h8, hlt, hm, cx, h9, hlt2, hm2']), (by simp (maxSteps := 2000000) only [EVS, EVL, Nat.reduceEqDiff, Nat.reduceAdd, reduceIte, XE.then, XE.out, h0, h1, h2, h7, h8, hlt, hm, cx, h9, hlt2, hm2']), (by simp (maxSteps := 2000000) only [EVS, EVL, Nat.reduceEqDiff, Nat.reduceAdd, reduceIte, XE.then, XE.out, h0, h1, h2, h7, h8, hlt, hm, cx, h9, hlt2, hm2']), rfl, by omega, fun _ => ?_, hlow5, Gr.refl _⟩
                  have := hms2 hm2'
                  simp only [List.take_zero, sm]; omega
                · rintro e w4 ⟨q, m4, hq1, h0, h1, h2, h7, h8, h9, h10, h11, hmb4, hms4, hlow4, g4⟩
                  have d3 := g4.cell' (show w2.size < w5.size by omega) c3
                  have d5 := g4.cell' (show w2.size < w5.size by omega) c5
                  refine TF.seq ?_
                  refine TF.seq ?_
                  by_cases hlt4 : q < y.args.length
                  · have hc_hlt4 := hlt4
                    refine TF.reg (call := oracle []) (by show 136 ≤ 1000000; decide) (by kernel_rfl) (oracle_ok _ (by simp)) ?_
                    simp (maxSteps := 2000000) only [EVS, EVL, Nat.reduceEqDiff, Nat.reduceAdd, reduceIte, XE.then, XE.out, h0, h1, h2, h7, h8, hlt, hm, h9, hlt2, hm2', h9, h10, h11, d3, d5, hlt4]
                    by_cases hm4 : m4 ≤ L
                    · have hc_hm4 := hm4
                      refine TF.cond (t := true) rfl (by simp (maxSteps := 2000000) only [EVS, EVL, Nat.reduceEqDiff, Nat.reduceAdd, reduceIte, XE.then, XE.out, h0, h1, h2, h7, h8, hlt, hm, h9, hlt2, hm2', h9, h10, h11, d3, d5, hlt4, hm4]) ?_
                      simp (maxSteps := 2000000) only [EVS, EVL, Nat.reduceEqDiff, Nat.reduceAdd, reduceIte, XE.then, XE.out, h0, h1, h2, h7, h8, hlt, hm, h9, hlt2, hm2', h9, h10, h11, d3, d5, hlt4, hm4]
                      refine TF.skip ?_
                      simp (maxSteps := 2000000) only [EVS, EVL, Nat.reduceEqDiff, Nat.reduceAdd, reduceIte, XE.then, XE.out, h0, h1, h2, h7, h8, hlt, hm, h9, hlt2, hm2', h9, h10, h11, d3, d5, hlt4, hm4]
                      refine TF.seq ?_
                      refine TF.block ?_
                      have hz1 : y.args[q]? = some y.args[q] := List.getElem?_eq_getElem hlt4
                      have ho1 := hn4 _ (List.getElem_mem hlt4)
                      generalize y.args[q] = z at *
                      obtain ⟨ab, ao, ac', vz, e3, _, hab, hcz, hdz, _⟩ := W.rd1 hda hz1
                      cases e3
                      have cz := (g5.trans g4).cell' hab (cell_of0 hcz rfl)
                      have hk1 : 1 ≤ k := by omega
                      obtain ⟨rv, w7, k7, g7, m7, rfl, hmb7, hms7⟩ := H z ho1 (L - m4) (k - 1) (by omega) (by omega) (W.gr (g5.trans g4)) hdz
                      have hlow7 := g7.lowle hlow4
                      have p1 := wrS hm4 (show L < 4611686018427387904 by omega)
                      have p2 := wrS1 hk1 (show k < 4611686018427387904 by omega)
                      have p3 := wrA (show m4 + m7 < 4611686018427387904 by have := Nat.sub_add_cancel hk1; rw [this] at hmb7; have : k * 1125899906842624 ≤ 12 * 1125899906842624 := Nat.mul_le_mul_right _ hk; omega)
                      refine TF.reg (call := oracle [(43, ⟨[vz, .int .i64 ((L - m4 : Nat) : Int), .int .i64 ((k - 1 : Nat) : Int)]⟩, w4, .int .i64 (m7 : Int), w7)]) (by show 136 ≤ 1000000; decide) (by kernel_rfl) (oracle_ok _ (by simpa using k7)) ?_
                      simp (maxSteps := 2000000) only [EVS, EVL, Nat.reduceEqDiff, Nat.reduceAdd, reduceIte, XE.then, XE.out, h0, h1, h2, h7, h8, hlt, hm, h9, hlt2, hm2', h9, h10, h11, d3, d5, hlt4, hm4, cz, p1, p2, p3]
                      refine TF.reg (call := oracle []) (by show 136 ≤ 1000000; decide) (by kernel_rfl) (oracle_ok _ (by simp)) ?_
                      simp (maxSteps := 2000000) only [EVS, EVL, Nat.reduceEqDiff, Nat.reduceAdd, reduceIte, XE.then, XE.out, h0, h1, h2, h7, h8, hlt, hm, h9, hlt2, hm2', h9, h10, h11, d3, d5, hlt4, hm4, wr1 (show q < 4611686018427387904 by omega)]
                      refine ⟨⟨q + 1, m4 + m7, by omega, (by simp (maxSteps := 2000000) only [EVS, EVL, Nat.reduceEqDiff, Nat.reduceAdd, reduceIte, XE.then, XE.out, h0, h1, h2, h7, h8, hlt, hm, h9, hlt2, hm2', h9, h10, h11, d3, d5, hlt4, hm4, wr1 (show q < 4611686018427387904 by omega)]), (by simp (maxSteps := 2000000) only [EVS, EVL, Nat.reduceEqDiff, Nat.reduceAdd, reduceIte, XE.then, XE.out, h0, h1, h2, h7, h8, hlt, hm, h9, hlt2, hm2', h9, h10, h11, d3, d5, hlt4, hm4, wr1 (show q < 4611686018427387904 by omega)]), (by simp (maxSteps := 2000000) only [EVS, EVL, Nat.reduceEqDiff, Nat.reduceAdd, reduceIte, XE.then, XE.out, h0, h1, h2, h7, h8, hlt, hm, h9, hlt2, hm2', h9, h10, h11, d3, d5, hlt4, hm4, wr1 (show q < 4611686018427387904 by omega)]), (by simp (maxSteps := 2000000) only [EVS, EVL, Nat.reduceEqDiff, Nat.reduceAdd, reduceIte, XE.then, XE.out, h0, h1, h2, h7, h8, hlt, hm, h9, hlt2, hm2', h9, h10, h11, d3, d5, hlt4, hm4, wr1 (show q < 4611686018427387904 by omega)]), (by simp (maxSteps := 2000000) only [EVS, EVL, Nat.reduceEqDiff, Nat.reduceAdd, reduceIte, XE.then, XE.out, h0, h1, h2, h7, h8, hlt, hm, h9, hlt2, hm2', h9, h10, h11, d3, d5, hlt4, hm4, wr1 (show q < 4611686018427387904 by omega)]), (by simp (maxSteps := 2000000) only [EVS, EVL, Nat.reduceEqDiff, Nat.reduceAdd, reduceIte, XE.then, XE.out, h0, h1, h2, h7, h8, hlt, hm, h9, hlt2, hm2', h9, h10, h11, d3, d5, hlt4, hm4, wr1 (show q < 4611686018427387904 by omega)]), (by simp (maxSteps := 2000000) only [EVS, EVL, Nat.reduceEqDiff, Nat.reduceAdd, reduceIte, XE.then, XE.out, h0, h1, h2, h7, h8, hlt, hm, h9, hlt2, hm2', h9, h10, h11, d3, d5, hlt4, hm4, wr1 (show q < 4611686018427387904 by omega)]), (by simp (maxSteps := 2000000) only [EVS, EVL, Nat.reduceEqDiff, Nat.reduceAdd, reduceIte, XE.then, XE.out, h0, h1, h2, h7, h8, hlt, hm, h9, hlt2, hm2', h9, h10, h11, d3, d5, hlt4, hm4, wr1 (show q < 4611686018427387904 by omega)]), ?_, ?_, hlow7, g4.trans g7⟩, ?_⟩
                      · have := Nat.sub_add_cancel hk1; rw [this] at hmb7; omega
                      · rw [sm_step _ hz1]; intro h; have := hms4 hm4; have := hms7 (by omega); omega
                      · simp only [EVS, h11, wr1 (show q < 4611686018427387904 by omega), Nat.reduceEqDiff, if_true, if_false, reduceIte]; omega
                    · have hc_hm4 := hm4
                      have hfin4 : m4 ≤ L → S + (y.items.length + y.args.length) + sm wt y.args ≤ m4 := fun h => absurd h hm4
                      refine TF.cond (t := false) rfl (by simp (maxSteps := 2000000) only [EVS, EVL, Nat.reduceEqDiff, Nat.reduceAdd, reduceIte, XE.then, XE.out, h0, h1, h2, h7, h8, hlt, hm, h9, hlt2, hm2', h9, h10, h11, d3, d5, hlt4, hm4]) ?_
                      simp (maxSteps := 2000000) only [EVS, EVL, Nat.reduceEqDiff, Nat.reduceAdd, reduceIte, XE.then, XE.out, h0, h1, h2, h7, h8, hlt, hm, h9, hlt2, hm2', h9, h10, h11, d3, d5, hlt4, hm4]
                      refine TF.exit ?_
                      simp (maxSteps := 2000000) only [EVS, EVL, Nat.reduceEqDiff, Nat.reduceAdd, reduceIte, XE.then, XE.out, h0, h1, h2, h7, h8, hlt, hm, h9, hlt2, hm2', h9, h10, h11, d3, d5, hlt4, hm4]
                      refine TF.seq ?_
                      refine TF.reg (call := oracle []) (by show 136 ≤ 1000000; decide) (by kernel_rfl) (oracle_ok _ (by simp)) ?_
                      simp (maxSteps := 2000000) only [EVS, EVL, Nat.reduceEqDiff, Nat.reduceAdd, reduceIte, XE.then, XE.out, h0, h1, h2, h7, h8, hlt, hm, h9, hlt2, hm2', h9, h10, h11, d3, d5, hlt4, hm4]
                      refine TF.block ?_
                      refine TF.loopH (fun e w => ∃ q m : Nat, q ≤ y.items.length ∧ e 0 = .slice (some ⟨ub, uo, none⟩) d.length uc ∧ e 1 = .int .i64 (L : Int) ∧ e 2 = .int .i64 (k : Int) ∧ e 7 = .int .i64 (m : Int) ∧ e 8 = .int .i64 (i : Int) ∧ e 9 = .int .i64 (j : Int) ∧ e 10 = .pointer (some ⟨w2.size, 0, none⟩) ∧ e 12 = .int .i64 (q : Int) ∧ m ≤ (k + 1) * 1125899906842624 ∧ (m ≤ L → S + (y.items.length + y.args.length) + sm wt y.args + sm (fun p : Val3 × α => wt p.2) (y.items.take q) ≤ m) ∧ w.low ≤ w.size ∧ Gr w5 w) (fun e w => y.items.length - natOf (e 12)) ?_ ?_
                      · refine ⟨0, m4, Nat.zero_le _, (by simp (maxSteps := 2000000) only [EVS, EVL, Nat.reduceEqDiff, Nat.reduceAdd, reduceIte, XE.then, XE.out, h0, h1, h2, h7, h8, hlt, hm, h9, hlt2, hm2', h9, h10, h11, d3, d5, hlt4, hm4]), (by simp (maxSteps := 2000000) only [EVS, EVL, Nat.reduceEqDiff, Nat.reduceAdd, reduceIte, XE.then, XE.out, h0, h1, h2, h7, h8, hlt, hm, h9, hlt2, hm2', h9, h10, h11, d3, d5, hlt4, hm4]), (by simp (maxSteps := 2000000) only [EVS, EVL, Nat.reduceEqDiff, Nat.reduceAdd, reduceIte, XE.then, XE.out, h0, h1, h2, h7, h8, hlt, hm, h9, hlt2, hm2', h9, h10, h11, d3, d5, hlt4, hm4]), (by simp (maxSteps := 2000000) only [EVS, EVL, Nat.reduceEqDiff, Nat.reduceAdd, reduceIte, XE.then, XE.out, h0, h1, h2, h7, h8, hlt, hm, h9, hlt2, hm2', h9, h10, h11, d3, d5, hlt4, hm4]), (by simp (maxSteps := 2000000) only [EVS, EVL, Nat.reduceEqDiff, Nat.reduceAdd, reduceIte, XE.then, XE.out, h0, h1, h2, h7, h8, hlt, hm, h9, hlt2, hm2', h9, h10, h11, d3, d5, hlt4, hm4]), (by simp (maxSteps := 2000000) only [EVS, EVL, Nat.reduceEqDiff, Nat.reduceAdd, reduceIte, XE.then, XE.out, h0, h1, h2, h7, h8, hlt, hm, h9, hlt2, hm2', h9, h10, h11, d3, d5, hlt4, hm4]), (by simp (maxSteps := 2000000) only [EVS, EVL, Nat.reduceEqDiff, Nat.reduceAdd, reduceIte, XE.then, XE.out, h0, h1, h2, h7, h8, hlt, hm, h9, hlt2, hm2', h9, h10, h11, d3, d5, hlt4, hm4]), rfl, hmb4, fun h => ?_, hlow4, g4⟩
                        have := hfin4 h
                        simp only [List.take_zero, sm]; omega
                      · rintro e w6 ⟨q6, m6, hq6, h0, h1, h2, h7, h8, h9, h10, h12, hmb6, hms6, hlow6, g6⟩
                        have d5 := g6.cell' (show w2.size < w5.size by omega) c5
                        refine TF.seq ?_
                        refine TF.seq ?_
                        by_cases hlt6 : q6 < y.items.length
                        · have hc_hlt6 := hlt6
                          refine TF.reg (call := oracle []) (by show 136 ≤ 1000000; decide) (by kernel_rfl) (oracle_ok _ (by simp)) ?_
                          simp (maxSteps := 2000000) only [EVS, EVL, Nat.reduceEqDiff, Nat.reduceAdd, reduceIte, XE.then, XE.out, h0, h1, h2, h7, h8, hlt, hm, h9, hlt2, hm2', h9, h10, d5, hlt4, hm4, h12, hlt6]
                          by_cases hm6 : m6 ≤ L
                          · have hc_hm6 := hm6
                            refine TF.cond (t := true) rfl (by simp (maxSteps := 2000000) only [EVS, EVL, Nat.reduceEqDiff, Nat.reduceAdd, reduceIte, XE.then, XE.out, h0, h1, h2, h7, h8, hlt, hm, h9, hlt2, hm2', h9, h10, d5, hlt4, hm4, h12, hlt6, hm6]) ?_
                            simp (maxSteps := 2000000) only [EVS, EVL, Nat.reduceEqDiff, Nat.reduceAdd, reduceIte, XE.then, XE.out, h0, h1, h2, h7, h8, hlt, hm, h9, hlt2, hm2', h9, h10, d5, hlt4, hm4, h12, hlt6, hm6]
                            refine TF.skip ?_
                            simp (maxSteps := 2000000) only [EVS, EVL, Nat.reduceEqDiff, Nat.reduceAdd, reduceIte, XE.then, XE.out, h0, h1, h2, h7, h8, hlt, hm, h9, hlt2, hm2', h9, h10, d5, hlt4, hm4, h12, hlt6, hm6]
                            refine TF.seq ?_
                            refine TF.block ?_
                            have hz1 : y.items[q6]? = some y.items[q6] := List.getElem?_eq_getElem hlt6
                            have ho1 := hn5 _ (List.getElem_mem hlt6)
                            generalize y.items[q6] = p at *
                            obtain ⟨ib, io, ic', vz, e3, _, hib, hcz, hdz, _⟩ := W.rdI hdi hz1
                            cases e3
                            have cz2 := (g5.trans g6).cell' hib (cell_of hcz 2 rfl)
                            have cz3 := (g5.trans g6).cell' hib (cell_of hcz 3 rfl)
                            have hk1 : 1 ≤ k := by omega
                            obtain ⟨rv, w7, k7, g7, m7, rfl, hmb7, hms7⟩ := H p.2 ho1.1 (L - m6) (k - 1) (by omega) (by omega) (W.gr (g5.trans g6)).rs hdz
                            have gg := rs_gr g7 hlow6
                            have hlow7 := gg.lowle hlow6
                            have glow := g7.low
                            have rl := rs_lw w6 hlow6
                            have rl2 := rs_lw (w7.lw w6.low) hlow7
                            have p1 := wrS hm6 (show L < 4611686018427387904 by omega)
                            have p2 := wrS1 hk1 (show k < 4611686018427387904 by omega)
                            have p4 := wrA (show m6 + p.1.text.size < 4611686018427387904 by have := ho1.2; omega)
                            have p3 := wrA (show (m6 + p.1.text.size) + m7 < 4611686018427387904 by have := ho1.2; have := Nat.sub_add_cancel hk1; rw [this] at hmb7; have : k * 1125899906842624 ≤ 12 * 1125899906842624 := Nat.mul_le_mul_right _ hk; omega)
                            refine TF.regD (call := oracle [(43, ⟨[vz, .int .i64 ((L - m6 : Nat) : Int), .int .i64 ((k - 1 : Nat) : Int)]⟩, w6.rs, .int .i64 (m7 : Int), w7)]) (by show 136 ≤ 1000000; decide) (by kernel_rfl) (oracle_ok _ (by simpa using k7)) ?_
                            simp (maxSteps := 2000000) only [EVS, EVL, Nat.reduceEqDiff, Nat.reduceAdd, reduceIte, XE.then, XE.out, h0, h1, h2, h7, h8, hlt, hm, h9, hlt2, hm2', h9, h10, d5, hlt4, hm4, h12, hlt6, hm6, cz2, cz3, p1, p2, p3, p4, glow, rl, rl2]
                            refine TF.reg (call := oracle []) (by show 136 ≤ 1000000; decide) (by kernel_rfl) (oracle_ok _ (by simp)) ?_
                            simp (maxSteps := 2000000) only [EVS, EVL, Nat.reduceEqDiff, Nat.reduceAdd, reduceIte, XE.then, XE.out, h0, h1, h2, h7, h8, hlt, hm, h9, hlt2, hm2', h9, h10, d5, hlt4, hm4, h12, hlt6, hm6, wr1 (show q6 < 4611686018427387904 by omega)]
                            refine ⟨⟨q6 + 1, m6 + p.1.text.size + m7, by omega, (by simp (maxSteps := 2000000) only [EVS, EVL, Nat.reduceEqDiff, Nat.reduceAdd, reduceIte, XE.then, XE.out, h0, h1, h2, h7, h8, hlt, hm, h9, hlt2, hm2', h9, h10, d5, hlt4, hm4, h12, hlt6, hm6, wr1 (show q6 < 4611686018427387904 by omega)]), (by simp (maxSteps := 2000000) only [EVS, EVL, Nat.reduceEqDiff, Nat.reduceAdd, reduceIte, XE.then, XE.out, h0, h1, h2, h7, h8, hlt, hm, h9, hlt2, hm2', h9, h10, d5, hlt4, hm4, h12, hlt6, hm6, wr1 (show q6 < 4611686018427387904 by omega)]), (by simp (maxSteps := 2000000) only [EVS, EVL, Nat.reduceEqDiff, Nat.reduceAdd, reduceIte, XE.then, XE.out, h0, h1, h2, h7, h8, hlt, hm, h9, hlt2, hm2', h9, h10, d5, hlt4, hm4, h12, hlt6, hm6, wr1 (show q6 < 4611686018427387904 by omega)]), (by simp (maxSteps := 2000000) only [EVS, EVL, Nat.reduceEqDiff, Nat.reduceAdd, reduceIte, XE.then, XE.out, h0, h1, h2, h7, h8, hlt, hm, h9, hlt2, hm2', h9, h10, d5, hlt4, hm4, h12, hlt6, hm6, wr1 (show q6 < 4611686018427387904 by omega)]), (by simp (maxSteps := 2000000) only [EVS, EVL, Nat.reduceEqDiff, Nat.reduceAdd, reduceIte, XE.then, XE.out, h0, h1, h2, h7, h8, hlt, hm, h9, hlt2, hm2', h9, h10, d5, hlt4, hm4, h12, hlt6, hm6, wr1 (show q6 < 4611686018427387904 by omega)]), (by simp (maxSteps := 2000000) only [EVS, EVL, Nat.reduceEqDiff, Nat.reduceAdd, reduceIte, XE.then, XE.out, h0, h1, h2, h7, h8, hlt, hm, h9, hlt2, hm2', h9, h10, d5, hlt4, hm4, h12, hlt6, hm6, wr1 (show q6 < 4611686018427387904 by omega)]), (by simp (maxSteps := 2000000) only [EVS, EVL, Nat.reduceEqDiff, Nat.reduceAdd, reduceIte, XE.then, XE.out, h0, h1, h2, h7, h8, hlt, hm, h9, hlt2, hm2', h9, h10, d5, hlt4, hm4, h12, hlt6, hm6, wr1 (show q6 < 4611686018427387904 by omega)]), (by simp (maxSteps := 2000000) only [EVS, EVL, Nat.reduceEqDiff, Nat.reduceAdd, reduceIte, XE.then, XE.out, h0, h1, h2, h7, h8, hlt, hm, h9, hlt2, hm2', h9, h10, d5, hlt4, hm4, h12, hlt6, hm6, wr1 (show q6 < 4611686018427387904 by omega)]), ?_, ?_, hlow7, g6.trans gg⟩, ?_⟩
                            · have := Nat.sub_add_cancel hk1; rw [this] at hmb7; omega
                            · rw [sm_step _ hz1]; intro h; have := hms6 hm6; have := hms7 (by omega); show _ + (_ + wt p.2) ≤ _; omega
                            · simp only [EVS, h12, wr1 (show q6 < 4611686018427387904 by omega), Nat.reduceEqDiff, if_true, if_false, reduceIte]; omega
                          · have hc_hm6 := hm6
                            have hfin6 : m6 ≤ L → S + (y.items.length + y.args.length) + sm wt y.args + sm (fun p : Val3 × α => wt p.2) y.items ≤ m6 := fun h => absurd h hm6
                            refine TF.cond (t := false) rfl (by simp (maxSteps := 2000000) only [EVS, EVL, Nat.reduceEqDiff, Nat.reduceAdd, reduceIte, XE.then, XE.out, h0, h1, h2, h7, h8, hlt, hm, h9, hlt2, hm2', h9, h10, d5, hlt4, hm4, h12, hlt6, hm6]) ?_
                            simp (maxSteps := 2000000) only [EVS, EVL, Nat.reduceEqDiff, Nat.reduceAdd, reduceIte, XE.then, XE.out, h0, h1, h2, h7, h8, hlt, hm, h9, hlt2, hm2', h9, h10, d5, hlt4, hm4, h12, hlt6, hm6]
                            refine TF.exit ?_
                            simp (maxSteps := 2000000) only [EVS, EVL, Nat.reduceEqDiff, Nat.reduceAdd, reduceIte, XE.then, XE.out, h0, h1, h2, h7, h8, hlt, hm, h9, hlt2, hm2', h9, h10, d5, hlt4, hm4, h12, hlt6, hm6]
                            refine TF.reg (call := oracle []) (by show 136 ≤ 1000000; decide) (by kernel_rfl) (oracle_ok _ (by simp)) ?_
                            simp (maxSteps := 2000000) only [EVS, EVL, Nat.reduceEqDiff, Nat.reduceAdd, reduceIte, XE.then, XE.out, h0, h1, h2, h7, h8, hlt, hm, h9, hlt2, hm2', h9, h10, d5, hlt4, hm4, h12, hlt6, hm6, wr1 (show j < 4611686018427387904 by omega)]
                            refine ⟨⟨j + 1, m6, by omega, (by simp (maxSteps := 2000000) only [EVS, EVL, Nat.reduceEqDiff, Nat.reduceAdd, reduceIte, XE.then, XE.out, h0, h1, h2, h7, h8, hlt, hm, h9, hlt2, hm2', h9, h10, d5, hlt4, hm4, h12, hlt6, hm6, wr1 (show j < 4611686018427387904 by omega)]), (by simp (maxSteps := 2000000) only [EVS, EVL, Nat.reduceEqDiff, Nat.reduceAdd, reduceIte, XE.then, XE.out, h0, h1, h2, h7, h8, hlt, hm, h9, hlt2, hm2', h9, h10, d5, hlt4, hm4, h12, hlt6, hm6, wr1 (show j < 4611686018427387904 by omega)]), (by simp (maxSteps := 2000000) only [EVS, EVL, Nat.reduceEqDiff, Nat.reduceAdd, reduceIte, XE.then, XE.out, h0, h1, h2, h7, h8, hlt, hm, h9, hlt2, hm2', h9, h10, d5, hlt4, hm4, h12, hlt6, hm6, wr1 (show j < 4611686018427387904 by omega)]), (by simp (maxSteps := 2000000) only [EVS, EVL, Nat.reduceEqDiff, Nat.reduceAdd, reduceIte, XE.then, XE.out, h0, h1, h2, h7, h8, hlt, hm, h9, hlt2, hm2', h9, h10, d5, hlt4, hm4, h12, hlt6, hm6, wr1 (show j < 4611686018427387904 by omega)]), (by simp (maxSteps := 2000000) only [EVS, EVL, Nat.reduceEqDiff, Nat.reduceAdd, reduceIte, XE.then, XE.out, h0, h1, h2, h7, h8, hlt, hm, h9, hlt2, hm2', h9, h10, d5, hlt4, hm4, h12, hlt6, hm6, wr1 (show j < 4611686018427387904 by omega)]), (by simp (maxSteps := 2000000) only [EVS, EVL, Nat.reduceEqDiff, Nat.reduceAdd, reduceIte, XE.then, XE.out, h0, h1, h2, h7, h8, hlt, hm, h9, hlt2, hm2', h9, h10, d5, hlt4, hm4, h12, hlt6, hm6, wr1 (show j < 4611686018427387904 by omega)]), hmb6, ?_, hlow6, g5.trans g6⟩, ?_⟩
                            · rw [sm_step _ hy1]; intro h; have := hfin6 h; show _ + (_ + ((y.items.length + y.args.length) + sm wt y.args + sm (fun p : Val3 × α => wt p.2) y.items)) ≤ _; omega
                            · simp only [EVS, h9, wr1 (show j < 4611686018427387904 by omega), Nat.reduceEqDiff, if_true, if_false, reduceIte]; omega
                        · have hc_hlt6 := hlt6
                          refine TF.reg (call := oracle []) (by show 136 ≤ 1000000; decide) (by kernel_rfl) (oracle_ok _ (by simp)) ?_
                          simp (maxSteps := 2000000) only [EVS, EVL, Nat.reduceEqDiff, Nat.reduceAdd, reduceIte, XE.then, XE.out, h0, h1, h2, h7, h8, hlt, hm, h9, hlt2, hm2', h9, h10, d5, hlt4, hm4, h12, hlt6]
                          have hfin6 : m6 ≤ L → S + (y.items.length + y.args.length) + sm wt y.args + sm (fun p : Val3 × α => wt p.2) y.items ≤ m6 := fun h => by have := hms6 h; rw [sm_all _ hlt6] at this; exact this
                          refine TF.cond (t := false) rfl (by simp (maxSteps := 2000000) only [EVS, EVL, Nat.reduceEqDiff, Nat.reduceAdd, reduceIte, XE.then, XE.out, h0, h1, h2, h7, h8, hlt, hm, h9, hlt2, hm2', h9, h10, d5, hlt4, hm4, h12, hlt6]) ?_
                          simp (maxSteps := 2000000) only [EVS, EVL, Nat.reduceEqDiff, Nat.reduceAdd, reduceIte, XE.then, XE.out, h0, h1, h2, h7, h8, hlt, hm, h9, hlt2, hm2', h9, h10, d5, hlt4, hm4, h12, hlt6]
                          refine TF.exit ?_
                          simp (maxSteps := 2000000) only [EVS, EVL, Nat.reduceEqDiff, Nat.reduceAdd, reduceIte, XE.then, XE.out, h0, h1, h2, h7, h8, hlt, hm, h9, hlt2, hm2', h9, h10, d5, hlt4, hm4, h12, hlt6]
                          refine TF.reg (call := oracle []) (by show 136 ≤ 1000000; decide) (by kernel_rfl) (oracle_ok _ (by simp)) ?_
                          simp (maxSteps := 2000000) only [EVS, EVL, Nat.reduceEqDiff, Nat.reduceAdd, reduceIte, XE.then, XE.out, h0, h1, h2, h7, h8, hlt, hm, h9, hlt2, hm2', h9, h10, d5, hlt4, hm4, h12, hlt6, wr1 (show j < 4611686018427387904 by omega)]
                          refine ⟨⟨j + 1, m6, by omega, (by simp (maxSteps := 2000000) only [EVS, EVL, Nat.reduceEqDiff, Nat.reduceAdd, reduceIte, XE.then, XE.out, h0, h1, h2, h7, h8, hlt, hm, h9, hlt2, hm2', h9, h10, d5, hlt4, hm4, h12, hlt6, wr1 (show j < 4611686018427387904 by omega)]), (by simp (maxSteps := 2000000) only [EVS, EVL, Nat.reduceEqDiff, Nat.reduceAdd, reduceIte, XE.then, XE.out, h0, h1, h2, h7, h8, hlt, hm, h9, hlt2, hm2', h9, h10, d5, hlt4, hm4, h12, hlt6, wr1 (show j < 4611686018427387904 by omega)]), (by simp (maxSteps := 2000000) only [EVS, EVL, Nat.reduceEqDiff, Nat.reduceAdd, reduceIte, XE.then, XE.out, h0, h1, h2, h7, h8, hlt, hm, h9, hlt2, hm2', h9, h10, d5, hlt4, hm4, h12, hlt6, wr1 (show j < 4611686018427387904 by omega)]), (by simp (maxSteps := 2000000) only [EVS, EVL, Nat.reduceEqDiff, Nat.reduceAdd, reduceIte, XE.then, XE.out, h0, h1, h2, h7, h8, hlt, hm, h9, hlt2, hm2', h9, h10, d5, hlt4, hm4, h12, hlt6, wr1 (show j < 4611686018427387904 by omega)]), (by simp (maxSteps := 2000000) only [EVS, EVL, Nat.reduceEqDiff, Nat.reduceAdd, reduceIte, XE.then, XE.out, h0, h1, h2, h7, h8, hlt, hm, h9, hlt2, hm2', h9, h10, d5, hlt4, hm4, h12, hlt6, wr1 (show j < 4611686018427387904 by omega)]), (by simp (maxSteps := 2000000) only [EVS, EVL, Nat.reduceEqDiff, Nat.reduceAdd, reduceIte, XE.then, XE.out, h0, h1, h2, h7, h8, hlt, hm, h9, hlt2, hm2', h9, h10, d5, hlt4, hm4, h12, hlt6, wr1 (show j < 4611686018427387904 by omega)]), hmb6, ?_, hlow6, g5.trans g6⟩, ?_⟩
                          · rw [sm_step _ hy1]; intro h; have := hfin6 h; show _ + (_ + ((y.items.length + y.args.length) + sm wt y.args + sm (fun p : Val3 × α => wt p.2) y.items)) ≤ _; omega
                          · simp only [EVS, h9, wr1 (show j < 4611686018427387904 by omega), Nat.reduceEqDiff, if_true, if_false, reduceIte]; omega
                  · have hc_hlt4 := hlt4
                    refine TF.reg (call := oracle []) (by show 136 ≤ 1000000; decide) (by kernel_rfl) (oracle_ok _ (by simp)) ?_
                    simp (maxSteps := 2000000) only [EVS, EVL, Nat.reduceEqDiff, Nat.reduceAdd, reduceIte, XE.then, XE.out, h0, h1, h2, h7, h8, hlt, hm, h9, hlt2, hm2', h9, h10, h11, d3, d5, hlt4]
                    have hfin4 : m4 ≤ L → S + (y.items.length + y.args.length) + sm wt y.args ≤ m4 := fun h => by have := hms4 h; rw [sm_all _ hlt4] at this; exact this
                    refine TF.cond (t := false) rfl (by simp (maxSteps := 2000000) only [EVS, EVL, Nat.reduceEqDiff, Nat.reduceAdd, reduceIte, XE.then, XE.out, h0, h1, h2, h7, h8, hlt, hm, h9, hlt2, hm2', h9, h10, h11, d3, d5, hlt4]) ?_
                    simp (maxSteps := 2000000) only [EVS, EVL, Nat.reduceEqDiff, Nat.reduceAdd, reduceIte, XE.then, XE.out, h0, h1, h2, h7, h8, hlt, hm, h9, hlt2, hm2', h9, h10, h11, d3, d5, hlt4]
                    refine TF.exit ?_
                    simp (maxSteps := 2000000) only [EVS, EVL, Nat.reduceEqDiff, Nat.reduceAdd, reduceIte, XE.then, XE.out, h0, h1, h2, h7, h8, hlt, hm, h9, hlt2, hm2', h9, h10, h11, d3, d5, hlt4]
                    refine TF.seq ?_
                    refine TF.reg (call := oracle []) (by show 136 ≤ 1000000; decide) (by kernel_rfl) (oracle_ok _ (by simp)) ?_
                    simp (maxSteps := 2000000) only [EVS, EVL, Nat.reduceEqDiff, Nat.reduceAdd, reduceIte, XE.then, XE.out, h0, h1, h2, h7, h8, hlt, hm, h9, hlt2, hm2', h9, h10, h11, d3, d5, hlt4]
                    refine TF.block ?_
                    refine TF.loopH (fun e w => ∃ q m : Nat, q ≤ y.items.length ∧ e 0 = .slice (some ⟨ub, uo, none⟩) d.length uc ∧ e 1 = .int .i64 (L : Int) ∧ e 2 = .int .i64 (k : Int) ∧ e 7 = .int .i64 (m : Int) ∧ e 8 = .int .i64 (i : Int) ∧ e 9 = .int .i64 (j : Int) ∧ e 10 = .pointer (some ⟨w2.size, 0, none⟩) ∧ e 12 = .int .i64 (q : Int) ∧ m ≤ (k + 1) * 1125899906842624 ∧ (m ≤ L → S + (y.items.length + y.args.length) + sm wt y.args + sm (fun p : Val3 × α => wt p.2) (y.items.take q) ≤ m) ∧ w.low ≤ w.size ∧ Gr w5 w) (fun e w => y.items.length - natOf (e 12)) ?_ ?_
                    · refine ⟨0, m4, Nat.zero_le _, (by simp (maxSteps := 2000000) only [EVS, EVL, Nat.reduceEqDiff, Nat.reduceAdd, reduceIte, XE.then, XE.out, h0, h1, h2, h7, h8, hlt, hm, h9, hlt2, hm2', h9, h10, h11, d3, d5, hlt4]), (by simp (maxSteps := 2000000) only [EVS, EVL, Nat.reduceEqDiff, Nat.reduceAdd, reduceIte, XE.then, XE.out, h0, h1, h2, h7, h8, hlt, hm, h9, hlt2, hm2', h9, h10, h11, d3, d5, hlt4]), (by simp (maxSteps := 2000000) only [EVS, EVL, Nat.reduceEqDiff, Nat.reduceAdd, reduceIte, XE.then, XE.out, h0, h1, h2, h7, h8, hlt, hm, h9, hlt2, hm2', h9, h10, h11, d3, d5, hlt4]), (by simp (maxSteps := 2000000) only [EVS, EVL, Nat.reduceEqDiff, Nat.reduceAdd, reduceIte, XE.then, XE.out, h0, h1, h2, h7, h8, hlt, hm, h9, hlt2, hm2', h9, h10, h11, d3, d5, hlt4]), (by simp (maxSteps := 2000000) only [EVS, EVL, Nat.reduceEqDiff, Nat.reduceAdd, reduceIte, XE.then, XE.out, h0, h1, h2, h7, h8, hlt, hm, h9, hlt2, hm2', h9, h10, h11, d3, d5, hlt4]), (by simp (maxSteps := 2000000) only [EVS, EVL, Nat.reduceEqDiff, Nat.reduceAdd, reduceIte, XE.then, XE.out, h0, h1, h2, h7, h8, hlt, hm, h9, hlt2, hm2', h9, h10, h11, d3, d5, hlt4]), (by simp (maxSteps := 2000000) only [EVS, EVL, Nat.reduceEqDiff, Nat.reduceAdd, reduceIte, XE.then, XE.out, h0, h1, h2, h7, h8, hlt, hm, h9, hlt2, hm2', h9, h10, h11, d3, d5, hlt4]), rfl, hmb4, fun h => ?_, hlow4, g4⟩
                      have := hfin4 h
                      simp only [List.take_zero, sm]; omega
                    · rintro e w6 ⟨q6, m6, hq6, h0, h1, h2, h7, h8, h9, h10, h12, hmb6, hms6, hlow6, g6⟩
                      have d5 := g6.cell' (show w2.size < w5.size by omega) c5
                      refine TF.seq ?_
                      refine TF.seq ?_
                      by_cases hlt6 : q6 < y.items.length
                      · have hc_hlt6 := hlt6
                        refine TF.reg (call := oracle []) (by show 136 ≤ 1000000; decide) (by kernel_rfl) (oracle_ok _ (by simp)) ?_
                        simp (maxSteps := 2000000) only [EVS, EVL, Nat.reduceEqDiff, Nat.reduceAdd, reduceIte, XE.then, XE.out, h0, h1, h2, h7, h8, hlt, hm, h9, hlt2, hm2', h9, h10, d5, hlt4, h12, hlt6]
                        by_cases hm6 : m6 ≤ L
                        · have hc_hm6 := hm6
                          refine TF.cond (t := true) rfl (by simp (maxSteps := 2000000) only [EVS, EVL, Nat.reduceEqDiff, Nat.reduceAdd, reduceIte, XE.then, XE.out, h0, h1, h2, h7, h8, hlt, hm, h9, hlt2, hm2', h9, h10, d5, hlt4, h12, hlt6, hm6]) ?_
                          simp (maxSteps := 2000000) only [EVS, EVL, Nat.reduceEqDiff, Nat.reduceAdd, reduceIte, XE.then, XE.out, h0, h1, h2, h7, h8, hlt, hm, h9, hlt2, hm2', h9, h10, d5, hlt4, h12, hlt6, hm6]
                          refine TF.skip ?_
                          simp (maxSteps := 2000000) only [EVS, EVL, Nat.reduceEqDiff, Nat.reduceAdd, reduceIte, XE.then, XE.out, h0, h1, h2, h7, h8, hlt, hm, h9, hlt2, hm2', h9, h10, d5, hlt4, h12, hlt6, hm6]
                          refine TF.seq ?_
                          refine TF.block ?_
                          have hz1 : y.items[q6]? = some y.items[q6] := List.getElem?_eq_getElem hlt6
                          have ho1 := hn5 _ (List.getElem_mem hlt6)
                          generalize y.items[q6] = p at *
                          obtain ⟨ib, io, ic', vz, e3, _, hib, hcz, hdz, _⟩ := W.rdI hdi hz1
                          cases e3
                          have cz2 := (g5.trans g6).cell' hib (cell_of hcz 2 rfl)
                          have cz3 := (g5.trans g6).cell' hib (cell_of hcz 3 rfl)
                          have hk1 : 1 ≤ k := by omega
                          obtain ⟨rv, w7, k7, g7, m7, rfl, hmb7, hms7⟩ := H p.2 ho1.1 (L - m6) (k - 1) (by omega) (by omega) (W.gr (g5.trans g6)).rs hdz
                          have gg := rs_gr g7 hlow6
                          have hlow7 := gg.lowle hlow6
                          have glow := g7.low
                          have rl := rs_lw w6 hlow6
                          have rl2 := rs_lw (w7.lw w6.low) hlow7
                          have p1 := wrS hm6 (show L < 4611686018427387904 by omega)
                          have p2 := wrS1 hk1 (show k < 4611686018427387904 by omega)
                          have p4 := wrA (show m6 + p.1.text.size < 4611686018427387904 by have := ho1.2; omega)
                          have p3 := wrA (show (m6 + p.1.text.size) + m7 < 4611686018427387904 by have := ho1.2; have := Nat.sub_add_cancel hk1; rw [this] at hmb7; have : k * 1125899906842624 ≤ 12 * 1125899906842624 := Nat.mul_le_mul_right _ hk; omega)
                          refine TF.regD (call := oracle [(43, ⟨[vz, .int .i64 ((L - m6 : Nat) : Int), .int .i64 ((k - 1 : Nat) : Int)]⟩, w6.rs, .int .i64 (m7 : Int), w7)]) (by show 136 ≤ 1000000; decide) (by kernel_rfl) (oracle_ok _ (by simpa using k7)) ?_
                          simp (maxSteps := 2000000) only [EVS, EVL, Nat.reduceEqDiff, Nat.reduceAdd, reduceIte, XE.then, XE.out, h0, h1, h2, h7, h8, hlt, hm, h9, hlt2, hm2', h9, h10, d5, hlt4, h12, hlt6, hm6, cz2, cz3, p1, p2, p3, p4, glow, rl, rl2]
                          refine TF.reg (call := oracle []) (by show 136 ≤ 1000000; decide) (by kernel_rfl) (oracle_ok _ (by simp)) ?_
                          simp (maxSteps := 2000000) only [EVS, EVL, Nat.reduceEqDiff, Nat.reduceAdd, reduceIte, XE.then, XE.out, h0, h1, h2, h7, h8, hlt, hm, h9, hlt2, hm2', h9, h10, d5, hlt4, h12, hlt6, hm6, wr1 (show q6 < 4611686018427387904 by omega)]
                          refine ⟨⟨q6 + 1, m6 + p.1.text.size + m7, by omega, (by simp (maxSteps := 2000000) only [EVS, EVL, Nat.reduceEqDiff, Nat.reduceAdd, reduceIte, XE.then, XE.out, h0, h1, h2, h7, h8, hlt, hm, h9, hlt2, hm2', h9, h10, d5, hlt4, h12, hlt6, hm6, wr1 (show q6 < 4611686018427387904 by omega)]), (by simp (maxSteps := 2000000) only [EVS, EVL, Nat.reduceEqDiff, Nat.reduceAdd, reduceIte, XE.then, XE.out, h0, h1, h2, h7, h8, hlt, hm, h9, hlt2, hm2', h9, h10, d5, hlt4, h12, hlt6, hm6, wr1 (show q6 < 4611686018427387904 by omega)]), (by simp (maxSteps := 2000000) only [EVS, EVL, Nat.reduceEqDiff, Nat.reduceAdd, reduceIte, XE.then, XE.out, h0, h1, h2, h7, h8, hlt, hm, h9, hlt2, hm2', h9, h10, d5, hlt4, h12, hlt6, hm6, wr1 (show q6 < 4611686018427387904 by omega)]), (by simp (maxSteps := 2000000) only [EVS, EVL, Nat.reduceEqDiff, Nat.reduceAdd, reduceIte, XE.then, XE.out, h0, h1, h2, h7, h8, hlt, hm, h9, hlt2, hm2', h9, h10, d5, hlt4, h12, hlt6, hm6, wr1 (show q6 < 4611686018427387904 by omega)]), (by simp (maxSteps := 2000000) only [EVS, EVL, Nat.reduceEqDiff, Nat.reduceAdd, reduceIte, XE.then, XE.out, h0, h1, h2, h7, h8, hlt, hm, h9, hlt2, hm2', h9, h10, d5, hlt4, h12, hlt6, hm6, wr1 (show q6 < 4611686018427387904 by omega)]), (by simp (maxSteps := 2000000) only [EVS, EVL, Nat.reduceEqDiff, Nat.reduceAdd, reduceIte, XE.then, XE.out, h0, h1, h2, h7, h8, hlt, hm, h9, hlt2, hm2', h9, h10, d5, hlt4, h12, hlt6, hm6, wr1 (show q6 < 4611686018427387904 by omega)]), (by simp (maxSteps := 2000000) only [EVS, EVL, Nat.reduceEqDiff, Nat.reduceAdd, reduceIte, XE.then, XE.out, h0, h1, h2, h7, h8, hlt, hm, h9, hlt2, hm2', h9, h10, d5, hlt4, h12, hlt6, hm6, wr1 (show q6 < 4611686018427387904 by omega)]), (by simp (maxSteps := 2000000) only [EVS, EVL, Nat.reduceEqDiff, Nat.reduceAdd, reduceIte, XE.then, XE.out, h0, h1, h2, h7, h8, hlt, hm, h9, hlt2, hm2', h9, h10, d5, hlt4, h12, hlt6, hm6, wr1 (show q6 < 4611686018427387904 by omega)]), ?_, ?_, hlow7, g6.trans gg⟩, ?_⟩
                          · have := Nat.sub_add_cancel hk1; rw [this] at hmb7; omega
                          · rw [sm_step _ hz1]; intro h; have := hms6 hm6; have := hms7 (by omega); show _ + (_ + wt p.2) ≤ _; omega
                          · simp only [EVS, h12, wr1 (show q6 < 4611686018427387904 by omega), Nat.reduceEqDiff, if_true, if_false, reduceIte]; omega
                        · have hc_hm6 := hm6
                          have hfin6 : m6 ≤ L → S + (y.items.length + y.args.length) + sm wt y.args + sm (fun p : Val3 × α => wt p.2) y.items ≤ m6 := fun h => absurd h hm6
                          refine TF.cond (t := false) rfl (by simp (maxSteps := 2000000) only [EVS, EVL, Nat.reduceEqDiff, Nat.reduceAdd, reduceIte, XE.then, XE.out, h0, h1, h2, h7, h8, hlt, hm, h9, hlt2, hm2', h9, h10, d5, hlt4, h12, hlt6, hm6]) ?_
                          simp (maxSteps := 2000000) only [EVS, EVL, Nat.reduceEqDiff, Nat.reduceAdd, reduceIte, XE.then, XE.out, h0, h1, h2, h7, h8, hlt, hm, h9, hlt2, hm2', h9, h10, d5, hlt4, h12, hlt6, hm6]
                          refine TF.exit ?_
                          simp (maxSteps := 2000000) only [EVS, EVL, Nat.reduceEqDiff, Nat.reduceAdd, reduceIte, XE.then, XE.out, h0, h1, h2, h7, h8, hlt, hm, h9, hlt2, hm2', h9, h10, d5, hlt4, h12, hlt6, hm6]
                          refine TF.reg (call := oracle []) (by show 136 ≤ 1000000; decide) (by kernel_rfl) (oracle_ok _ (by simp)) ?_
                          simp (maxSteps := 2000000) only [EVS, EVL, Nat.reduceEqDiff, Nat.reduceAdd, reduceIte, XE.then, XE.out, h0, h1, h2, h7, h8, hlt, hm, h9, hlt2, hm2', h9, h10, d5, hlt4, h12, hlt6, hm6, wr1 (show j < 4611686018427387904 by omega)]
                          refine ⟨⟨j + 1, m6, by omega, (by simp (maxSteps := 2000000) only [EVS, EVL, Nat.reduceEqDiff, Nat.reduceAdd, reduceIte, XE.then, XE.out, h0, h1, h2, h7, h8, hlt, hm, h9, hlt2, hm2', h9, h10, d5, hlt4, h12, hlt6, hm6, wr1 (show j < 4611686018427387904 by omega)]), (by simp (maxSteps := 2000000) only [EVS, EVL, Nat.reduceEqDiff, Nat.reduceAdd, reduceIte, XE.then, XE.out, h0, h1, h2, h7, h8, hlt, hm, h9, hlt2, hm2', h9, h10, d5, hlt4, h12, hlt6, hm6, wr1 (show j < 4611686018427387904 by omega)]), (by simp (maxSteps := 2000000) only [EVS, EVL, Nat.reduceEqDiff, Nat.reduceAdd, reduceIte, XE.then, XE.out, h0, h1, h2, h7, h8, hlt, hm, h9, hlt2, hm2', h9, h10, d5, hlt4, h12, hlt6, hm6, wr1 (show j < 4611686018427387904 by omega)]), (by simp (maxSteps := 2000000) only [EVS, EVL, Nat.reduceEqDiff, Nat.reduceAdd, reduceIte, XE.then, XE.out, h0, h1, h2, h7, h8, hlt, hm, h9, hlt2, hm2', h9, h10, d5, hlt4, h12, hlt6, hm6, wr1 (show j < 4611686018427387904 by omega)]), (by simp (maxSteps := 2000000) only [EVS, EVL, Nat.reduceEqDiff, Nat.reduceAdd, reduceIte, XE.then, XE.out, h0, h1, h2, h7, h8, hlt, hm, h9, hlt2, hm2', h9, h10, d5, hlt4, h12, hlt6, hm6, wr1 (show j < 4611686018427387904 by omega)]), (by simp (maxSteps := 2000000) only [EVS, EVL, Nat.reduceEqDiff, Nat.reduceAdd, reduceIte, XE.then, XE.out, h0, h1, h2, h7, h8, hlt, hm, h9, hlt2, hm2', h9, h10, d5, hlt4, h12, hlt6, hm6, wr1 (show j < 4611686018427387904 by omega)]), hmb6, ?_, hlow6, g5.trans g6⟩, ?_⟩
                          · rw [sm_step _ hy1]; intro h; have := hfin6 h; show _ + (_ + ((y.items.length + y.args.length) + sm wt y.args + sm (fun p : Val3 × α => wt p.2) y.items)) ≤ _; omega
                          · simp only [EVS, h9, wr1 (show j < 4611686018427387904 by omega), Nat.reduceEqDiff, if_true, if_false, reduceIte]; omega
                      · have hc_hlt6 := hlt6
                        refine TF.reg (call := oracle []) (by show 136 ≤ 1000000; decide) (by kernel_rfl) (oracle_ok _ (by simp)) ?_
                        simp (maxSteps := 2000000) only [EVS, EVL, Nat.reduceEqDiff, Nat.reduceAdd, reduceIte, XE.then, XE.out, h0, h1, h2, h7, h8, hlt, hm, h9, hlt2, hm2', h9, h10, d5, hlt4, h12, hlt6]
                        have hfin6 : m6 ≤ L → S + (y.items.length + y.args.length) + sm wt y.args + sm (fun p : Val3 × α => wt p.2) y.items ≤ m6 := fun h => by have := hms6 h; rw [sm_all _ hlt6] at this; exact this
                        refine TF.cond (t := false) rfl (by simp (maxSteps := 2000000) only [EVS, EVL, Nat.reduceEqDiff, Nat.reduceAdd, reduceIte, XE.then, XE.out, h0, h1, h2, h7, h8, hlt, hm, h9, hlt2, hm2', h9, h10, d5, hlt4, h12, hlt6]) ?_
                        simp (maxSteps := 2000000) only [EVS, EVL, Nat.reduceEqDiff, Nat.reduceAdd, reduceIte, XE.then, XE.out, h0, h1, h2, h7, h8, hlt, hm, h9, hlt2, hm2', h9, h10, d5, hlt4, h12, hlt6]
                        refine TF.exit ?_
                        simp (maxSteps := 2000000) only [EVS, EVL, Nat.reduceEqDiff, Nat.reduceAdd, reduceIte, XE.then, XE.out, h0, h1, h2, h7, h8, hlt, hm, h9, hlt2, hm2', h9, h10, d5, hlt4, h12, hlt6]
                        refine TF.reg (call := oracle []) (by show 136 ≤ 1000000; decide) (by kernel_rfl) (oracle_ok _ (by simp)) ?_
                        simp (maxSteps := 2000000) only [EVS, EVL, Nat.reduceEqDiff, Nat.reduceAdd, reduceIte, XE.then, XE.out, h0, h1, h2, h7, h8, hlt, hm, h9, hlt2, hm2', h9, h10, d5, hlt4, h12, hlt6, wr1 (show j < 4611686018427387904 by omega)]
                        refine ⟨⟨j + 1, m6, by omega, (by simp (maxSteps := 2000000) only [EVS, EVL, Nat.reduceEqDiff, Nat.reduceAdd, reduceIte, XE.then, XE.out, h0, h1, h2, h7, h8, hlt, hm, h9, hlt2, hm2', h9, h10, d5, hlt4, h12, hlt6, wr1 (show j < 4611686018427387904 by omega)]), (by simp (maxSteps := 2000000) only [EVS, EVL, Nat.reduceEqDiff, Nat.reduceAdd, reduceIte, XE.then, XE.out, h0, h1, h2, h7, h8, hlt, hm, h9, hlt2, hm2', h9, h10, d5, hlt4, h12, hlt6, wr1 (show j < 4611686018427387904 by omega)]), (by simp (maxSteps := 2000000) only [EVS, EVL, Nat.reduceEqDiff, Nat.reduceAdd, reduceIte, XE.then, XE.out, h0, h1, h2, h7, h8, hlt, hm, h9, hlt2, hm2', h9, h10, d5, hlt4, h12, hlt6, wr1 (show j < 4611686018427387904 by omega)]), (by simp (maxSteps := 2000000) only [EVS, EVL, Nat.reduceEqDiff, Nat.reduceAdd, reduceIte, XE.then, XE.out, h0, h1, h2, h7, h8, hlt, hm, h9, hlt2, hm2', h9, h10, d5, hlt4, h12, hlt6, wr1 (show j < 4611686018427387904 by omega)]), (by simp (maxSteps := 2000000) only [EVS, EVL, Nat.reduceEqDiff, Nat.reduceAdd, reduceIte, XE.then, XE.out, h0, h1, h2, h7, h8, hlt, hm, h9, hlt2, hm2', h9, h10, d5, hlt4, h12, hlt6, wr1 (show j < 4611686018427387904 by omega)]), (by simp (maxSteps := 2000000) only [EVS, EVL, Nat.reduceEqDiff, Nat.reduceAdd, reduceIte, XE.then, XE.out, h0, h1, h2, h7, h8, hlt, hm, h9, hlt2, hm2', h9, h10, d5, hlt4, h12, hlt6, wr1 (show j < 4611686018427387904 by omega)]), hmb6, ?_, hlow6, g5.trans g6⟩, ?_⟩
                        · rw [sm_step _ hy1]; intro h; have := hfin6 h; show _ + (_ + ((y.items.length + y.args.length) + sm wt y.args + sm (fun p : Val3 × α => wt p.2) y.items)) ≤ _; omega
                        · simp only [EVS, h9, wr1 (show j < 4611686018427387904 by omega), Nat.reduceEqDiff, if_true, if_false, reduceIte]; omega
              · have hc_hm2' := hm2'
                have hfin2 : m2 ≤ L → sm (wT wt) (d.take (i + 1)) ≤ m2 := fun h => absurd h hm2'
                refine TF.cond (t := false) rfl (by simp (maxSteps := 2000000) only [EVS, EVL, Nat.reduceEqDiff, Nat.reduceAdd, reduceIte, XE.then, XE.out, h0, h1, h2, h7, h8, hlt, hm, cx, h9, hlt2, hm2']) ?_
                simp (maxSteps := 2000000) only [EVS, EVL, Nat.reduceEqDiff, Nat.reduceAdd, reduceIte, XE.then, XE.out, h0, h1, h2, h7, h8, hlt, hm, cx, h9, hlt2, hm2']
                refine TF.exit ?_
                simp (maxSteps := 2000000) only [EVS, EVL, Nat.reduceEqDiff, Nat.reduceAdd, reduceIte, XE.then, XE.out, h0, h1, h2, h7, h8, hlt, hm, cx, h9, hlt2, hm2']
                refine TF.reg (call := oracle []) (by show 136 ≤ 1000000; decide) (by kernel_rfl) (oracle_ok _ (by simp)) ?_
                simp (maxSteps := 2000000) only [EVS, EVL, Nat.reduceEqDiff, Nat.reduceAdd, reduceIte, XE.then, XE.out, h0, h1, h2, h7, h8, hlt, hm, cx, h9, hlt2, hm2', wr1 (show i < 4611686018427387904 by omega)]
                refine ⟨⟨i + 1, m2, by omega, (by simp (maxSteps := 2000000) only [EVS, EVL, Nat.reduceEqDiff, Nat.reduceAdd, reduceIte, XE.then, XE.out, h0, h1, h2, h7, h8, hlt, hm, cx, h9, hlt2, hm2', wr1 (show i < 4611686018427387904 by omega)]), (by simp (maxSteps := 2000000) only [EVS, EVL, Nat.reduceEqDiff, Nat.reduceAdd, reduceIte, XE.then, XE.out, h0, h1, h2, h7, h8, hlt, hm, cx, h9, hlt2, hm2', wr1 (show i < 4611686018427387904 by omega)]), (by simp (maxSteps := 2000000) only [EVS, EVL, Nat.reduceEqDiff, Nat.reduceAdd, reduceIte, XE.then, XE.out, h0, h1, h2, h7, h8, hlt, hm, cx, h9, hlt2, hm2', wr1 (show i < 4611686018427387904 by omega)]), (by simp (maxSteps := 2000000) only [EVS, EVL, Nat.reduceEqDiff, Nat.reduceAdd, reduceIte, XE.then, XE.out, h0, h1, h2, h7, h8, hlt, hm, cx, h9, hlt2, hm2', wr1 (show i < 4611686018427387904 by omega)]), (by simp (maxSteps := 2000000) only [EVS, EVL, Nat.reduceEqDiff, Nat.reduceAdd, reduceIte, XE.then, XE.out, h0, h1, h2, h7, h8, hlt, hm, cx, h9, hlt2, hm2', wr1 (show i < 4611686018427387904 by omega)]), hmb2, hfin2, hlow2, g2⟩, ?_⟩
                simp only [EVS, h8, wr1 (show i < 4611686018427387904 by omega), Nat.reduceEqDiff, if_true, if_false, reduceIte]; omega
            · have hc_hlt2 := hlt2
              refine TF.reg (call := oracle []) (by show 136 ≤ 1000000; decide) (by kernel_rfl) (oracle_ok _ (by simp)) ?_
              simp (maxSteps := 2000000) only [EVS, EVL, Nat.reduceEqDiff, Nat.reduceAdd, reduceIte, XE.then, XE.out, h0, h1, h2, h7, h8, hlt, hm, cx, h9, hlt2]
              have hfin2 : m2 ≤ L → sm (wT wt) (d.take (i + 1)) ≤ m2 := fun h => by have := hms2 h; rw [sm_step _ hx1]; rw [sm_all _ hlt2] at this; show _ + ((1 + x.facs.length) + sm (wF wt) x.facs) ≤ _; omega
              refine TF.cond (t := false) rfl (by simp (maxSteps := 2000000) only [EVS, EVL, Nat.reduceEqDiff, Nat.reduceAdd, reduceIte, XE.then, XE.out, h0, h1, h2, h7, h8, hlt, hm, cx, h9, hlt2]) ?_
              simp (maxSteps := 2000000) only [EVS, EVL, Nat.reduceEqDiff, Nat.reduceAdd, reduceIte, XE.then, XE.out, h0, h1, h2, h7, h8, hlt, hm, cx, h9, hlt2]
              refine TF.exit ?_
              simp (maxSteps := 2000000) only [EVS, EVL, Nat.reduceEqDiff, Nat.reduceAdd, reduceIte, XE.then, XE.out, h0, h1, h2, h7, h8, hlt, hm, cx, h9, hlt2]
              refine TF.reg (call := oracle []) (by show 136 ≤ 1000000; decide) (by kernel_rfl) (oracle_ok _ (by simp)) ?_
              simp (maxSteps := 2000000) only [EVS, EVL, Nat.reduceEqDiff, Nat.reduceAdd, reduceIte, XE.then, XE.out, h0, h1, h2, h7, h8, hlt, hm, cx, h9, hlt2, wr1 (show i < 4611686018427387904 by omega)]
              refine ⟨⟨i + 1, m2, by omega, (by simp (maxSteps := 2000000) only [EVS, EVL, Nat.reduceEqDiff, Nat.reduceAdd, reduceIte, XE.then, XE.out, h0, h1, h2, h7, h8, hlt, hm, cx, h9, hlt2, wr1 (show i < 4611686018427387904 by omega)]), (by simp (maxSteps := 2000000) only [EVS, EVL, Nat.reduceEqDiff, Nat.reduceAdd, reduceIte, XE.then, XE.out, h0, h1, h2, h7, h8, hlt, hm, cx, h9, hlt2, wr1 (show i < 4611686018427387904 by omega)]), (by simp (maxSteps := 2000000) only [EVS, EVL, Nat.reduceEqDiff, Nat.reduceAdd, reduceIte, XE.then, XE.out, h0, h1, h2, h7, h8, hlt, hm, cx, h9, hlt2, wr1 (show i < 4611686018427387904 by omega)]), (by simp (maxSteps := 2000000) only [EVS, EVL, Nat.reduceEqDiff, Nat.reduceAdd, reduceIte, XE.then, XE.out, h0, h1, h2, h7, h8, hlt, hm, cx, h9, hlt2, wr1 (show i < 4611686018427387904 by omega)]), (by simp (maxSteps := 2000000) only [EVS, EVL, Nat.reduceEqDiff, Nat.reduceAdd, reduceIte, XE.then, XE.out, h0, h1, h2, h7, h8, hlt, hm, cx, h9, hlt2, wr1 (show i < 4611686018427387904 by omega)]), hmb2, hfin2, hlow2, g2⟩, ?_⟩
              simp only [EVS, h8, wr1 (show i < 4611686018427387904 by omega), Nat.reduceEqDiff, if_true, if_false, reduceIte]; omega
        · have hc_hm := hm
          refine TF.cond (t := false) rfl (by simp (maxSteps := 2000000) only [EVS, EVL, Nat.reduceEqDiff, Nat.reduceAdd, reduceIte, XE.then, XE.out, h0, h1, h2, h7, h8, hlt, hm]) ?_
          simp (maxSteps := 2000000) only [EVS, EVL, Nat.reduceEqDiff, Nat.reduceAdd, reduceIte, XE.then, XE.out, h0, h1, h2, h7, h8, hlt, hm]
          refine TF.exit ?_
          simp (maxSteps := 2000000) only [EVS, EVL, Nat.reduceEqDiff, Nat.reduceAdd, reduceIte, XE.then, XE.out, h0, h1, h2, h7, h8, hlt, hm]
          refine TF.seq ?_
          refine TF.reg (call := oracle []) (by show 136 ≤ 1000000; decide) (by kernel_rfl) (oracle_ok _ (by simp)) ?_
          simp (maxSteps := 2000000) only [EVS, EVL, Nat.reduceEqDiff, Nat.reduceAdd, reduceIte, XE.then, XE.out, h0, h1, h2, h7, h8, hlt, hm]
          refine TF.ret ?_
          try simp (maxSteps := 2000000) only [EVS, EVL, Nat.reduceEqDiff, Nat.reduceAdd, reduceIte, XE.then, XE.out, h0, h1, h2, h7, h8, hlt, hm]
          exact ⟨g, m, rfl, hmb, fun h => absurd h hm⟩
      · have hc_hlt := hlt
        refine TF.reg (call := oracle []) (by show 136 ≤ 1000000; decide) (by kernel_rfl) (oracle_ok _ (by simp)) ?_
        simp (maxSteps := 2000000) only [EVS, EVL, Nat.reduceEqDiff, Nat.reduceAdd, reduceIte, XE.then, XE.out, h0, h1, h2, h7, h8, hlt]
        refine TF.cond (t := false) rfl (by simp (maxSteps := 2000000) only [EVS, EVL, Nat.reduceEqDiff, Nat.reduceAdd, reduceIte, XE.then, XE.out, h0, h1, h2, h7, h8, hlt]) ?_
        simp (maxSteps := 2000000) only [EVS, EVL, Nat.reduceEqDiff, Nat.reduceAdd, reduceIte, XE.then, XE.out, h0, h1, h2, h7, h8, hlt]
        refine TF.exit ?_
        simp (maxSteps := 2000000) only [EVS, EVL, Nat.reduceEqDiff, Nat.reduceAdd, reduceIte, XE.then, XE.out, h0, h1, h2, h7, h8, hlt]
        refine TF.seq ?_
        refine TF.reg (call := oracle []) (by show 136 ≤ 1000000; decide) (by kernel_rfl) (oracle_ok _ (by simp)) ?_
        simp (maxSteps := 2000000) only [EVS, EVL, Nat.reduceEqDiff, Nat.reduceAdd, reduceIte, XE.then, XE.out, h0, h1, h2, h7, h8, hlt]
        refine TF.ret ?_
        try simp (maxSteps := 2000000) only [EVS, EVL, Nat.reduceEqDiff, Nat.reduceAdd, reduceIte, XE.then, XE.out, h0, h1, h2, h7, h8, hlt]
        exact ⟨g, m, rfl, hmb, fun h => by have := hms h; rw [sm_all _ hlt] at this; exact this⟩
end

end Go.Proofs.YtkjbbbjebidniaaGreatDoor
