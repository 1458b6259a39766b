/- Find: the reference's comparisons answer 0 on two values that say the same. -/
import Derived.Test.YtkjbbbjebidniaaGreatDoorZX8
namespace Go.Proofs.YtkjbbbjebidniaaGreatDoor
open Go Go.RowKit
set_option linter.unusedSimpArgs false
set_option linter.unusedVariables false
set_option maxRecDepth 100000
set_option maxHeartbeats 2000000

section
variable {P : Program} {call : CallA} (d : Option Tmp) (ty : TypeId) (pos : String) (af : Array Edge) (g : Option (Nat × Bool)) (e : Env) (w : AW)
def notV : Value → Option Value
  | .bool b => some (.bool (!b))
  | _ => none
theorem notV_bool (b : Bool) : notV (.bool b) = some (.bool (!b)) := rfl
def isBl : Value → Bool
  | .bool _ => true
  | _ => false
theorem isBl_bool (b : Bool) : isBl (.bool b) = true := rfl
theorem res_not (t : TypeId) (x : Operand) (hx : isBl (evE e x) = true) : resE P call ⟨d, .unOp .not t x, ty, pos, af, g⟩ e w = valR (notV (evE e x)) w := by
  cases hv : evE e x with
  | bool b =>
    rw [res_val _ _ _ rfl]
    have : flatA P (evE e) ⟨d, .unOp .not t x, ty, pos, af, g⟩ = some (.bool (!b)) := by
      simp only [flatA]
      have hall : (Op.unOp UnOp.not t x).operands.all (fun x => flatV (evE e x)) = true := by
        simp [Op.operands, hv, flatV, flat1]
      simp only [hall, cond_true]
      have : execOp (evE e) ⟨d, .unOp .not t x, ty, pos, af, g⟩ = pure (.value (.bool (!b))) := by
        simp [execOp, hv]; rfl
      rw [this]
      rfl
    have hk : valK (.unOp .not t x) P (evE e) ⟨d, .unOp .not t x, ty, pos, af, g⟩ = flatA P (evE e) ⟨d, .unOp .not t x, ty, pos, af, g⟩ := rfl
    show valR (valK (.unOp .not t x) P (evE e) ⟨d, .unOp .not t x, ty, pos, af, g⟩) w = _
    rw [hk, this]; rfl
  | _ => rw [hv] at hx; cases hx
end

theorem Gr.cells' {w w' : AW} (g : Gr w w') {b o n : Nat} {l : List Value} (hb : b < w.size) (h : w.cells ⟨b, o, none⟩ n = some l) : w'.cells ⟨b, o, none⟩ n = some l := by rw [g.cells hb]; exact h
theorem cells_of0 {w : AW} {b o n : Nat} {l : List Value} (h : w.cells ⟨b, o, none⟩ n = some l) (m : Nat) (hm : m ≤ n) : w.cells ⟨b, o, none⟩ m = some (l.take m) := cells_part h 0 m (by omega)
theorem num_self (a : Int) : num a a = 0 := by unfold num; simp
theorem cmpR_self (a b : Int) : cmpR a b a b = 0 := by unfold cmpR; simp [num_self]

section
variable {α : Type}
/-- A comparison answers 0 on two values that say the same. -/
def Same0 (f : FuncId) (ok : α → Prop) (enc : α → Dt) : Prop := ∀ a, ok a → ∀ {Ψ : Psi} {w : AW} {u v : Value}, Wt Ψ w → Den Ψ u (enc a) → Den Ψ v (enc a) → CallP f [u, v] w (fun r w' => r = .int .i64 0 ∧ Gr w w')
variable {enc : α → Dt} {ok : α → Prop}

theorem items0 (H : Same0 49 ok enc) (l : List (Val3 × α)) (hl : l.length < 4611686018427387904) (hok : ∀ p ∈ l, ok p.2) {Ψ : Psi} {w : AW} {u v : Value} (W : Wt Ψ w) (hu : Den Ψ u (lst (encI enc) l)) (hv : Den Ψ v (lst (encI enc) l)) : CallP 50 [u, v] w (fun r w' => r = .int .i64 0 ∧ Gr w w') := by
  obtain ⟨ua, uc, rfl⟩ := hu.len
  obtain ⟨va, vc, rfl⟩ := hv.len
  refine CallP.of (t := 4) (args := [.slice ua l.length uc, .slice va l.length vc]) Tryz.func50 rfl rfl (by simp) (by show _ ≤ 53; simp) ?_
  have a0 : argsE [.slice ua l.length uc, .slice va l.length vc] 0 = .slice ua l.length uc := rfl
  have a1 : argsE [.slice ua l.length uc, .slice va l.length vc] 1 = .slice va l.length vc := rfl
  refine TF.seq ?_
  refine TF.reg (call := oracle []) (by show 53 ≤ 1000000; decide) (by kernel_rfl) (oracle_ok _ (by simp)) ?_
  simp (maxSteps := 2000000) only [EVS, EVL, Nat.reduceEqDiff, Nat.reduceAdd, reduceIte, XE.then, XE.out, a0, a1]
  refine TF.seq ?_
  refine TF.seq ?_
  refine TF.reg (call := oracle []) (by show 53 ≤ 1000000; decide) (by kernel_rfl) (oracle_ok _ (by simp)) ?_
  simp (maxSteps := 2000000) only [EVS, EVL, Nat.reduceEqDiff, Nat.reduceAdd, reduceIte, XE.then, XE.out, a0, a1]
  refine TF.block ?_
  generalize hW0 : w = W0 at *
  refine TF.loopH (fun e w => ∃ i : Nat, i ≤ l.length ∧ e 0 = .slice ua l.length uc ∧ e 1 = .slice va l.length vc ∧ e 5 = .int .i64 i ∧ w.low ≤ w.size ∧ Gr W0 w) (fun e w => l.length - natOf (e 5)) ?_ ?_
  · exact ⟨0, Nat.zero_le _, a0, a1, rfl, W.low, Gr.refl _⟩
  · rintro e w1 ⟨i, hi1, h0, h1, h5, hlow, g⟩
    refine TF.seq ?_
    refine TF.seq ?_
    by_cases hlt : i < l.length
    · have hc_hlt := hlt
      refine TF.reg (call := oracle []) (by show 53 ≤ 1000000; decide) (by kernel_rfl) (oracle_ok _ (by simp)) ?_
      simp (maxSteps := 2000000) only [EVS, EVL, Nat.reduceEqDiff, Nat.reduceAdd, reduceIte, XE.then, XE.out, h0, h1, h5, hlt]
      refine TF.cond (t := true) rfl (by simp (maxSteps := 2000000) only [EVS, EVL, Nat.reduceEqDiff, Nat.reduceAdd, reduceIte, XE.then, XE.out, h0, h1, h5, hlt]) ?_
      simp (maxSteps := 2000000) only [EVS, EVL, Nat.reduceEqDiff, Nat.reduceAdd, reduceIte, XE.then, XE.out, h0, h1, h5, hlt]
      refine TF.skip ?_
      simp (maxSteps := 2000000) only [EVS, EVL, Nat.reduceEqDiff, Nat.reduceAdd, reduceIte, XE.then, XE.out, h0, h1, h5, hlt]
      refine TF.seq ?_
      refine TF.block ?_
      refine TF.seq ?_
      refine TF.seq ?_
      have hx1 : l[i]? = some l[i] := List.getElem?_eq_getElem hlt
      have hm := List.getElem_mem hlt
      generalize l[i] = x at *
      obtain ⟨ub, uo, uc', ux, e1, _, hub, hcx, hdx, _⟩ := (W.gr g).rdI hu hx1
      cases e1
      obtain ⟨vb, vo, vc', vx, e2, _, hvb, hcy, hdy, _⟩ := (W.gr g).rdI hv hx1
      cases e2
      have hx3 := cells_of0 hcx 3 (by decide)
      have hy3 := cells_of0 hcy 3 (by decide)
      obtain ⟨rv, w2, k1, g2, k, rfl, hk⟩ := cmpVal_ok x.1 x.1 w1.rs
      cases hk.2 rfl
      simp only [List.take_succ_cons, List.take_zero] at hx3 hy3
      have gg := rs_gr g2 hlow
      have glow := g2.low
      have rl := rs_lw w1 hlow
      have rl2 := rs_lw (w2.lw w1.low) (gg.lowle hlow)
      refine TF.regD (call := oracle [(93, ⟨[valV x.1, valV x.1]⟩, w1.rs, .int .i64 0, w2)]) (by show 53 ≤ 1000000; decide) (by kernel_rfl) (oracle_ok _ (by simpa using k1)) ?_
      simp (maxSteps := 2000000) only [EVS, EVL, Nat.reduceEqDiff, Nat.reduceAdd, reduceIte, XE.then, XE.out, h0, h1, h5, hlt, hx3, hy3, glow, rl, rl2]
      have g3 := g.trans gg
      have hlow3 := gg.lowle hlow
      replace hcx := gg.cells' hub hcx
      replace hcy := gg.cells' hvb hcy
      generalize hw3 : w2.lw w1.low = w3 at *
      refine TF.seq ?_
      refine TF.reg (call := oracle []) (by show 53 ≤ 1000000; decide) (by kernel_rfl) (oracle_ok _ (by simp)) ?_
      simp (maxSteps := 2000000) only [EVS, EVL, Nat.reduceEqDiff, Nat.reduceAdd, reduceIte, XE.then, XE.out, h0, h1, h5, hlt]
      refine TF.cond (t := false) rfl (by simp only [EVS]; simp) ?_
      simp (maxSteps := 2000000) only [EVS, EVL, Nat.reduceEqDiff, Nat.reduceAdd, reduceIte, XE.then, XE.out, h0, h1, h5, hlt]
      refine TF.skip ?_
      simp (maxSteps := 2000000) only [EVS, EVL, Nat.reduceEqDiff, Nat.reduceAdd, reduceIte, XE.then, XE.out, h0, h1, h5, hlt]
      refine TF.seq ?_
      have hxa := cell_of hcx 3 rfl
      have hya := cell_of hcy 3 rfl
      have W3 := (W.gr g3).rs
      obtain ⟨rv, w4, k2, rfl, g4'⟩ := H x.2 (hok x hm) W3 hdx hdy
      have gg4 := rs_gr g4' hlow3
      have glow4 := g4'.low
      have rl3 := rs_lw w3 hlow3
      have rl4 := rs_lw (w4.lw w3.low) (gg4.lowle hlow3)
      refine TF.regD (call := oracle [(49, ⟨[ux, vx]⟩, w3.rs, .int .i64 0, w4)]) (by show 53 ≤ 1000000; decide) (by kernel_rfl) (oracle_ok _ (by simpa using k2)) ?_
      simp (maxSteps := 2000000) only [EVS, EVL, Nat.reduceEqDiff, Nat.reduceAdd, reduceIte, XE.then, XE.out, h0, h1, h5, hlt, hxa, hya, glow4, rl3, rl4]
      have g4 := g3.trans gg4
      have hlow4 := gg4.lowle hlow3
      refine TF.seq ?_
      refine TF.reg (call := oracle []) (by show 53 ≤ 1000000; decide) (by kernel_rfl) (oracle_ok _ (by simp)) ?_
      simp (maxSteps := 2000000) only [EVS, EVL, Nat.reduceEqDiff, Nat.reduceAdd, reduceIte, XE.then, XE.out, h0, h1, h5, hlt]
      refine TF.cond (t := false) rfl (by simp only [EVS]; simp) ?_
      simp (maxSteps := 2000000) only [EVS, EVL, Nat.reduceEqDiff, Nat.reduceAdd, reduceIte, XE.then, XE.out, h0, h1, h5, hlt]
      refine TF.skip ?_
      simp (maxSteps := 2000000) only [EVS, EVL, Nat.reduceEqDiff, Nat.reduceAdd, reduceIte, XE.then, XE.out, h0, h1, h5, hlt]
      refine TF.reg (call := oracle []) (by show 53 ≤ 1000000; decide) (by kernel_rfl) (oracle_ok _ (by simp)) ?_
      simp (maxSteps := 2000000) only [EVS, EVL, Nat.reduceEqDiff, Nat.reduceAdd, reduceIte, XE.then, XE.out, h0, h1, h5, hlt, wr1 (Nat.lt_trans hlt hl)]
      refine ⟨⟨i + 1, by omega, (by simp (maxSteps := 2000000) only [EVS, EVL, Nat.reduceEqDiff, Nat.reduceAdd, reduceIte, XE.then, XE.out, h0, h1, h5, hlt, wr1 (Nat.lt_trans hlt hl)]), (by simp (maxSteps := 2000000) only [EVS, EVL, Nat.reduceEqDiff, Nat.reduceAdd, reduceIte, XE.then, XE.out, h0, h1, h5, hlt, wr1 (Nat.lt_trans hlt hl)]), (by simp (maxSteps := 2000000) only [EVS, EVL, Nat.reduceEqDiff, Nat.reduceAdd, reduceIte, XE.then, XE.out, h0, h1, h5, hlt, wr1 (Nat.lt_trans hlt hl)]), hlow4, g4⟩, ?_⟩
      simp only [EVS, h5, wr1 (Nat.lt_trans hlt hl), Nat.reduceEqDiff, if_true, if_false, reduceIte]; omega
    · have hc_hlt := hlt
      refine TF.reg (call := oracle []) (by show 53 ≤ 1000000; decide) (by kernel_rfl) (oracle_ok _ (by simp)) ?_
      simp (maxSteps := 2000000) only [EVS, EVL, Nat.reduceEqDiff, Nat.reduceAdd, reduceIte, XE.then, XE.out, h0, h1, h5, hlt]
      refine TF.cond (t := false) rfl (by simp (maxSteps := 2000000) only [EVS, EVL, Nat.reduceEqDiff, Nat.reduceAdd, reduceIte, XE.then, XE.out, h0, h1, h5, hlt]) ?_
      simp (maxSteps := 2000000) only [EVS, EVL, Nat.reduceEqDiff, Nat.reduceAdd, reduceIte, XE.then, XE.out, h0, h1, h5, hlt]
      refine TF.exit ?_
      simp (maxSteps := 2000000) only [EVS, EVL, Nat.reduceEqDiff, Nat.reduceAdd, reduceIte, XE.then, XE.out, h0, h1, h5, hlt]
      refine TF.seq ?_
      have kn := number_ok (l.length : Int) (l.length : Int) w1
      refine TF.reg (call := oracle [(96, ⟨[.int .i64 (l.length : Int), .int .i64 (l.length : Int)]⟩, w1, .int .i64 (num (l.length : Int) (l.length : Int)), w1)]) (by show 53 ≤ 1000000; decide) (by kernel_rfl) (oracle_ok _ (by simpa using kn)) ?_
      simp (maxSteps := 2000000) only [EVS, EVL, Nat.reduceEqDiff, Nat.reduceAdd, reduceIte, XE.then, XE.out, h0, h1, h5, hlt, num_self]
      refine TF.ret ?_
      try simp (maxSteps := 2000000) only [EVS, EVL, Nat.reduceEqDiff, Nat.reduceAdd, reduceIte, XE.then, XE.out, h0, h1, h5, hlt]
      exact g

theorem cells_row {w : AW} {b : Nat} {l : List Value} {el : TypeId} {k : Nat} (h : w.heap.get b = some (.row l el k)) (o n : Nat) (hn : o + n ≤ l.length) : w.cells ⟨b, o, none⟩ n = some ((l.drop o).take n) := by
  have := cells_part (row_cells h rfl) o n hn
  rwa [Nat.zero_add] at this
abbrev atomL (x : Fac α) (ua ui : Value) : List Value := [.int .i64 x.kind, .int .i64 x.tb, .int .i64 x.sq, ua, .int .i64 x.fn, ui, .int .i64 x.op, .int .i64 x.bound.kind, .int .i64 x.bound.int, .string x.bound.text]
abbrev atomV (x : Fac α) (ua ui : Value) : Value := .agg ⟨atomL x ua ui⟩

theorem atom0 (H : Same0 49 ok enc) (x : Fac α) (hl : x.args.length < 4611686018427387904) (hli : x.items.length < 4611686018427387904) (hok : ∀ a ∈ x.args, ok a) (hoki : ∀ p ∈ x.items, ok p.2) {Ψ : Psi} {w : AW} {ua ui va vi : Value} (W : Wt Ψ w) (hu : Den Ψ ua (lst (enc1 enc) x.args)) (hui : Den Ψ ui (lst (encI enc) x.items)) (hv : Den Ψ va (lst (enc1 enc) x.args)) (hvi : Den Ψ vi (lst (encI enc) x.items)) : CallP 164 [atomV x ua ui, atomV x va vi] w (fun r w' => r = .int .i64 0 ∧ Gr w w') := by
  obtain ⟨ua', uc, rfl⟩ := hu.len
  obtain ⟨va', vc, rfl⟩ := hv.len
  generalize hua : Value.slice ua' x.args.length uc = ua at *
  generalize hva : Value.slice va' x.args.length vc = va at *
  obtain ⟨w1, w2, b1, b2, g1, g2, z1, z2, r1, r2⟩ := two_boxes 113 (atomV x ua ui) (atomV x va vi) w
  have hlow := (W.gr g2).low
  obtain ⟨w3, k3, g3⟩ := cmpRow_ok x.tb x.sq x.tb x.sq w2
  rw [cmpR_self] at k3
  replace k3 : CallT [0] Tryz.prog 101 ⟨[.agg ⟨[.int .i64 x.tb, .int .i64 x.sq]⟩, .agg ⟨[.int .i64 x.tb, .int .i64 x.sq]⟩]⟩ w2 (.int .i64 0) w3 := k3
  have hcr := cells_row r1 1 2 (by show 3 ≤ 10; decide)
  have hdr := cells_row r2 1 2 (by show 3 ≤ 10; decide)
  have c0 : w2.cell ⟨w.size, 0, none⟩ = some (.int .i64 x.kind) := by rw [cell_at r1]; rfl
  have d0 : w2.cell ⟨w1.size, 0, none⟩ = some (.int .i64 x.kind) := by rw [cell_at r2]; rfl
  refine CallP.of (t := 4) (args := [atomV x ua ui, atomV x va vi]) Tryz.func164 rfl rfl (by simp) (by show _ ≤ 96; simp) ?_
  have a0 : argsE [atomV x ua ui, atomV x va vi] 0 = atomV x ua ui := rfl
  have a1 : argsE [atomV x ua ui, atomV x va vi] 1 = atomV x va vi := rfl
  refine TF.seq ?_
  refine TF.reg (call := oracle []) (by show 96 ≤ 1000000; decide) (by kernel_rfl) (oracle_ok _ (by simp)) ?_
  simp (maxSteps := 2000000) only [EVS, EVL, Nat.reduceEqDiff, Nat.reduceAdd, reduceIte, XE.then, XE.out, b1, b2, c0, d0, a0, a1]
  refine TF.seq ?_
  refine TF.seq ?_
  have kn := number_ok (x.kind) (x.kind) w2
  refine TF.reg (call := oracle [(96, #[.int .i64 (x.kind), .int .i64 (x.kind)], w2, .int .i64 (num (x.kind) (x.kind)), w2)]) (by show 96 ≤ 1000000; decide) (by kernel_rfl) (oracle_ok _ (by simpa using kn)) ?_
  simp (maxSteps := 2000000) only [EVS, EVL, Nat.reduceEqDiff, Nat.reduceAdd, reduceIte, XE.then, XE.out, b1, b2, c0, d0, a0, a1, num_self]
  refine TF.seq ?_
  refine TF.reg (call := oracle []) (by show 96 ≤ 1000000; decide) (by kernel_rfl) (oracle_ok _ (by simp)) ?_
  simp (maxSteps := 2000000) only [EVS, EVL, Nat.reduceEqDiff, Nat.reduceAdd, reduceIte, XE.then, XE.out, b1, b2, c0, d0, a0, a1]
  refine TF.cond (t := false) rfl (by simp only [EVS]; simp) ?_
  simp (maxSteps := 2000000) only [EVS, EVL, Nat.reduceEqDiff, Nat.reduceAdd, reduceIte, XE.then, XE.out, b1, b2, c0, d0, a0, a1]
  refine TF.skip ?_
  simp (maxSteps := 2000000) only [EVS, EVL, Nat.reduceEqDiff, Nat.reduceAdd, reduceIte, XE.then, XE.out, b1, b2, c0, d0, a0, a1]
  refine TF.seq ?_
  refine TF.seq ?_
  change w2.cells _ 2 = some [.int .i64 x.tb, .int .i64 x.sq] at hcr
  change w2.cells _ 2 = some [.int .i64 x.tb, .int .i64 x.sq] at hdr
  refine TF.reg (call := oracle [(101, ⟨[.agg ⟨[.int .i64 x.tb, .int .i64 x.sq]⟩, .agg ⟨[.int .i64 x.tb, .int .i64 x.sq]⟩]⟩, w2, .int .i64 0, w3)]) (by show 96 ≤ 1000000; decide) (by kernel_rfl) (oracle_ok _ (by simpa using k3)) ?_
  simp (maxSteps := 2000000) only [EVS, EVL, Nat.reduceEqDiff, Nat.reduceAdd, reduceIte, XE.then, XE.out, b1, b2, c0, d0, a0, a1, hcr, hdr]
  refine TF.seq ?_
  refine TF.reg (call := oracle []) (by show 96 ≤ 1000000; decide) (by kernel_rfl) (oracle_ok _ (by simp)) ?_
  simp (maxSteps := 2000000) only [EVS, EVL, Nat.reduceEqDiff, Nat.reduceAdd, reduceIte, XE.then, XE.out, b1, b2, c0, d0, a0, a1]
  refine TF.cond (t := false) rfl (by simp only [EVS]; simp) ?_
  simp (maxSteps := 2000000) only [EVS, EVL, Nat.reduceEqDiff, Nat.reduceAdd, reduceIte, XE.then, XE.out, b1, b2, c0, d0, a0, a1]
  refine TF.skip ?_
  simp (maxSteps := 2000000) only [EVS, EVL, Nat.reduceEqDiff, Nat.reduceAdd, reduceIte, XE.then, XE.out, b1, b2, c0, d0, a0, a1]
  refine TF.seq ?_
  refine TF.seq ?_
  refine TF.reg (call := oracle []) (by show 96 ≤ 1000000; decide) (by kernel_rfl) (oracle_ok _ (by simp)) ?_
  simp (maxSteps := 2000000) only [EVS, EVL, Nat.reduceEqDiff, Nat.reduceAdd, reduceIte, XE.then, XE.out, b1, b2, c0, d0, a0, a1]
  refine TF.block ?_
  generalize hw0 : w = w0 at *
  refine TF.loopH (fun e w => ∃ i : Nat, i ≤ x.args.length ∧ e 2 = .pointer (some ⟨w0.size, 0, none⟩) ∧ e 3 = .pointer (some ⟨w1.size, 0, none⟩) ∧ e 7 = .int .i64 i ∧ w.low ≤ w.size ∧ Gr w2 w) (fun e w => x.args.length - natOf (e 7)) ?_ ?_
  · exact ⟨0, Nat.zero_le _, (by simp (maxSteps := 2000000) only [EVS, EVL, Nat.reduceEqDiff, Nat.reduceAdd, reduceIte, XE.then, XE.out, b1, b2, c0, d0, a0, a1]), (by simp (maxSteps := 2000000) only [EVS, EVL, Nat.reduceEqDiff, Nat.reduceAdd, reduceIte, XE.then, XE.out, b1, b2, c0, d0, a0, a1]), rfl, g3.lowle hlow, g3⟩
  · rintro e w4 ⟨i, hi1, h2, h3, h7, hlow4, g4⟩
    have r14 := (g4.same _ (show w0.size < w2.size by omega)).trans r1
    have r24 := (g4.same _ (show w1.size < w2.size by omega)).trans r2
    have c3 : w4.cell ⟨w0.size, 3, none⟩ = some (ua) := by rw [cell_at r14]; rfl
    have d3 : w4.cell ⟨w1.size, 3, none⟩ = some (va) := by rw [cell_at r24]; rfl
    refine TF.seq ?_
    refine TF.seq ?_
    by_cases hlt : i < x.args.length
    · have hc_hlt := hlt
      rw [← hua] at c3
      rw [← hva] at d3
      refine TF.reg (call := oracle []) (by show 96 ≤ 1000000; decide) (by kernel_rfl) (oracle_ok _ (by simp)) ?_
      simp (maxSteps := 2000000) only [EVS, EVL, Nat.reduceEqDiff, Nat.reduceAdd, reduceIte, XE.then, XE.out, h2, h3, h7, c3, d3, hlt]
      refine TF.cond (t := true) rfl (by simp (maxSteps := 2000000) only [EVS, EVL, Nat.reduceEqDiff, Nat.reduceAdd, reduceIte, XE.then, XE.out, h2, h3, h7, c3, d3, hlt]) ?_
      simp (maxSteps := 2000000) only [EVS, EVL, Nat.reduceEqDiff, Nat.reduceAdd, reduceIte, XE.then, XE.out, h2, h3, h7, c3, d3, hlt]
      refine TF.skip ?_
      simp (maxSteps := 2000000) only [EVS, EVL, Nat.reduceEqDiff, Nat.reduceAdd, reduceIte, XE.then, XE.out, h2, h3, h7, c3, d3, hlt]
      refine TF.seq ?_
      refine TF.block ?_
      refine TF.seq ?_
      have hx1 : x.args[i]? = some x.args[i] := List.getElem?_eq_getElem hlt
      have hm := List.getElem_mem hlt
      generalize x.args[i] = y at *
      have W4 := (W.gr g2).gr g4
      obtain ⟨ub, uo, uc', ux, e1, _, hub, hcx, hdx, _⟩ := W4.rd1 hu hx1
      rw [← hua] at e1
      cases e1
      obtain ⟨vb, vo, vc', vx, e2, _, hvb, hcy, hdy, _⟩ := W4.rd1 hv hx1
      rw [← hva] at e2
      cases e2
      have hcx0 := cell_of0 hcx rfl
      have hcy0 := cell_of0 hcy rfl
      obtain ⟨rv, w5, k5, rfl, g5⟩ := H y (hok y hm) W4.rs hdx hdy
      have gg := rs_gr g5 hlow4
      have glow := g5.low
      have rl := rs_lw w4 hlow4
      have rl2 := rs_lw (w5.lw w4.low) (gg.lowle hlow4)
      refine TF.regD (call := oracle [(49, ⟨[ux, vx]⟩, w4.rs, .int .i64 0, w5)]) (by show 96 ≤ 1000000; decide) (by kernel_rfl) (oracle_ok _ (by simpa using k5)) ?_
      simp (maxSteps := 2000000) only [EVS, EVL, Nat.reduceEqDiff, Nat.reduceAdd, reduceIte, XE.then, XE.out, h2, h3, h7, c3, d3, hlt, hcx0, hcy0, glow, rl, rl2]
      have hlow5 := gg.lowle hlow4
      refine TF.seq ?_
      refine TF.reg (call := oracle []) (by show 96 ≤ 1000000; decide) (by kernel_rfl) (oracle_ok _ (by simp)) ?_
      simp (maxSteps := 2000000) only [EVS, EVL, Nat.reduceEqDiff, Nat.reduceAdd, reduceIte, XE.then, XE.out, h2, h3, h7, c3, d3, hlt]
      refine TF.cond (t := false) rfl (by simp only [EVS]; simp) ?_
      simp (maxSteps := 2000000) only [EVS, EVL, Nat.reduceEqDiff, Nat.reduceAdd, reduceIte, XE.then, XE.out, h2, h3, h7, c3, d3, hlt]
      refine TF.skip ?_
      simp (maxSteps := 2000000) only [EVS, EVL, Nat.reduceEqDiff, Nat.reduceAdd, reduceIte, XE.then, XE.out, h2, h3, h7, c3, d3, hlt]
      refine TF.reg (call := oracle []) (by show 96 ≤ 1000000; decide) (by kernel_rfl) (oracle_ok _ (by simp)) ?_
      simp (maxSteps := 2000000) only [EVS, EVL, Nat.reduceEqDiff, Nat.reduceAdd, reduceIte, XE.then, XE.out, h2, h3, h7, c3, d3, hlt, wr1 (Nat.lt_trans hlt hl)]
      refine ⟨⟨i + 1, by omega, (by simp (maxSteps := 2000000) only [EVS, EVL, Nat.reduceEqDiff, Nat.reduceAdd, reduceIte, XE.then, XE.out, h2, h3, h7, c3, d3, hlt, wr1 (Nat.lt_trans hlt hl)]), (by simp (maxSteps := 2000000) only [EVS, EVL, Nat.reduceEqDiff, Nat.reduceAdd, reduceIte, XE.then, XE.out, h2, h3, h7, c3, d3, hlt, wr1 (Nat.lt_trans hlt hl)]), (by simp (maxSteps := 2000000) only [EVS, EVL, Nat.reduceEqDiff, Nat.reduceAdd, reduceIte, XE.then, XE.out, h2, h3, h7, c3, d3, hlt, wr1 (Nat.lt_trans hlt hl)]), hlow5, g4.trans gg⟩, ?_⟩
      simp only [EVS, h7, wr1 (Nat.lt_trans hlt hl), Nat.reduceEqDiff, if_true, if_false, reduceIte]; omega
    · have hc_hlt := hlt
      rw [← hua] at c3
      rw [← hva] at d3
      refine TF.reg (call := oracle []) (by show 96 ≤ 1000000; decide) (by kernel_rfl) (oracle_ok _ (by simp)) ?_
      simp (maxSteps := 2000000) only [EVS, EVL, Nat.reduceEqDiff, Nat.reduceAdd, reduceIte, XE.then, XE.out, h2, h3, h7, c3, d3, hlt]
      refine TF.cond (t := false) rfl (by simp (maxSteps := 2000000) only [EVS, EVL, Nat.reduceEqDiff, Nat.reduceAdd, reduceIte, XE.then, XE.out, h2, h3, h7, c3, d3, hlt]) ?_
      simp (maxSteps := 2000000) only [EVS, EVL, Nat.reduceEqDiff, Nat.reduceAdd, reduceIte, XE.then, XE.out, h2, h3, h7, c3, d3, hlt]
      refine TF.exit ?_
      simp (maxSteps := 2000000) only [EVS, EVL, Nat.reduceEqDiff, Nat.reduceAdd, reduceIte, XE.then, XE.out, h2, h3, h7, c3, d3, hlt]
      refine TF.seq ?_
      refine TF.seq ?_
      have kn := number_ok ((x.args.length : Int)) ((x.args.length : Int)) w4
      refine TF.reg (call := oracle [(96, #[.int .i64 ((x.args.length : Int)), .int .i64 ((x.args.length : Int))], w4, .int .i64 (num ((x.args.length : Int)) ((x.args.length : Int))), w4)]) (by show 96 ≤ 1000000; decide) (by kernel_rfl) (oracle_ok _ (by simpa using kn)) ?_
      simp (maxSteps := 2000000) only [EVS, EVL, Nat.reduceEqDiff, Nat.reduceAdd, reduceIte, XE.then, XE.out, h2, h3, h7, c3, d3, hlt, num_self]
      refine TF.seq ?_
      refine TF.reg (call := oracle []) (by show 96 ≤ 1000000; decide) (by kernel_rfl) (oracle_ok _ (by simp)) ?_
      simp (maxSteps := 2000000) only [EVS, EVL, Nat.reduceEqDiff, Nat.reduceAdd, reduceIte, XE.then, XE.out, h2, h3, h7, c3, d3, hlt]
      refine TF.cond (t := false) rfl (by simp only [EVS]; simp) ?_
      simp (maxSteps := 2000000) only [EVS, EVL, Nat.reduceEqDiff, Nat.reduceAdd, reduceIte, XE.then, XE.out, h2, h3, h7, c3, d3, hlt]
      refine TF.skip ?_
      simp (maxSteps := 2000000) only [EVS, EVL, Nat.reduceEqDiff, Nat.reduceAdd, reduceIte, XE.then, XE.out, h2, h3, h7, c3, d3, hlt]
      refine TF.seq ?_
      refine TF.seq ?_
      have kn := number_ok (x.fn) (x.fn) w4
      have c4 : w4.cell ⟨w0.size, 4, none⟩ = some (.int .i64 x.fn) := by rw [cell_at r14]; rfl
      have d4 : w4.cell ⟨w1.size, 4, none⟩ = some (.int .i64 x.fn) := by rw [cell_at r24]; rfl
      have c5 : w4.cell ⟨w0.size, 5, none⟩ = some (ui) := by rw [cell_at r14]; rfl
      have d5 : w4.cell ⟨w1.size, 5, none⟩ = some (vi) := by rw [cell_at r24]; rfl
      refine TF.reg (call := oracle [(96, #[.int .i64 (x.fn), .int .i64 (x.fn)], w4, .int .i64 (num (x.fn) (x.fn)), w4)]) (by show 96 ≤ 1000000; decide) (by kernel_rfl) (oracle_ok _ (by simpa using kn)) ?_
      simp (maxSteps := 2000000) only [EVS, EVL, Nat.reduceEqDiff, Nat.reduceAdd, reduceIte, XE.then, XE.out, h2, h3, h7, c3, d3, hlt, num_self, c4, d4]
      refine TF.seq ?_
      refine TF.reg (call := oracle []) (by show 96 ≤ 1000000; decide) (by kernel_rfl) (oracle_ok _ (by simp)) ?_
      simp (maxSteps := 2000000) only [EVS, EVL, Nat.reduceEqDiff, Nat.reduceAdd, reduceIte, XE.then, XE.out, h2, h3, h7, c3, d3, hlt]
      refine TF.cond (t := false) rfl (by simp only [EVS]; simp) ?_
      simp (maxSteps := 2000000) only [EVS, EVL, Nat.reduceEqDiff, Nat.reduceAdd, reduceIte, XE.then, XE.out, h2, h3, h7, c3, d3, hlt]
      refine TF.skip ?_
      simp (maxSteps := 2000000) only [EVS, EVL, Nat.reduceEqDiff, Nat.reduceAdd, reduceIte, XE.then, XE.out, h2, h3, h7, c3, d3, hlt]
      refine TF.seq ?_
      refine TF.seq ?_
      have W4 := (W.gr g2).gr g4
      obtain ⟨rv, w7, k7, rfl, g7⟩ := items0 H x.items hli hoki W4 hui hvi
      have r17 := (g7.same _ (show w0.size < w4.size by have := g4.size; omega)).trans r14
      have r27 := (g7.same _ (show w1.size < w4.size by have := g4.size; omega)).trans r24
      refine TF.reg (call := oracle [(50, ⟨[ui, vi]⟩, w4, .int .i64 0, w7)]) (by show 96 ≤ 1000000; decide) (by kernel_rfl) (oracle_ok _ (by simpa using k7)) ?_
      simp (maxSteps := 2000000) only [EVS, EVL, Nat.reduceEqDiff, Nat.reduceAdd, reduceIte, XE.then, XE.out, h2, h3, h7, c3, d3, hlt, c5, d5]
      refine TF.seq ?_
      refine TF.reg (call := oracle []) (by show 96 ≤ 1000000; decide) (by kernel_rfl) (oracle_ok _ (by simp)) ?_
      simp (maxSteps := 2000000) only [EVS, EVL, Nat.reduceEqDiff, Nat.reduceAdd, reduceIte, XE.then, XE.out, h2, h3, h7, c3, d3, hlt]
      refine TF.cond (t := false) rfl (by simp only [EVS]; simp) ?_
      simp (maxSteps := 2000000) only [EVS, EVL, Nat.reduceEqDiff, Nat.reduceAdd, reduceIte, XE.then, XE.out, h2, h3, h7, c3, d3, hlt]
      refine TF.skip ?_
      simp (maxSteps := 2000000) only [EVS, EVL, Nat.reduceEqDiff, Nat.reduceAdd, reduceIte, XE.then, XE.out, h2, h3, h7, c3, d3, hlt]
      refine TF.seq ?_
      refine TF.seq ?_
      have kn := number_ok (x.op) (x.op) w7
      have c6 : w7.cell ⟨w0.size, 6, none⟩ = some (.int .i64 x.op) := by rw [cell_at r17]; rfl
      have d6 : w7.cell ⟨w1.size, 6, none⟩ = some (.int .i64 x.op) := by rw [cell_at r27]; rfl
      refine TF.reg (call := oracle [(96, #[.int .i64 (x.op), .int .i64 (x.op)], w7, .int .i64 (num (x.op) (x.op)), w7)]) (by show 96 ≤ 1000000; decide) (by kernel_rfl) (oracle_ok _ (by simpa using kn)) ?_
      simp (maxSteps := 2000000) only [EVS, EVL, Nat.reduceEqDiff, Nat.reduceAdd, reduceIte, XE.then, XE.out, h2, h3, h7, c3, d3, hlt, num_self, c6, d6]
      refine TF.seq ?_
      refine TF.reg (call := oracle []) (by show 96 ≤ 1000000; decide) (by kernel_rfl) (oracle_ok _ (by simp)) ?_
      simp (maxSteps := 2000000) only [EVS, EVL, Nat.reduceEqDiff, Nat.reduceAdd, reduceIte, XE.then, XE.out, h2, h3, h7, c3, d3, hlt]
      refine TF.cond (t := false) rfl (by simp only [EVS]; simp) ?_
      simp (maxSteps := 2000000) only [EVS, EVL, Nat.reduceEqDiff, Nat.reduceAdd, reduceIte, XE.then, XE.out, h2, h3, h7, c3, d3, hlt]
      refine TF.skip ?_
      simp (maxSteps := 2000000) only [EVS, EVL, Nat.reduceEqDiff, Nat.reduceAdd, reduceIte, XE.then, XE.out, h2, h3, h7, c3, d3, hlt]
      refine TF.seq ?_
      have hc7 := cells_row r17 7 3 (by show 10 ≤ 10; decide)
      have hd7 := cells_row r27 7 3 (by show 10 ≤ 10; decide)
      change w7.cells _ 3 = some [.int .i64 x.bound.kind, .int .i64 x.bound.int, .string x.bound.text] at hc7
      change w7.cells _ 3 = some [.int .i64 x.bound.kind, .int .i64 x.bound.int, .string x.bound.text] at hd7
      obtain ⟨rv, w8, k8, g8, k, rfl, hk⟩ := cmpVal_ok x.bound x.bound w7
      cases hk.2 rfl
      refine TF.reg (call := oracle [(93, ⟨[valV x.bound, valV x.bound]⟩, w7, .int .i64 0, w8)]) (by show 96 ≤ 1000000; decide) (by kernel_rfl) (oracle_ok _ (by simpa using k8)) ?_
      simp (maxSteps := 2000000) only [EVS, EVL, Nat.reduceEqDiff, Nat.reduceAdd, reduceIte, XE.then, XE.out, h2, h3, h7, c3, d3, hlt, hc7, hd7]
      refine TF.ret ?_
      try simp (maxSteps := 2000000) only [EVS, EVL, Nat.reduceEqDiff, Nat.reduceAdd, reduceIte, XE.then, XE.out, h2, h3, h7, c3, d3, hlt]
      exact g2.trans (g4.trans (g7.trans g8))

theorem factors0 (H : Same0 49 ok enc) (l : List (Fac α)) (hl : l.length < 4611686018427387904) (hok : ∀ x ∈ l, x.args.length < 4611686018427387904 ∧ x.items.length < 4611686018427387904 ∧ (∀ a ∈ x.args, ok a) ∧ ∀ p ∈ x.items, ok p.2) {Ψ : Psi} {w : AW} {u v : Value} (W : Wt Ψ w) (hu : Den Ψ u (lst (encF enc) l)) (hv : Den Ψ v (lst (encF enc) l)) : CallP 95 [u, v] w (fun r w' => r = .int .i64 0 ∧ Gr w w') := by
  obtain ⟨ua, uc, rfl⟩ := hu.len
  obtain ⟨va, vc, rfl⟩ := hv.len
  refine CallP.of (t := 4) (args := [.slice ua l.length uc, .slice va l.length vc]) Tryz.func95 rfl rfl (by simp) (by show _ ≤ 53; simp) ?_
  have a0 : argsE [.slice ua l.length uc, .slice va l.length vc] 0 = .slice ua l.length uc := rfl
  have a1 : argsE [.slice ua l.length uc, .slice va l.length vc] 1 = .slice va l.length vc := rfl
  refine TF.seq ?_
  refine TF.reg (call := oracle []) (by show 53 ≤ 1000000; decide) (by kernel_rfl) (oracle_ok _ (by simp)) ?_
  simp (maxSteps := 2000000) only [EVS, EVL, Nat.reduceEqDiff, Nat.reduceAdd, reduceIte, XE.then, XE.out, a0, a1]
  refine TF.seq ?_
  refine TF.seq ?_
  refine TF.reg (call := oracle []) (by show 53 ≤ 1000000; decide) (by kernel_rfl) (oracle_ok _ (by simp)) ?_
  simp (maxSteps := 2000000) only [EVS, EVL, Nat.reduceEqDiff, Nat.reduceAdd, reduceIte, XE.then, XE.out, a0, a1]
  refine TF.block ?_
  generalize hW0 : w = W0 at *
  refine TF.loopH (fun e w => ∃ i : Nat, i ≤ l.length ∧ e 0 = .slice ua l.length uc ∧ e 1 = .slice va l.length vc ∧ e 5 = .int .i64 i ∧ w.low ≤ w.size ∧ Gr W0 w) (fun e w => l.length - natOf (e 5)) ?_ ?_
  · exact ⟨0, Nat.zero_le _, a0, a1, rfl, W.low, Gr.refl _⟩
  · rintro e w1 ⟨i, hi1, h0, h1, h5, hlow, g⟩
    refine TF.seq ?_
    refine TF.seq ?_
    by_cases hlt : i < l.length
    · have hc_hlt := hlt
      refine TF.reg (call := oracle []) (by show 53 ≤ 1000000; decide) (by kernel_rfl) (oracle_ok _ (by simp)) ?_
      simp (maxSteps := 2000000) only [EVS, EVL, Nat.reduceEqDiff, Nat.reduceAdd, reduceIte, XE.then, XE.out, h0, h1, h5, hlt]
      refine TF.cond (t := true) rfl (by simp (maxSteps := 2000000) only [EVS, EVL, Nat.reduceEqDiff, Nat.reduceAdd, reduceIte, XE.then, XE.out, h0, h1, h5, hlt]) ?_
      simp (maxSteps := 2000000) only [EVS, EVL, Nat.reduceEqDiff, Nat.reduceAdd, reduceIte, XE.then, XE.out, h0, h1, h5, hlt]
      refine TF.skip ?_
      simp (maxSteps := 2000000) only [EVS, EVL, Nat.reduceEqDiff, Nat.reduceAdd, reduceIte, XE.then, XE.out, h0, h1, h5, hlt]
      refine TF.seq ?_
      refine TF.block ?_
      refine TF.seq ?_
      refine TF.seq ?_
      have hx1 : l[i]? = some l[i] := List.getElem?_eq_getElem hlt
      have hm := List.getElem_mem hlt
      generalize l[i] = x at *
      obtain ⟨ub, uo, uc', ux, uy, e1, _, hub, hcx, hdx, hdx2, _⟩ := (W.gr g).rdF hu hx1
      cases e1
      obtain ⟨vb, vo, vc', vx, vy, e2, _, hvb, hcy, hdy, hdy2, _⟩ := (W.gr g).rdF hv hx1
      cases e2
      have hx3 := cells_of0 hcx 10 (by decide)
      have hy3 := cells_of0 hcy 10 (by decide)
      obtain ⟨hk1, hk2, hk3, hk4⟩ := hok x hm
      obtain ⟨rv, w2, k1, rfl, g2⟩ := atom0 H x hk1 hk2 hk3 hk4 (W.gr g).rs hdx hdx2 hdy hdy2
      simp only [List.take_succ_cons, List.take_zero] at hx3 hy3
      have gg := rs_gr g2 hlow
      have glow := g2.low
      have rl := rs_lw w1 hlow
      have rl2 := rs_lw (w2.lw w1.low) (gg.lowle hlow)
      refine TF.regD (call := oracle [(164, ⟨[atomV x ux uy, atomV x vx vy]⟩, w1.rs, .int .i64 0, w2)]) (by show 53 ≤ 1000000; decide) (by kernel_rfl) (oracle_ok _ (by simpa using k1)) ?_
      simp (maxSteps := 2000000) only [EVS, EVL, Nat.reduceEqDiff, Nat.reduceAdd, reduceIte, XE.then, XE.out, h0, h1, h5, hlt, hx3, hy3, glow, rl, rl2]
      have g3 := g.trans gg
      have hlow3 := gg.lowle hlow
      replace hcx := gg.cells' hub hcx
      replace hcy := gg.cells' hvb hcy
      generalize hw3 : w2.lw w1.low = w3 at *
      refine TF.seq ?_
      refine TF.reg (call := oracle []) (by show 53 ≤ 1000000; decide) (by kernel_rfl) (oracle_ok _ (by simp)) ?_
      simp (maxSteps := 2000000) only [EVS, EVL, Nat.reduceEqDiff, Nat.reduceAdd, reduceIte, XE.then, XE.out, h0, h1, h5, hlt]
      refine TF.cond (t := false) rfl (by simp only [EVS]; simp) ?_
      simp (maxSteps := 2000000) only [EVS, EVL, Nat.reduceEqDiff, Nat.reduceAdd, reduceIte, XE.then, XE.out, h0, h1, h5, hlt]
      refine TF.skip ?_
      simp (maxSteps := 2000000) only [EVS, EVL, Nat.reduceEqDiff, Nat.reduceAdd, reduceIte, XE.then, XE.out, h0, h1, h5, hlt]
      refine TF.seq ?_
      have hxa := cell_of hcx 10 rfl
      have hya := cell_of hcy 10 rfl
      have k2 := number_ok x.exp x.exp w3.rs
      have rl3 := rs_lw w3 hlow3
      refine TF.regD (call := oracle [(96, #[.int .i64 x.exp, .int .i64 x.exp], w3.rs, .int .i64 (num x.exp x.exp), w3.rs)]) (by show 53 ≤ 1000000; decide) (by kernel_rfl) (oracle_ok _ (by simpa using k2)) ?_
      simp (maxSteps := 2000000) only [EVS, EVL, Nat.reduceEqDiff, Nat.reduceAdd, reduceIte, XE.then, XE.out, h0, h1, h5, hlt, hxa, hya, rl3, num_self]
      have g4 := g3
      have hlow4 := hlow3
      refine TF.seq ?_
      refine TF.reg (call := oracle []) (by show 53 ≤ 1000000; decide) (by kernel_rfl) (oracle_ok _ (by simp)) ?_
      simp (maxSteps := 2000000) only [EVS, EVL, Nat.reduceEqDiff, Nat.reduceAdd, reduceIte, XE.then, XE.out, h0, h1, h5, hlt]
      refine TF.cond (t := false) rfl (by simp only [EVS]; simp) ?_
      simp (maxSteps := 2000000) only [EVS, EVL, Nat.reduceEqDiff, Nat.reduceAdd, reduceIte, XE.then, XE.out, h0, h1, h5, hlt]
      refine TF.skip ?_
      simp (maxSteps := 2000000) only [EVS, EVL, Nat.reduceEqDiff, Nat.reduceAdd, reduceIte, XE.then, XE.out, h0, h1, h5, hlt]
      refine TF.reg (call := oracle []) (by show 53 ≤ 1000000; decide) (by kernel_rfl) (oracle_ok _ (by simp)) ?_
      simp (maxSteps := 2000000) only [EVS, EVL, Nat.reduceEqDiff, Nat.reduceAdd, reduceIte, XE.then, XE.out, h0, h1, h5, hlt, wr1 (Nat.lt_trans hlt hl)]
      refine ⟨⟨i + 1, by omega, (by simp (maxSteps := 2000000) only [EVS, EVL, Nat.reduceEqDiff, Nat.reduceAdd, reduceIte, XE.then, XE.out, h0, h1, h5, hlt, wr1 (Nat.lt_trans hlt hl)]), (by simp (maxSteps := 2000000) only [EVS, EVL, Nat.reduceEqDiff, Nat.reduceAdd, reduceIte, XE.then, XE.out, h0, h1, h5, hlt, wr1 (Nat.lt_trans hlt hl)]), (by simp (maxSteps := 2000000) only [EVS, EVL, Nat.reduceEqDiff, Nat.reduceAdd, reduceIte, XE.then, XE.out, h0, h1, h5, hlt, wr1 (Nat.lt_trans hlt hl)]), hlow4, g4⟩, ?_⟩
      simp only [EVS, h5, wr1 (Nat.lt_trans hlt hl), Nat.reduceEqDiff, if_true, if_false, reduceIte]; omega
    · have hc_hlt := hlt
      refine TF.reg (call := oracle []) (by show 53 ≤ 1000000; decide) (by kernel_rfl) (oracle_ok _ (by simp)) ?_
      simp (maxSteps := 2000000) only [EVS, EVL, Nat.reduceEqDiff, Nat.reduceAdd, reduceIte, XE.then, XE.out, h0, h1, h5, hlt]
      refine TF.cond (t := false) rfl (by simp (maxSteps := 2000000) only [EVS, EVL, Nat.reduceEqDiff, Nat.reduceAdd, reduceIte, XE.then, XE.out, h0, h1, h5, hlt]) ?_
      simp (maxSteps := 2000000) only [EVS, EVL, Nat.reduceEqDiff, Nat.reduceAdd, reduceIte, XE.then, XE.out, h0, h1, h5, hlt]
      refine TF.exit ?_
      simp (maxSteps := 2000000) only [EVS, EVL, Nat.reduceEqDiff, Nat.reduceAdd, reduceIte, XE.then, XE.out, h0, h1, h5, hlt]
      refine TF.seq ?_
      have kn := number_ok (l.length : Int) (l.length : Int) w1
      refine TF.reg (call := oracle [(96, ⟨[.int .i64 (l.length : Int), .int .i64 (l.length : Int)]⟩, w1, .int .i64 (num (l.length : Int) (l.length : Int)), w1)]) (by show 53 ≤ 1000000; decide) (by kernel_rfl) (oracle_ok _ (by simpa using kn)) ?_
      simp (maxSteps := 2000000) only [EVS, EVL, Nat.reduceEqDiff, Nat.reduceAdd, reduceIte, XE.then, XE.out, h0, h1, h5, hlt, num_self]
      refine TF.ret ?_
      try simp (maxSteps := 2000000) only [EVS, EVL, Nat.reduceEqDiff, Nat.reduceAdd, reduceIte, XE.then, XE.out, h0, h1, h5, hlt]
      exact g

theorem ann0 (H : Same0 49 ok enc) (l : List (Term α)) (hl : l.length < 4611686018427387904) (hok : ∀ t ∈ l, t.facs.length < 4611686018427387904 ∧ ∀ x ∈ t.facs, x.args.length < 4611686018427387904 ∧ x.items.length < 4611686018427387904 ∧ (∀ a ∈ x.args, ok a) ∧ ∀ p ∈ x.items, ok p.2) {Ψ : Psi} {w : AW} {u v : Value} (W : Wt Ψ w) (hu : Den Ψ u (lst (encT enc) l)) (hv : Den Ψ v (lst (encT enc) l)) : CallP 49 [u, v] w (fun r w' => r = .int .i64 0 ∧ Gr w w') := by
  obtain ⟨ua, uc, rfl⟩ := hu.len
  obtain ⟨va, vc, rfl⟩ := hv.len
  refine CallP.of (t := 4) (args := [.slice ua l.length uc, .slice va l.length vc]) Tryz.func49 rfl rfl (by simp) (by show _ ≤ 53; simp) ?_
  have a0 : argsE [.slice ua l.length uc, .slice va l.length vc] 0 = .slice ua l.length uc := rfl
  have a1 : argsE [.slice ua l.length uc, .slice va l.length vc] 1 = .slice va l.length vc := rfl
  refine TF.seq ?_
  refine TF.reg (call := oracle []) (by show 53 ≤ 1000000; decide) (by kernel_rfl) (oracle_ok _ (by simp)) ?_
  simp (maxSteps := 2000000) only [EVS, EVL, Nat.reduceEqDiff, Nat.reduceAdd, reduceIte, XE.then, XE.out, a0, a1]
  refine TF.seq ?_
  refine TF.seq ?_
  refine TF.reg (call := oracle []) (by show 53 ≤ 1000000; decide) (by kernel_rfl) (oracle_ok _ (by simp)) ?_
  simp (maxSteps := 2000000) only [EVS, EVL, Nat.reduceEqDiff, Nat.reduceAdd, reduceIte, XE.then, XE.out, a0, a1]
  refine TF.block ?_
  generalize hW0 : w = W0 at *
  refine TF.loopH (fun e w => ∃ i : Nat, i ≤ l.length ∧ e 0 = .slice ua l.length uc ∧ e 1 = .slice va l.length vc ∧ e 5 = .int .i64 i ∧ w.low ≤ w.size ∧ Gr W0 w) (fun e w => l.length - natOf (e 5)) ?_ ?_
  · exact ⟨0, Nat.zero_le _, a0, a1, rfl, W.low, Gr.refl _⟩
  · rintro e w1 ⟨i, hi1, h0, h1, h5, hlow, g⟩
    refine TF.seq ?_
    refine TF.seq ?_
    by_cases hlt : i < l.length
    · have hc_hlt := hlt
      refine TF.reg (call := oracle []) (by show 53 ≤ 1000000; decide) (by kernel_rfl) (oracle_ok _ (by simp)) ?_
      simp (maxSteps := 2000000) only [EVS, EVL, Nat.reduceEqDiff, Nat.reduceAdd, reduceIte, XE.then, XE.out, h0, h1, h5, hlt]
      refine TF.cond (t := true) rfl (by simp (maxSteps := 2000000) only [EVS, EVL, Nat.reduceEqDiff, Nat.reduceAdd, reduceIte, XE.then, XE.out, h0, h1, h5, hlt]) ?_
      simp (maxSteps := 2000000) only [EVS, EVL, Nat.reduceEqDiff, Nat.reduceAdd, reduceIte, XE.then, XE.out, h0, h1, h5, hlt]
      refine TF.skip ?_
      simp (maxSteps := 2000000) only [EVS, EVL, Nat.reduceEqDiff, Nat.reduceAdd, reduceIte, XE.then, XE.out, h0, h1, h5, hlt]
      refine TF.seq ?_
      refine TF.block ?_
      refine TF.seq ?_
      refine TF.seq ?_
      have hx1 : l[i]? = some l[i] := List.getElem?_eq_getElem hlt
      have hm := List.getElem_mem hlt
      generalize l[i] = x at *
      obtain ⟨ub, uo, uc', ux, e1, _, hub, hcx, hdx, _⟩ := (W.gr g).rdT hu hx1
      cases e1
      obtain ⟨vb, vo, vc', vx, e2, _, hvb, hcy, hdy, _⟩ := (W.gr g).rdT hv hx1
      cases e2
      have hxa := cell_of hcx 1 rfl
      have hya := cell_of hcy 1 rfl
      obtain ⟨hk1, hk2⟩ := hok x hm
      obtain ⟨rv, w2, k1, rfl, g2⟩ := factors0 H x.facs hk1 hk2 (W.gr g).rs hdx hdy
      have gg := rs_gr g2 hlow
      have glow := g2.low
      have rl := rs_lw w1 hlow
      have rl2 := rs_lw (w2.lw w1.low) (gg.lowle hlow)
      refine TF.regD (call := oracle [(95, ⟨[ux, vx]⟩, w1.rs, .int .i64 0, w2)]) (by show 53 ≤ 1000000; decide) (by kernel_rfl) (oracle_ok _ (by simpa using k1)) ?_
      simp (maxSteps := 2000000) only [EVS, EVL, Nat.reduceEqDiff, Nat.reduceAdd, reduceIte, XE.then, XE.out, h0, h1, h5, hlt, hxa, hya, glow, rl, rl2]
      have g3 := g.trans gg
      have hlow3 := gg.lowle hlow
      replace hcx := gg.cells' hub hcx
      replace hcy := gg.cells' hvb hcy
      generalize hw3 : w2.lw w1.low = w3 at *
      refine TF.seq ?_
      refine TF.reg (call := oracle []) (by show 53 ≤ 1000000; decide) (by kernel_rfl) (oracle_ok _ (by simp)) ?_
      simp (maxSteps := 2000000) only [EVS, EVL, Nat.reduceEqDiff, Nat.reduceAdd, reduceIte, XE.then, XE.out, h0, h1, h5, hlt]
      refine TF.cond (t := false) rfl (by simp only [EVS]; simp) ?_
      simp (maxSteps := 2000000) only [EVS, EVL, Nat.reduceEqDiff, Nat.reduceAdd, reduceIte, XE.then, XE.out, h0, h1, h5, hlt]
      refine TF.skip ?_
      simp (maxSteps := 2000000) only [EVS, EVL, Nat.reduceEqDiff, Nat.reduceAdd, reduceIte, XE.then, XE.out, h0, h1, h5, hlt]
      refine TF.seq ?_
      have hxa := cell_of0 hcx rfl
      have hya := cell_of0 hcy rfl
      have k2 := number_ok x.coef x.coef w3.rs
      have rl3 := rs_lw w3 hlow3
      refine TF.regD (call := oracle [(96, #[.int .i64 x.coef, .int .i64 x.coef], w3.rs, .int .i64 (num x.coef x.coef), w3.rs)]) (by show 53 ≤ 1000000; decide) (by kernel_rfl) (oracle_ok _ (by simpa using k2)) ?_
      simp (maxSteps := 2000000) only [EVS, EVL, Nat.reduceEqDiff, Nat.reduceAdd, reduceIte, XE.then, XE.out, h0, h1, h5, hlt, hxa, hya, rl3, num_self]
      have g4 := g3
      have hlow4 := hlow3
      refine TF.seq ?_
      refine TF.reg (call := oracle []) (by show 53 ≤ 1000000; decide) (by kernel_rfl) (oracle_ok _ (by simp)) ?_
      simp (maxSteps := 2000000) only [EVS, EVL, Nat.reduceEqDiff, Nat.reduceAdd, reduceIte, XE.then, XE.out, h0, h1, h5, hlt]
      refine TF.cond (t := false) rfl (by simp only [EVS]; simp) ?_
      simp (maxSteps := 2000000) only [EVS, EVL, Nat.reduceEqDiff, Nat.reduceAdd, reduceIte, XE.then, XE.out, h0, h1, h5, hlt]
      refine TF.skip ?_
      simp (maxSteps := 2000000) only [EVS, EVL, Nat.reduceEqDiff, Nat.reduceAdd, reduceIte, XE.then, XE.out, h0, h1, h5, hlt]
      refine TF.reg (call := oracle []) (by show 53 ≤ 1000000; decide) (by kernel_rfl) (oracle_ok _ (by simp)) ?_
      simp (maxSteps := 2000000) only [EVS, EVL, Nat.reduceEqDiff, Nat.reduceAdd, reduceIte, XE.then, XE.out, h0, h1, h5, hlt, wr1 (Nat.lt_trans hlt hl)]
      refine ⟨⟨i + 1, by omega, (by simp (maxSteps := 2000000) only [EVS, EVL, Nat.reduceEqDiff, Nat.reduceAdd, reduceIte, XE.then, XE.out, h0, h1, h5, hlt, wr1 (Nat.lt_trans hlt hl)]), (by simp (maxSteps := 2000000) only [EVS, EVL, Nat.reduceEqDiff, Nat.reduceAdd, reduceIte, XE.then, XE.out, h0, h1, h5, hlt, wr1 (Nat.lt_trans hlt hl)]), (by simp (maxSteps := 2000000) only [EVS, EVL, Nat.reduceEqDiff, Nat.reduceAdd, reduceIte, XE.then, XE.out, h0, h1, h5, hlt, wr1 (Nat.lt_trans hlt hl)]), hlow4, g4⟩, ?_⟩
      simp only [EVS, h5, wr1 (Nat.lt_trans hlt hl), Nat.reduceEqDiff, if_true, if_false, reduceIte]; omega
    · have hc_hlt := hlt
      refine TF.reg (call := oracle []) (by show 53 ≤ 1000000; decide) (by kernel_rfl) (oracle_ok _ (by simp)) ?_
      simp (maxSteps := 2000000) only [EVS, EVL, Nat.reduceEqDiff, Nat.reduceAdd, reduceIte, XE.then, XE.out, h0, h1, h5, hlt]
      refine TF.cond (t := false) rfl (by simp (maxSteps := 2000000) only [EVS, EVL, Nat.reduceEqDiff, Nat.reduceAdd, reduceIte, XE.then, XE.out, h0, h1, h5, hlt]) ?_
      simp (maxSteps := 2000000) only [EVS, EVL, Nat.reduceEqDiff, Nat.reduceAdd, reduceIte, XE.then, XE.out, h0, h1, h5, hlt]
      refine TF.exit ?_
      simp (maxSteps := 2000000) only [EVS, EVL, Nat.reduceEqDiff, Nat.reduceAdd, reduceIte, XE.then, XE.out, h0, h1, h5, hlt]
      refine TF.seq ?_
      have kn := number_ok (l.length : Int) (l.length : Int) w1
      refine TF.reg (call := oracle [(96, ⟨[.int .i64 (l.length : Int), .int .i64 (l.length : Int)]⟩, w1, .int .i64 (num (l.length : Int) (l.length : Int)), w1)]) (by show 53 ≤ 1000000; decide) (by kernel_rfl) (oracle_ok _ (by simpa using kn)) ?_
      simp (maxSteps := 2000000) only [EVS, EVL, Nat.reduceEqDiff, Nat.reduceAdd, reduceIte, XE.then, XE.out, h0, h1, h5, hlt, num_self]
      refine TF.ret ?_
      try simp (maxSteps := 2000000) only [EVS, EVL, Nat.reduceEqDiff, Nat.reduceAdd, reduceIte, XE.then, XE.out, h0, h1, h5, hlt]
      exact g

theorem sameAnn (H : Same0 49 ok enc) (a : α) (ha : ok a) {Ψ : Psi} {w : AW} {u v : Value} (W : Wt Ψ w) (hu : Den Ψ u (enc a)) (hv : Den Ψ v (enc a)) : CallP 23 [u, v] w (fun r w' => r = .bool true ∧ Gr w w') := by
  obtain ⟨rv, w2, k1, rfl, g2⟩ := H a ha W hu hv
  refine CallP.of (t := 4) (args := [u, v]) Tryz.func23 rfl rfl (by simp) (by show _ ≤ 9; simp) ?_
  have a0 : argsE [u, v] 0 = u := rfl
  have a1 : argsE [u, v] 1 = v := rfl
  refine TF.seq ?_
  refine TF.reg (call := oracle []) (by show 9 ≤ 1000000; decide) (by kernel_rfl) (oracle_ok _ (by simp)) ?_
  simp (maxSteps := 2000000) only [EVS, EVL, Nat.reduceEqDiff, Nat.reduceAdd, reduceIte, XE.then, XE.out, a0, a1]
  refine TF.seq ?_
  refine TF.reg (call := oracle [(49, ⟨[u, v]⟩, w, .int .i64 0, w2)]) (by show 9 ≤ 1000000; decide) (by kernel_rfl) (oracle_ok _ (by simpa using k1)) ?_
  simp (maxSteps := 2000000) only [EVS, EVL, Nat.reduceEqDiff, Nat.reduceAdd, reduceIte, XE.then, XE.out, a0, a1]
  refine TF.ret ?_
  try simp (maxSteps := 2000000) only [EVS, EVL, Nat.reduceEqDiff, Nat.reduceAdd, reduceIte, XE.then, XE.out, a0, a1]
  exact g2

theorem sameItems (H : Same0 49 ok enc) (l : List (Val3 × α)) (hl : l.length < 4611686018427387904) (hok : ∀ p ∈ l, ok p.2) {Ψ : Psi} {w : AW} {u v : Value} (W : Wt Ψ w) (hu : Den Ψ u (lst (encI enc) l)) (hv : Den Ψ v (lst (encI enc) l)) : CallP 24 [u, v] w (fun r w' => r = .bool true ∧ Gr w w') := by
  obtain ⟨rv, w2, k1, rfl, g2⟩ := items0 H l hl hok W hu hv
  refine CallP.of (t := 4) (args := [u, v]) Tryz.func24 rfl rfl (by simp) (by show _ ≤ 9; simp) ?_
  have a0 : argsE [u, v] 0 = u := rfl
  have a1 : argsE [u, v] 1 = v := rfl
  refine TF.seq ?_
  refine TF.reg (call := oracle []) (by show 9 ≤ 1000000; decide) (by kernel_rfl) (oracle_ok _ (by simp)) ?_
  simp (maxSteps := 2000000) only [EVS, EVL, Nat.reduceEqDiff, Nat.reduceAdd, reduceIte, XE.then, XE.out, a0, a1]
  refine TF.seq ?_
  refine TF.reg (call := oracle [(50, ⟨[u, v]⟩, w, .int .i64 0, w2)]) (by show 9 ≤ 1000000; decide) (by kernel_rfl) (oracle_ok _ (by simpa using k1)) ?_
  simp (maxSteps := 2000000) only [EVS, EVL, Nat.reduceEqDiff, Nat.reduceAdd, reduceIte, XE.then, XE.out, a0, a1]
  refine TF.ret ?_
  try simp (maxSteps := 2000000) only [EVS, EVL, Nat.reduceEqDiff, Nat.reduceAdd, reduceIte, XE.then, XE.out, a0, a1]
  exact g2

theorem sameRow_ok (H : Same0 49 ok enc) (x : ARow α) (hl : x.vals.length < 4611686018427387904) (hs : x.sums.length < 4611686018427387904) (hi : ∀ s ∈ x.sums, s.2.length < 4611686018427387904) (ha : ok x.ann) (hok : ∀ s ∈ x.sums, ∀ p ∈ s.2, ok p.2) {Ψ : Psi} {w : AW} {u1 u2 u3 v1 v2 v3 : Value} (W : Wt Ψ w) (hu1 : Den Ψ u1 (lst encV x.vals)) (hu2 : Den Ψ u2 (lst (encSum enc) x.sums)) (hu3 : Den Ψ u3 (enc x.ann)) (hv1 : Den Ψ v1 (lst encV x.vals)) (hv2 : Den Ψ v2 (lst (encSum enc) x.sums)) (hv3 : Den Ψ v3 (enc x.ann)) : CallP 8 [.agg ⟨[u1, u2, u3]⟩, .agg ⟨[v1, v2, v3]⟩] w (fun r w' => r = .bool true ∧ Gr w w') := by
  obtain ⟨ua, uc, rfl⟩ := hu2.len
  obtain ⟨va, vc, rfl⟩ := hv2.len
  generalize hua : Value.slice ua x.sums.length uc = u2 at *
  generalize hva : Value.slice va x.sums.length vc = v2 at *
  obtain ⟨w1, w2, b1, b2, g1, g2, z1, z2, r1, r2⟩ := two_boxes 33 (.agg ⟨[u1, u2, u3]⟩) (.agg ⟨[v1, v2, v3]⟩) w
  obtain ⟨rv, w3, k3, g3, b, rfl, hb⟩ := same_ok x.vals x.vals hl (W.gr g2) hu1 hv1
  cases hb.2 rfl
  have g13 := g2.trans g3
  obtain ⟨rv, w4, k4, rfl, g4⟩ := sameAnn H x.ann ha (W.gr g13) hu3 hv3
  have g14 := g13.trans g4
  have r1a := (g3.same _ (show w.size < w2.size by omega)).trans r1
  have r2a := (g3.same _ (show w1.size < w2.size by omega)).trans r2
  have r1b := (g4.same _ (show w.size < w3.size by have := g3.size; omega)).trans r1a
  have r2b := (g4.same _ (show w1.size < w3.size by have := g3.size; omega)).trans r2a
  have c0 : w2.cell ⟨w.size, 0, none⟩ = some (u1) := by rw [cell_at r1]; rfl
  have c0' : w2.cell ⟨w1.size, 0, none⟩ = some (v1) := by rw [cell_at r2]; rfl
  have c2 : w3.cell ⟨w.size, 2, none⟩ = some (u3) := by rw [cell_at r1a]; rfl
  have c2' : w3.cell ⟨w1.size, 2, none⟩ = some (v3) := by rw [cell_at r2a]; rfl
  have c1 : w4.cell ⟨w.size, 1, none⟩ = some (u2) := by rw [cell_at r1b]; rfl
  have c1' : w4.cell ⟨w1.size, 1, none⟩ = some (v2) := by rw [cell_at r2b]; rfl
  refine CallP.of (t := 4) (args := [.agg ⟨[u1, u2, u3]⟩, .agg ⟨[v1, v2, v3]⟩]) Tryz.func8 rfl rfl (by simp) (by show _ ≤ 65; simp) ?_
  have a0 : argsE [.agg ⟨[u1, u2, u3]⟩, .agg ⟨[v1, v2, v3]⟩] 0 = .agg ⟨[u1, u2, u3]⟩ := rfl
  have a1 : argsE [.agg ⟨[u1, u2, u3]⟩, .agg ⟨[v1, v2, v3]⟩] 1 = .agg ⟨[v1, v2, v3]⟩ := rfl
  refine TF.seq ?_
  refine TF.reg (call := oracle []) (by show 65 ≤ 1000000; decide) (by kernel_rfl) (oracle_ok _ (by simp)) ?_
  simp (maxSteps := 2000000) only [EVS, EVL, Nat.reduceEqDiff, Nat.reduceAdd, reduceIte, XE.then, XE.out, b1, b2, c0, c0', c2, c2', c1, c1', a0, a1]
  refine TF.seq ?_
  refine TF.seq ?_
  rw [← hua] at c1
  rw [← hva] at c1'
  refine TF.reg (call := oracle [(22, ⟨[u1, v1]⟩, w2, .bool true, w3), (23, ⟨[u3, v3]⟩, w3, .bool true, w4)]) (by show 65 ≤ 1000000; decide) (by kernel_rfl) (oracle_ok _ (by simpa using ⟨k3, k4⟩)) ?_
  simp (maxSteps := 2000000) only [EVS, EVL, Nat.reduceEqDiff, Nat.reduceAdd, reduceIte, XE.then, XE.out, b1, b2, c0, c0', c2, c2', c1, c1', a0, a1, oracle_skip (show (23 : FuncId) ≠ 22 by decide), res_not, isBl_bool, notV_bool, Bool.not_true, bne_self_eq_false]
  refine TF.cond (t := false) rfl (by simp (maxSteps := 2000000) only [EVS, EVL, Nat.reduceEqDiff, Nat.reduceAdd, reduceIte, XE.then, XE.out, b1, b2, c0, c0', c2, c2', c1, c1', a0, a1]) ?_
  simp (maxSteps := 2000000) only [EVS, EVL, Nat.reduceEqDiff, Nat.reduceAdd, reduceIte, XE.then, XE.out, b1, b2, c0, c0', c2, c2', c1, c1', a0, a1]
  refine TF.skip ?_
  simp (maxSteps := 2000000) only [EVS, EVL, Nat.reduceEqDiff, Nat.reduceAdd, reduceIte, XE.then, XE.out, b1, b2, c0, c0', c2, c2', c1, c1', a0, a1]
  refine TF.seq ?_
  refine TF.seq ?_
  refine TF.reg (call := oracle []) (by show 65 ≤ 1000000; decide) (by kernel_rfl) (oracle_ok _ (by simp)) ?_
  simp (maxSteps := 2000000) only [EVS, EVL, Nat.reduceEqDiff, Nat.reduceAdd, reduceIte, XE.then, XE.out, b1, b2, c0, c0', c2, c2', c1, c1', a0, a1]
  refine TF.block ?_
  generalize hw0 : w = w0 at *
  refine TF.loopH (fun e w => ∃ i : Nat, i ≤ x.sums.length ∧ e 2 = .pointer (some ⟨w0.size, 0, none⟩) ∧ e 3 = .pointer (some ⟨w1.size, 0, none⟩) ∧ e 5 = .int .i64 i ∧ w.low ≤ w.size ∧ Gr w4 w) (fun e w => x.sums.length - natOf (e 5)) ?_ ?_
  · exact ⟨0, Nat.zero_le _, (by simp (maxSteps := 2000000) only [EVS, EVL, Nat.reduceEqDiff, Nat.reduceAdd, reduceIte, XE.then, XE.out, b1, b2, c0, c0', c2, c2', c1, c1', a0, a1]), (by simp (maxSteps := 2000000) only [EVS, EVL, Nat.reduceEqDiff, Nat.reduceAdd, reduceIte, XE.then, XE.out, b1, b2, c0, c0', c2, c2', c1, c1', a0, a1]), rfl, (W.gr g14).low, Gr.refl _⟩
  · rintro e w5 ⟨i, hi1, h2, h3, h5, hlow5, g5⟩
    have s4 := g4.size
    have s3 := g3.size
    have s5 := g5.size
    have r15 := (g5.same _ (show w0.size < w4.size by omega)).trans r1b
    have r25 := (g5.same _ (show w1.size < w4.size by omega)).trans r2b
    have e1 : w5.cell ⟨w0.size, 1, none⟩ = some (u2) := by rw [cell_at r15]; rfl
    have e1' : w5.cell ⟨w1.size, 1, none⟩ = some (v2) := by rw [cell_at r25]; rfl
    rw [← hua] at e1
    rw [← hva] at e1'
    refine TF.seq ?_
    refine TF.seq ?_
    refine TF.reg (call := oracle []) (by show 65 ≤ 1000000; decide) (by kernel_rfl) (oracle_ok _ (by simp)) ?_
    simp (maxSteps := 2000000) only [EVS, EVL, Nat.reduceEqDiff, Nat.reduceAdd, reduceIte, XE.then, XE.out, h2, h3, h5, e1, e1']
    by_cases hlt : i < x.sums.length
    · have hc_hlt := hlt
      refine TF.cond (t := true) rfl (by simp (maxSteps := 2000000) only [EVS, EVL, Nat.reduceEqDiff, Nat.reduceAdd, reduceIte, XE.then, XE.out, h2, h3, h5, e1, e1', hlt]) ?_
      simp (maxSteps := 2000000) only [EVS, EVL, Nat.reduceEqDiff, Nat.reduceAdd, reduceIte, XE.then, XE.out, h2, h3, h5, e1, e1', hlt]
      refine TF.skip ?_
      simp (maxSteps := 2000000) only [EVS, EVL, Nat.reduceEqDiff, Nat.reduceAdd, reduceIte, XE.then, XE.out, h2, h3, h5, e1, e1', hlt]
      refine TF.seq ?_
      refine TF.block ?_
      refine TF.seq ?_
      have hx1 : x.sums[i]? = some x.sums[i] := List.getElem?_eq_getElem hlt
      have hm := List.getElem_mem hlt
      generalize x.sums[i] = y at *
      have W5 := (W.gr g14).gr g5
      obtain ⟨ub, uo, uc', ux, q1, _, hub, hcx, hdx, _⟩ := W5.rdSum hu2 hx1
      rw [← hua] at q1
      cases q1
      obtain ⟨vb, vo, vc', vx, q2, _, hvb, hcy, hdy, _⟩ := W5.rdSum hv2 hx1
      rw [← hva] at q2
      cases q2
      have hcx0 := cell_of0 hcx rfl
      have hcy0 := cell_of0 hcy rfl
      have hcx1 := cell_of hcx 1 rfl
      have hcy1 := cell_of hcy 1 rfl
      obtain ⟨rv, w6, k6, rfl, g6⟩ := sameItems H y.2 (hi y hm) (hok y hm) W5.rs hdx hdy
      have gg := rs_gr g6 hlow5
      have glow := g6.low
      have rl := rs_lw w5 hlow5
      have rl2 := rs_lw (w6.lw w5.low) (gg.lowle hlow5)
      refine TF.regD (call := oracle [(24, ⟨[ux, vx]⟩, w5.rs, .bool true, w6)]) (by show 65 ≤ 1000000; decide) (by kernel_rfl) (oracle_ok _ (by simpa using k6)) ?_
      simp (maxSteps := 2000000) only [EVS, EVL, Nat.reduceEqDiff, Nat.reduceAdd, reduceIte, XE.then, XE.out, h2, h3, h5, e1, e1', hlt, hcx0, hcy0, hcx1, hcy1, glow, rl, rl2, res_not, isBl_bool, notV_bool, Bool.not_true, bne_self_eq_false]
      have hlow6 := gg.lowle hlow5
      refine TF.cond (t := false) rfl (by rfl) ?_
      simp (maxSteps := 2000000) only [EVS, EVL, Nat.reduceEqDiff, Nat.reduceAdd, reduceIte, XE.then, XE.out, h2, h3, h5, e1, e1', hlt]
      refine TF.skip ?_
      simp (maxSteps := 2000000) only [EVS, EVL, Nat.reduceEqDiff, Nat.reduceAdd, reduceIte, XE.then, XE.out, h2, h3, h5, e1, e1', hlt]
      refine TF.reg (call := oracle []) (by show 65 ≤ 1000000; decide) (by kernel_rfl) (oracle_ok _ (by simp)) ?_
      simp (maxSteps := 2000000) only [EVS, EVL, Nat.reduceEqDiff, Nat.reduceAdd, reduceIte, XE.then, XE.out, h2, h3, h5, e1, e1', hlt, wr1 (Nat.lt_trans hlt hs)]
      refine ⟨⟨i + 1, by omega, (by simp (maxSteps := 2000000) only [EVS, EVL, Nat.reduceEqDiff, Nat.reduceAdd, reduceIte, XE.then, XE.out, h2, h3, h5, e1, e1', hlt, wr1 (Nat.lt_trans hlt hs)]), (by simp (maxSteps := 2000000) only [EVS, EVL, Nat.reduceEqDiff, Nat.reduceAdd, reduceIte, XE.then, XE.out, h2, h3, h5, e1, e1', hlt, wr1 (Nat.lt_trans hlt hs)]), (by simp (maxSteps := 2000000) only [EVS, EVL, Nat.reduceEqDiff, Nat.reduceAdd, reduceIte, XE.then, XE.out, h2, h3, h5, e1, e1', hlt, wr1 (Nat.lt_trans hlt hs)]), hlow6, g5.trans gg⟩, ?_⟩
      simp only [EVS, h5, wr1 (Nat.lt_trans hlt hs), Nat.reduceEqDiff, if_true, if_false, reduceIte]; omega
    · have hc_hlt := hlt
      refine TF.cond (t := false) rfl (by simp (maxSteps := 2000000) only [EVS, EVL, Nat.reduceEqDiff, Nat.reduceAdd, reduceIte, XE.then, XE.out, h2, h3, h5, e1, e1', hlt]) ?_
      simp (maxSteps := 2000000) only [EVS, EVL, Nat.reduceEqDiff, Nat.reduceAdd, reduceIte, XE.then, XE.out, h2, h3, h5, e1, e1', hlt]
      refine TF.exit ?_
      simp (maxSteps := 2000000) only [EVS, EVL, Nat.reduceEqDiff, Nat.reduceAdd, reduceIte, XE.then, XE.out, h2, h3, h5, e1, e1', hlt]
      refine TF.seq ?_
      refine TF.reg (call := oracle []) (by show 65 ≤ 1000000; decide) (by kernel_rfl) (oracle_ok _ (by simp)) ?_
      simp (maxSteps := 2000000) only [EVS, EVL, Nat.reduceEqDiff, Nat.reduceAdd, reduceIte, XE.then, XE.out, h2, h3, h5, e1, e1', hlt]
      refine TF.ret ?_
      try simp (maxSteps := 2000000) only [EVS, EVL, Nat.reduceEqDiff, Nat.reduceAdd, reduceIte, XE.then, XE.out, h2, h3, h5, e1, e1', hlt]
      exact g14.trans g5


def okF (B : Nat) (ok : α → Prop) (x : Fac α) : Prop := x.args.length ≤ B ∧ x.items.length ≤ B ∧ (∀ a ∈ x.args, ok a) ∧ ∀ p ∈ x.items, ok p.2
def okT (B : Nat) (ok : α → Prop) (t : Term α) : Prop := t.facs.length ≤ B ∧ ∀ f ∈ t.facs, okF B ok f
def okD (B : Nat) (ok : α → Prop) (d : List (Term α)) : Prop := d.length ≤ B ∧ ∀ t ∈ d, okT B ok t
end
def okA (B : Nat) : (n : Nat) → DA n → Prop
  | 0, x => nomatch x
  | n + 1, d => okD B (okA B n) d
theorem cmpA0 (B : Nat) (hB : B < 4611686018427387904) : ∀ n, Same0 49 (okA B n) (encA n)
  | 0 => fun a => nomatch a
  | n + 1 => fun d hd _ _ _ _ W hu hv => ann0 (cmpA0 B hB n) d (Nat.lt_of_le_of_lt hd.1 hB) (fun t ht => ⟨Nat.lt_of_le_of_lt (hd.2 t ht).1 hB, fun x hx => ⟨Nat.lt_of_le_of_lt ((hd.2 t ht).2 x hx).1 hB, Nat.lt_of_le_of_lt ((hd.2 t ht).2 x hx).2.1 hB, ((hd.2 t ht).2 x hx).2.2⟩⟩) W hu hv

end Go.Proofs.YtkjbbbjebidniaaGreatDoor
