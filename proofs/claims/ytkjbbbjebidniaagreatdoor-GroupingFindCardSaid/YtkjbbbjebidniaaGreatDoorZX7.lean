/- Find: rows by their values. -/
import Derived.Test.YtkjbbbjebidniaaGreatDoorZX6
namespace Go.Proofs.YtkjbbbjebidniaaGreatDoor
open Go Go.RowKit
set_option linter.unusedSimpArgs false
set_option linter.unusedVariables false
set_option maxRecDepth 100000

/-- A call of a function value. -/
noncomputable def callV (P : Program) (call : CallA) (v : Value) (args : Array Value) (w : AW) : Rs (Value × AW) :=
  match v with
  | .func (.func g) first captured => match o_fun P g (first ++ args ++ captured) w with
    | .ok (.value v, w) => .ok (v, w)
    | .ok (.enter f args, w) => call f args w
    | .error x => .error x
  | _ => .error [52]
theorem res_tmp {P : Program} {call : CallA} (d : Option Tmp) (ty : TypeId) (pos : String) (af : Array Edge) (g : Option (Nat × Bool)) (e : Env) (w : AW) (t : Tmp) (xs : Array Operand) (ts : Array TypeId) :
    resE P call ⟨d, .call ⟨.value (.tmp t), xs, ts⟩, ty, pos, af, g⟩ e w = callV P call (e t) (xs.map (evE e)) w := by
  rw [res_call _ _ _ _ _ _ _ _ rfl]; rfl
theorem callV_19 {call : CallA} (v c : Value) (w : AW) : callV Tryz.prog call (.func (.func 19) #[] #[c]) #[v] w = call 19 #[v, c] w := by
  unfold callV o_fun
  have hb : ∃ c, Tryz.f19.body = some c := ⟨_, rfl⟩
  obtain ⟨cc, hb⟩ := hb
  simp only [Tryz.func19, hb]
  rfl

theorem equal_ok (xs ys : List Val3) (hx : xs.length < 4611686018427387904) {Ψ : Psi} {w : AW} {u v : Value} (W : Wt Ψ w) (hu : Den Ψ u (lst encV xs)) (hv : Den Ψ v (lst encV ys)) : CallP 20 [u, v] w (fun r w' => w' = w ∧ ∃ b, r = .bool b ∧ (b = true ↔ xs = ys)) := by
  obtain ⟨ua, uc, rfl⟩ := hu.len
  obtain ⟨va, vc, rfl⟩ := hv.len
  have rl := rs_lw w W.low
  refine CallP.of (t := 4) (args := [.slice ua xs.length uc, .slice va ys.length vc]) Tryz.func20 rfl rfl (by simp) (by show _ ≤ 26; simp) ?_
  have a0 : argsE [.slice ua xs.length uc, .slice va ys.length vc] 0 = .slice ua xs.length uc := rfl
  have a1 : argsE [.slice ua xs.length uc, .slice va ys.length vc] 1 = .slice va ys.length vc := rfl
  refine TF.seq ?_
  refine TF.reg (call := oracle []) (by show 26 ≤ 1000000; decide) (by kernel_rfl) (oracle_ok _ (by simp)) ?_
  simp only [EVS, EVL, Nat.reduceEqDiff, Nat.reduceAdd, reduceIte, XE.then, XE.out, a0, a1]
  refine TF.seq ?_
  refine TF.seq ?_
  refine TF.reg (call := oracle []) (by show 26 ≤ 1000000; decide) (by kernel_rfl) (oracle_ok _ (by simp)) ?_
  simp only [EVS, EVL, Nat.reduceEqDiff, Nat.reduceAdd, reduceIte, XE.then, XE.out, a0, a1]
  by_cases hl : xs.length = ys.length
  · have hc_hl := hl
    refine TF.cond (t := false) rfl (by simp only [EVS]; simp [hl] <;> omega) ?_
    simp only [EVS, EVL, Nat.reduceEqDiff, Nat.reduceAdd, reduceIte, XE.then, XE.out, a0, a1]
    refine TF.skip ?_
    simp only [EVS, EVL, Nat.reduceEqDiff, Nat.reduceAdd, reduceIte, XE.then, XE.out, a0, a1]
    refine TF.seq ?_
    refine TF.seq ?_
    refine TF.reg (call := oracle []) (by show 26 ≤ 1000000; decide) (by kernel_rfl) (oracle_ok _ (by simp)) ?_
    simp only [EVS, EVL, Nat.reduceEqDiff, Nat.reduceAdd, reduceIte, XE.then, XE.out, a0, a1]
    refine TF.block ?_
    generalize hW0 : w = W0 at *
    refine TF.loopH (fun e w => ∃ i : Nat, i ≤ xs.length ∧ e 0 = .slice ua xs.length uc ∧ e 1 = .slice va ys.length vc ∧ e 12 = .int .i64 (xs.length : Int) ∧ e 13 = .int .i64 i ∧ xs.take i = ys.take i ∧ w = W0) (fun e w => xs.length - natOf (e 13)) ?_ ?_
    · exact ⟨0, Nat.zero_le _, a0, a1, (by simp only [EVS, EVL, Nat.reduceEqDiff, Nat.reduceAdd, reduceIte, XE.then, XE.out, a0, a1]), rfl, rfl, rfl⟩
    · rintro e w1 ⟨i, hi1, h0, h1, h12, h13, htk, rfl⟩
      refine TF.seq ?_
      refine TF.reg (call := oracle []) (by show 26 ≤ 1000000; decide) (by kernel_rfl) (oracle_ok _ (by simp)) ?_
      simp only [EVS, EVL, Nat.reduceEqDiff, Nat.reduceAdd, reduceIte, XE.then, XE.out, h0, h1, h12, h13]
      refine TF.seq ?_
      by_cases hlt : i < xs.length
      · have hc_hlt := hlt
        refine TF.cond (t := true) rfl (by simp only [EVS, EVL, Nat.reduceEqDiff, Nat.reduceAdd, reduceIte, XE.then, XE.out, h0, h1, h12, h13, hlt]) ?_
        simp only [EVS, EVL, Nat.reduceEqDiff, Nat.reduceAdd, reduceIte, XE.then, XE.out, h0, h1, h12, h13, hlt]
        refine TF.skip ?_
        simp only [EVS, EVL, Nat.reduceEqDiff, Nat.reduceAdd, reduceIte, XE.then, XE.out, h0, h1, h12, h13, hlt]
        refine TF.seq ?_
        refine TF.block ?_
        refine TF.seq ?_
        refine TF.reg (call := oracle []) (by show 26 ≤ 1000000; decide) (by kernel_rfl) (oracle_ok _ (by simp)) ?_
        simp only [EVS, EVL, Nat.reduceEqDiff, Nat.reduceAdd, reduceIte, XE.then, XE.out, h0, h1, h12, h13, hlt]
        refine TF.seq ?_
        have hx1 : xs[i]? = some xs[i] := List.getElem?_eq_getElem hlt
        have hy1 : ys[i]? = some (ys[i]'(by omega)) := List.getElem?_eq_getElem (by omega)
        generalize xs[i] = x at *
        generalize ys[i]'_ = y at *
        obtain ⟨ub, uo, uc', e1, _, _, hcx⟩ := W.rdV hu hx1
        cases e1
        obtain ⟨vb, vo, vc', e2, _, _, hcy⟩ := W.rdV hv hy1
        cases e2
        have hlt2 : i < ys.length := by omega
        refine TF.regD (call := oracle []) (by show 26 ≤ 1000000; decide) (by kernel_rfl) (oracle_ok _ (by simp)) ?_
        simp only [EVS, EVL, Nat.reduceEqDiff, Nat.reduceAdd, reduceIte, XE.then, XE.out, h0, h1, h12, h13, hlt, hcx, hcy, rl, bin_vneq, hlt2]
        by_cases hq : vEq x y = true
        · have hc_hq := hq
          refine TF.cond (t := false) rfl (by simp only [EVS, EVL, Nat.reduceEqDiff, Nat.reduceAdd, reduceIte, XE.then, XE.out, h0, h1, h12, h13, hlt, hq, Bool.not_eq_true]) ?_
          simp only [EVS, EVL, Nat.reduceEqDiff, Nat.reduceAdd, reduceIte, XE.then, XE.out, h0, h1, h12, h13, hlt, hq]
          refine TF.skip ?_
          simp only [EVS, EVL, Nat.reduceEqDiff, Nat.reduceAdd, reduceIte, XE.then, XE.out, h0, h1, h12, h13, hlt, hq]
          refine TF.reg (call := oracle []) (by show 26 ≤ 1000000; decide) (by kernel_rfl) (oracle_ok _ (by simp)) ?_
          simp only [EVS, EVL, Nat.reduceEqDiff, Nat.reduceAdd, reduceIte, XE.then, XE.out, h0, h1, h12, h13, hlt, hq, wr1 (Nat.lt_trans hlt hx)]
          refine ⟨⟨i + 1, by omega, (by simp only [EVS, EVL, Nat.reduceEqDiff, Nat.reduceAdd, reduceIte, XE.then, XE.out, h0, h1, h12, h13, hlt, hq, wr1 (Nat.lt_trans hlt hx)]), (by simp only [EVS, EVL, Nat.reduceEqDiff, Nat.reduceAdd, reduceIte, XE.then, XE.out, h0, h1, h12, h13, hlt, hq, wr1 (Nat.lt_trans hlt hx)]), (by simp only [EVS, EVL, Nat.reduceEqDiff, Nat.reduceAdd, reduceIte, XE.then, XE.out, h0, h1, h12, h13, hlt, hq, wr1 (Nat.lt_trans hlt hx)]), (by simp only [EVS, EVL, Nat.reduceEqDiff, Nat.reduceAdd, reduceIte, XE.then, XE.out, h0, h1, h12, h13, hlt, hq, wr1 (Nat.lt_trans hlt hx)]), take_step htk hx1 (by rw [hy1, (vEq_iff _ _).1 hq]), (by simp only [EVS, EVL, Nat.reduceEqDiff, Nat.reduceAdd, reduceIte, XE.then, XE.out, h0, h1, h12, h13, hlt, hq, wr1 (Nat.lt_trans hlt hx)])⟩, ?_⟩
          simp only [EVS, h13, wr1 (Nat.lt_trans hlt hx), Nat.reduceEqDiff, if_true, if_false, reduceIte]; omega
        · have hc_hq := hq
          rw [Bool.not_eq_true] at hq
          refine TF.cond (t := true) rfl (by simp only [EVS, EVL, Nat.reduceEqDiff, Nat.reduceAdd, reduceIte, XE.then, XE.out, h0, h1, h12, h13, hlt, hq, Bool.not_eq_true]) ?_
          simp only [EVS, EVL, Nat.reduceEqDiff, Nat.reduceAdd, reduceIte, XE.then, XE.out, h0, h1, h12, h13, hlt, hq]
          refine TF.seq ?_
          refine TF.reg (call := oracle []) (by show 26 ≤ 1000000; decide) (by kernel_rfl) (oracle_ok _ (by simp)) ?_
          simp only [EVS, EVL, Nat.reduceEqDiff, Nat.reduceAdd, reduceIte, XE.then, XE.out, h0, h1, h12, h13, hlt, hq]
          refine TF.ret ?_
          simp only [EVS, EVL, Nat.reduceEqDiff, Nat.reduceAdd, reduceIte, XE.then, XE.out, h0, h1, h12, h13, hlt, hq]
          exact ⟨false, rfl, fun h => (by cases h), fun h => by rw [h, hy1] at hx1; cases hx1; rw [(vEq_iff _ _).2 rfl] at hq; cases hq⟩
      · have hc_hlt := hlt
        refine TF.cond (t := false) rfl (by simp only [EVS, EVL, Nat.reduceEqDiff, Nat.reduceAdd, reduceIte, XE.then, XE.out, h0, h1, h12, h13, hlt]) ?_
        simp only [EVS, EVL, Nat.reduceEqDiff, Nat.reduceAdd, reduceIte, XE.then, XE.out, h0, h1, h12, h13, hlt]
        refine TF.exit ?_
        simp only [EVS, EVL, Nat.reduceEqDiff, Nat.reduceAdd, reduceIte, XE.then, XE.out, h0, h1, h12, h13, hlt]
        refine TF.seq ?_
        refine TF.reg (call := oracle []) (by show 26 ≤ 1000000; decide) (by kernel_rfl) (oracle_ok _ (by simp)) ?_
        simp only [EVS, EVL, Nat.reduceEqDiff, Nat.reduceAdd, reduceIte, XE.then, XE.out, h0, h1, h12, h13, hlt]
        refine TF.ret ?_
        simp only [EVS, EVL, Nat.reduceEqDiff, Nat.reduceAdd, reduceIte, XE.then, XE.out, h0, h1, h12, h13, hlt]
        exact ⟨true, rfl, fun _ => by rw [List.take_of_length_le (by omega), List.take_of_length_le (by omega)] at htk; exact htk, fun _ => rfl⟩
  · have hc_hl := hl
    refine TF.cond (t := true) rfl (by simp only [EVS]; simp [hl] <;> omega) ?_
    simp only [EVS, EVL, Nat.reduceEqDiff, Nat.reduceAdd, reduceIte, XE.then, XE.out, a0, a1]
    refine TF.seq ?_
    refine TF.reg (call := oracle []) (by show 26 ≤ 1000000; decide) (by kernel_rfl) (oracle_ok _ (by simp)) ?_
    simp only [EVS, EVL, Nat.reduceEqDiff, Nat.reduceAdd, reduceIte, XE.then, XE.out, a0, a1]
    refine TF.ret ?_
    simp only [EVS, EVL, Nat.reduceEqDiff, Nat.reduceAdd, reduceIte, XE.then, XE.out, a0, a1]
    exact ⟨false, rfl, fun h => (by cases h), fun h => absurd (congrArg List.length h) hl⟩


end Go.Proofs.YtkjbbbjebidniaaGreatDoor
