/- Find: slice expressions, clear; slices.Compact. -/
import Derived.Test.YtkjbbbjebidniaaGreatDoorZW1
import Derived.Test.YtkjbbbjebidniaaGreatDoorZS2
namespace Go.Proofs.YtkjbbbjebidniaaGreatDoor
open Go Go.RowKit
set_option linter.unusedSimpArgs false
set_option linter.unusedVariables false
set_option maxRecDepth 100000
set_option maxHeartbeats 4000000

def ev2 (vx vy : Value) : Operand → Value
  | .tmp 0 => vx
  | .tmp 1 => vy
  | _ => undef
section
variable {P : Program} {call : CallA} (d : Option Tmp) (ty : TypeId) (pos : String) (af : Array Edge) (g : Option (Nat × Bool)) (e : Env) (w : AW)
theorem res_clear (xs : Array Operand) (ts : Array TypeId) : resE P call ⟨d, .call ⟨.builtin .clear, xs, ts⟩, ty, pos, af, g⟩ e w = clearA P ts (xs.map (evE e)) w := by
  rw [res_call _ _ _ _ _ _ _ _ rfl]; rfl
theorem flatV_slice (a : Addr) (n c : Nat) : flatV (.slice (some a) n c) = false := rfl
/-- x[y:] -/
noncomputable def slLoW (P : Program) (t : TypeId) (vx vy : Value) (w : AW) : Option (Value × AW) := (sliceC P (ev2 vx vy) t (.tmp 0) (some (.tmp 1)) none none w).map (·, w)
/-- x[:y] -/
noncomputable def slHiW (P : Program) (t : TypeId) (vx vy : Value) (w : AW) : Option (Value × AW) := (sliceC P (ev2 vx vy) t (.tmp 0) none (some (.tmp 1)) none w).map (·, w)
theorem res_slLo (t : TypeId) (x y : Operand) (hx : flatV (evE e x) = false) : resE P call ⟨d, .slice t x (some y) none none, ty, pos, af, g⟩ e w = memR (slLoW P t (evE e x) (evE e y) w) := by
  rw [res_mem _ _ _ rfl (fun c h => by cases h)]
  change memR (m_slice P (evE e) ⟨d, .slice t x (some y) none none, ty, pos, af, g⟩ t x (some y) none none w) = _
  unfold m_slice
  have h2 : (Op.slice t x (some y) none none).operands.all (fun z => flatV (evE e z)) = false := by
    rw [Array.all_eq_false]
    exact ⟨0, by simp [Op.operands], by simp [Op.operands, hx]⟩
  simp only [h2, cond_false]
  rfl
theorem res_slHi (t : TypeId) (x y : Operand) (hx : flatV (evE e x) = false) : resE P call ⟨d, .slice t x none (some y) none, ty, pos, af, g⟩ e w = memR (slHiW P t (evE e x) (evE e y) w) := by
  rw [res_mem _ _ _ rfl (fun c h => by cases h)]
  change memR (m_slice P (evE e) ⟨d, .slice t x none (some y) none, ty, pos, af, g⟩ t x none (some y) none w) = _
  unfold m_slice
  have h2 : (Op.slice t x none (some y) none).operands.all (fun z => flatV (evE e z)) = false := by
    rw [Array.all_eq_false]
    exact ⟨0, by simp [Op.operands], by simp [Op.operands, hx]⟩
  simp only [h2, cond_false]
  unfold slHiW
  congr 2
  unfold sliceC
  simp only [ev2, boundA]
  generalize P.underlying t = u
  generalize evE e x = vx
  generalize evE e y = vy
  cases u with
  | none => rfl
  | some u =>
    cases u <;> try rfl
    rename_i el
    cases vx <;> try rfl
    rename_i a n c
    cases a <;> try rfl
    dsimp only
    generalize P.info? el = inf
    cases inf <;> try rfl
    cases vy <;> try rfl
    rename_i k i
    simp only
    cases (decide (0 ≤ i) && decide (i ≤ (c : Int))) <;> rfl
end

theorem info_41 : ∃ i, Tryz.prog.info? 41 = some i ∧ i.size = 2 ∧ ∃ z, i.zero = some z ∧ z.cells = #[.int .i64 0, .int .i64 0] := by
  have h : (match Tryz.prog.info? 41 with | some i => Nat.beq i.size 2 && (match i.zero with | some z => (match z.cells with | ⟨[.int .i64 0, .int .i64 0]⟩ => true | _ => false) | none => false) | none => false) = true := by kernel_rfl
  split at h
  case h_2 => cases h
  rename_i i hi
  simp only [Bool.and_eq_true] at h
  obtain ⟨h1, h2⟩ := h
  split at h2
  case h_2 => cases h2
  rename_i z hz
  refine ⟨i, hi, Nat.eq_of_beq_eq_true h1, z, hz, ?_⟩
  split at h2
  · rename_i hc; exact hc
  · cases h2

/-- A row of pairs that may be cut. -/
def RowOk (w : AW) (b : Nat) (c : List Value) (k : Nat) : Prop := w.heap.get b = some (.row c 41 k) ∧ k ≤ 1

theorem slLo_ok {w : AW} {b o len cap i k : Nat} {c : List Value} (hg : RowOk w b c k) (hi : i ≤ len) (hc : len ≤ cap) :
    slLoW Tryz.prog 38 (.slice (some ⟨b, o, none⟩) len cap) (.int .i64 (i : Int)) w = some (.slice (some (bif Nat.beq cap i then ⟨b, o, none⟩ else ⟨b, o + i * 2, none⟩)) (len - i) (cap - i), w) := by
  obtain ⟨inf, hi41, hs, _⟩ := info_41
  unfold slLoW sliceC
  have hb1 : boundA (ev2 (.slice (some ⟨b, o, none⟩) len cap) (.int .i64 (i : Int))) cap cap none = some cap := rfl
  have hb2 : boundA (ev2 (.slice (some ⟨b, o, none⟩) len cap) (.int .i64 (i : Int))) cap len none = some len := rfl
  have hb3 : boundA (ev2 (.slice (some ⟨b, o, none⟩) len cap) (.int .i64 (i : Int))) len 0 (some (.tmp 1)) = some i := by
    show (bif decide (0 ≤ (i : Int)) && decide ((i : Int) ≤ len) then some (i : Int).toNat else none) = _
    simp [hi]
  simp only [un_38, ev2, hi41, hb1, hb2, hb3, Option.isSome_none, cond_false, sliceC.go, Nat.ble_eq_true_of_le hc, cond_true, hg.1]
  have hk := hg.2
  have h01 : k = 0 ∨ k = 1 := by omega
  rcases h01 with rfl | rfl
  · simp only [hs, Addr_add, Option.map_some]
  · simp only [hi41, hs, Nat.beq_refl, cond_true, Addr_add, Option.map_some]
theorem slHi_ok {w : AW} {b o len cap i k : Nat} {c : List Value} (hg : RowOk w b c k) (hi : i ≤ cap) :
    slHiW Tryz.prog 38 (.slice (some ⟨b, o, none⟩) len cap) (.int .i64 (i : Int)) w = some (.slice (some ⟨b, o, none⟩) i cap, w) := by
  obtain ⟨inf, hi41, hs, _⟩ := info_41
  unfold slHiW sliceC
  have hb1 : boundA (ev2 (.slice (some ⟨b, o, none⟩) len cap) (.int .i64 (i : Int))) cap cap none = some cap := rfl
  have hb2 : boundA (ev2 (.slice (some ⟨b, o, none⟩) len cap) (.int .i64 (i : Int))) cap len (some (.tmp 1)) = some i := by
    show (bif decide (0 ≤ (i : Int)) && decide ((i : Int) ≤ cap) then some (i : Int).toNat else none) = _
    simp [hi]
  have hb3 : ∀ x, boundA (ev2 (.slice (some ⟨b, o, none⟩) len cap) (.int .i64 (i : Int))) x 0 none = some 0 := fun _ => rfl
  have hadr : (bif Nat.beq cap 0 then (⟨b, o, none⟩ : Addr) else (⟨b, o, none⟩ : Addr).add (0 * 2)) = ⟨b, o, none⟩ := by
    cases Nat.beq cap 0 <;> rfl
  have hk := hg.2
  have h01 : k = 0 ∨ k = 1 := by omega
  simp only [un_38, ev2, hi41, hb1, hb2, hb3, sliceC.go, Nat.ble_eq_true_of_le hi, cond_true, hg.1]
  rcases h01 with rfl | rfl
  · simp only [hs, hadr, Nat.sub_zero, Option.map_some]
  · simp only [hi41, hs, Nat.beq_refl, cond_true, hadr, Nat.sub_zero, Option.map_some]

/-- clear of the rest of a row of pairs. -/
theorem clearW_ok {w : AW} {R k n kk cp : Nat} {c : List Value} (hg : RowOk w R c kk) (hc : c.length = n * 2) (hkn : k < n) :
    ∃ w1 zs, clearA Tryz.prog #[38] #[.slice (some ⟨R, k * 2, none⟩) (n - k) cp] w = .ok (.tuple #[], w1) ∧ zs.length = (n - k) * 2 ∧ zs.all oneC = true ∧ w1.size = w.size ∧ w1.low = (if w.low ≤ R then w.low else R) ∧ ∀ j, w1.heap.get j = if j = R then some (.row (c.take (k * 2) ++ zs) 41 kk) else w.heap.get j := by
  obtain ⟨inf, hi41, hs, z, hz, hzc⟩ := info_41
  have hl : (Builtin.zeroCells z.cells (n - k)).toList.length = (n - k) * 2 := by rw [hzc]; simp [Builtin.zeroCells]
  have hf : (Builtin.zeroCells z.cells (n - k)).toList.all flat1 = true := by
    rw [hzc, List.all_eq_true]
    intro v hv
    simp only [Builtin.zeroCells, Array.toList_map, List.mem_map] at hv
    obtain ⟨i, _, rfl⟩ := hv
    have : i % 2 = 0 ∨ i % 2 = 1 := by omega
    show flat1 ((#[.int .i64 0, .int .i64 0] : Array Value)[i % 2]!) = true
    rcases this with h | h <;> rw [h] <;> rfl
  have ho : (Builtin.zeroCells z.cells (n - k)).toList.all oneC = true := by
    rw [List.all_eq_true] at hf ⊢
    intro v hv
    have := hf v hv
    cases v <;> first | rfl | (simp [flat1] at this)
  generalize hzs : (Builtin.zeroCells z.cells (n - k)).toList = zs at *
  have hnk : Nat.beq (n - k) 0 = false := by
    cases h : Nat.beq (n - k) 0 with
    | false => rfl
    | true => have := Nat.eq_of_beq_eq_true h; omega
  have hov : overA c (k * 2) zs = some (c.take (k * 2) ++ zs) := by
    unfold overA
    rw [hl, hc, Nat.ble_eq_true_of_le (by omega)]
    simp only [cond_true]
    rw [List.drop_of_length_le (by omega), List.append_nil]
  obtain ⟨w1, hu⟩ := upd_some w R (.row (c.take (k * 2) ++ zs) 41 kk)
  obtain ⟨u1, u2, u3⟩ := upd_spec hu
  refine ⟨w1, zs, ?_, hl, ho, u1, ?_, u3⟩
  · unfold clearA
    simp only [List.getElem?_toArray, List.getElem?_cons_zero, un_38, hnk, cond_false, hi41, hz, hg.1, hzs, hf, Nat.ble_eq_true_of_le hg.2, Bool.and_self, cond_true, hov, hu]
  · unfold AW.upd at hu
    dsimp only at hu
    split at hu
    · cases hu
      show (bif Nat.ble w.low R then w.low else R) = _
      by_cases hb : w.low ≤ R
      · rw [if_pos hb, Nat.ble_eq_true_of_le hb]; rfl
      · rw [if_neg hb]
        cases hq : Nat.ble w.low R with
        | true => exact absurd (Nat.le_of_ble_eq_true hq) hb
        | false => rfl
    · cases hu

theorem flatP_take (l : List (Int × Int)) : ∀ i, (flatP l).take (i * 2) = flatP (l.take i) := by
  induction l with
  | nil => intro i; simp [flatP]
  | cons p l ih =>
    intro i
    cases i with
    | zero => simp [flatP]
    | succ i =>
      have e : flatP (p :: l) = .int .i64 p.1 :: .int .i64 p.2 :: flatP l := rfl
      have e2 : flatP (p :: l.take i) = .int .i64 p.1 :: .int .i64 p.2 :: flatP (l.take i) := rfl
      rw [List.take_succ_cons, e2, e, show (i + 1) * 2 = i * 2 + 1 + 1 by omega, List.take_succ_cons, List.take_succ_cons, ih i]
theorem flatP_drop (l : List (Int × Int)) : ∀ i, (flatP l).drop (i * 2) = flatP (l.drop i) := by
  induction l with
  | nil => intro i; simp [flatP]
  | cons p l ih =>
    intro i
    cases i with
    | zero => simp
    | succ i =>
      have e : flatP (p :: l) = .int .i64 p.1 :: .int .i64 p.2 :: flatP l := rfl
      rw [List.drop_succ_cons, e, show (i + 1) * 2 = i * 2 + 1 + 1 by omega, List.drop_succ_cons, List.drop_succ_cons, ih i]
theorem flatP_set {l : List (Int × Int)} {i : Nat} (h : i < l.length) (x : Int × Int) : (flatP l).take (i * 2) ++ cellsP x ++ (flatP l).drop (i * 2 + 2) = flatP (l.set i x) := by
  rw [flatP_take, show i * 2 + 2 = (i + 1) * 2 by omega, flatP_drop]
  rw [List.set_eq_take_append_cons_drop, if_pos h, flatP_append]
  have : flatP (x :: l.drop (i + 1)) = cellsP x ++ flatP (l.drop (i + 1)) := rfl
  rw [this, List.append_assoc]
theorem row_at {w : AW} {R k el : Nat} {l : List (Int × Int)} {rest : List Value} (hg : w.heap.get R = some (.row (flatP l ++ rest) el k)) {i : Nat} {p : Int × Int} (hp : l[i]? = some p) : w.cells ⟨R, i * 2, none⟩ 2 = some [.int .i64 p.1, .int .i64 p.2] := by
  have hlt := (List.getElem?_eq_some_iff.1 hp).1
  rw [cells_row hg _ _ (by rw [List.length_append, flatP_len]; omega)]
  rw [List.drop_append_of_le_length (by rw [flatP_len]; omega), flatP_drop]
  have hd : l.drop i = p :: l.drop (i + 1) := by
    rw [List.drop_eq_getElem_cons hlt]
    rw [List.getElem?_eq_getElem hlt] at hp; cases hp; rfl
  rw [hd]; rfl


theorem ss_push {a : List (Int × Int)} {q p : Int × Int} (h : SS a) (hq : a[a.length - 1]? = some q) (hlt : ltP q p) : SS (a ++ [p]) := by
  unfold SS at *
  rw [List.pairwise_append]
  refine ⟨h, by simp, fun x hx y hy => ?_⟩
  simp at hy; subst hy
  obtain ⟨i, hi, rfl⟩ := List.getElem_of_mem hx
  by_cases he : i = a.length - 1
  · subst he
    rw [List.getElem?_eq_getElem hi] at hq; cases hq; exact hlt
  · have hl : a.length - 1 < a.length := by omega
    have := List.pairwise_iff_getElem.1 h i (a.length - 1) hi hl (by omega)
    rw [List.getElem?_eq_getElem hl] at hq; cases hq
    exact ltP_tr this hlt
theorem ss_take {a : List (Int × Int)} (h : SS a) (i : Nat) : SS (a.take i) := h.sublist (List.take_sublist i a)
theorem take_last {l : List (Int × Int)} {i : Nat} (h1 : 1 ≤ i) (h2 : i ≤ l.length) {q : Int × Int} (hq : l[i - 1]? = some q) : (l.take i)[(l.take i).length - 1]? = some q := by
  rw [List.length_take, Nat.min_eq_left h2, List.getElem?_take_of_lt (by omega)]; exact hq
theorem mem_take_step {l : List (Int × Int)} {i : Nat} {x p : Int × Int} (h : l[i]? = some x) : p ∈ l.take (i + 1) ↔ p ∈ l.take i ∨ p = x := by
  rw [List.take_add_one, h]; simp
theorem mem_take_of {l : List (Int × Int)} {i j : Nat} {x : Int × Int} (h : l[i]? = some x) (hj : i < j) : x ∈ l.take j := by
  have : (l.take j)[i]? = some x := by rw [List.getElem?_take_of_lt hj]; exact h
  exact List.mem_of_getElem? this
theorem drop_get {a b : List (Int × Int)} {n i : Nat} (h : a.drop n = b.drop n) (hi : n ≤ i) : a[i]? = b[i]? := by
  have := congrArg (fun l => l[i - n]?) h
  simp only [List.getElem?_drop] at this
  rwa [show n + (i - n) = i by omega] at this
theorem drop_more {a b : List (Int × Int)} {n m : Nat} (h : a.drop n = b.drop n) (hm : n ≤ m) : a.drop m = b.drop m := by
  have := congrArg (fun l => l.drop (m - n)) h
  simp only [List.drop_drop] at this
  rwa [show n + (m - n) = m by omega] at this
theorem ss_of_short {l : List (Int × Int)} (h : l.length < 2) : SS l := by
  match l, h with
  | [], _ => exact List.Pairwise.nil
  | [a], _ => exact List.pairwise_singleton _ _
theorem sorted_lt {l : List (Int × Int)} (hs : l.Pairwise (fun x y => ¬ ltP y x)) {i : Nat} {p q : Int × Int} (hi : 1 ≤ i) (hp : l[i]? = some p) (hq : l[i - 1]? = some q) (hne : p ≠ q) : ltP q p := by
  obtain ⟨h1, rfl⟩ := List.getElem?_eq_some_iff.1 hp
  obtain ⟨h2, rfl⟩ := List.getElem?_eq_some_iff.1 hq
  have h3 := List.pairwise_iff_getElem.1 hs (i - 1) i h2 h1 (by omega)
  by_cases h : ltP l[i - 1] l[i]
  · exact h
  · exact absurd (ltP_tot h h3).symm hne

theorem compact_ok (l : List (Int × Int)) (hl : l.length ≤ 1000000) (hs : l.Pairwise (fun x y => ¬ ltP y x)) {w : AW} {R kk s0 : Nat} (hg : w.heap.get R = some (.row (flatP l) 41 kk)) (hk : kk ≤ 1) (hR : s0 ≤ R) (hRw : R < w.size) (hlow : w.low ≤ s0) : CallP 56 [.slice (some ⟨R, 0, none⟩) l.length l.length] w (fun r w' => GrS s0 w w' ∧ ∃ m c zs, r = .slice (some ⟨R, 0, none⟩) m.length c ∧ w'.heap.get R = some (.row (flatP m ++ zs) 41 kk) ∧ zs.all oneC = true ∧ SS m ∧ (∀ p, p ∈ m ↔ p ∈ l) ∧ m.length ≤ l.length ∧ R < w'.size) := by
  have hg0 : w.heap.get R = some (.row (flatP l ++ []) 41 kk) := by simpa using hg
  have hlw : w.low ≤ w.size := by omega
  refine CallP.of (t := 2) (args := [.slice (some ⟨R, 0, none⟩) l.length l.length]) Tryz.func56 rfl rfl (by simp) (by show _ ≤ 61; simp) ?_
  have a0 : argsE [.slice (some ⟨R, 0, none⟩) l.length l.length] 0 = .slice (some ⟨R, 0, none⟩) l.length l.length := rfl
  refine TF.seq ?_
  refine TF.reg (call := oracle []) (by show 61 ≤ 1000000; decide) (by kernel_rfl) (oracle_ok _ (by simp)) ?_
  simp (maxSteps := 2000000) only [EVS, EVL, Nat.reduceEqDiff, Nat.reduceAdd, reduceIte, XE.then, XE.out, a0]
  refine TF.seq ?_
  refine TF.seq ?_
  refine TF.reg (call := oracle []) (by show 61 ≤ 1000000; decide) (by kernel_rfl) (oracle_ok _ (by simp)) ?_
  simp (maxSteps := 2000000) only [EVS, EVL, Nat.reduceEqDiff, Nat.reduceAdd, reduceIte, XE.then, XE.out, a0]
  by_cases h2 : ((l.length : Nat) : Int) < 2
  · have hc_h2 := h2
    refine TF.cond (t := true) rfl (by simp (maxSteps := 2000000) only [EVS, EVL, Nat.reduceEqDiff, Nat.reduceAdd, reduceIte, XE.then, XE.out, a0, h2]) ?_
    simp (maxSteps := 2000000) only [EVS, EVL, Nat.reduceEqDiff, Nat.reduceAdd, reduceIte, XE.then, XE.out, a0, h2]
    refine TF.seq ?_
    refine TF.reg (call := oracle []) (by show 61 ≤ 1000000; decide) (by kernel_rfl) (oracle_ok _ (by simp)) ?_
    simp (maxSteps := 2000000) only [EVS, EVL, Nat.reduceEqDiff, Nat.reduceAdd, reduceIte, XE.then, XE.out, a0, h2]
    refine TF.ret ?_
    try simp (maxSteps := 2000000) only [EVS, EVL, Nat.reduceEqDiff, Nat.reduceAdd, reduceIte, XE.then, XE.out, a0, h2]
    exact ⟨GrS.refl _ _, l, l.length, [], rfl, hg0, rfl, ss_of_short (by omega), fun p => Iff.rfl, Nat.le_refl _, hRw⟩
  · have hc_h2 := h2
    refine TF.cond (t := false) rfl (by simp (maxSteps := 2000000) only [EVS, EVL, Nat.reduceEqDiff, Nat.reduceAdd, reduceIte, XE.then, XE.out, a0, h2]) ?_
    simp (maxSteps := 2000000) only [EVS, EVL, Nat.reduceEqDiff, Nat.reduceAdd, reduceIte, XE.then, XE.out, a0, h2]
    refine TF.skip ?_
    try simp (maxSteps := 2000000) only [EVS, EVL, Nat.reduceEqDiff, Nat.reduceAdd, reduceIte, XE.then, XE.out, a0, h2]
    refine TF.seq ?_
    refine TF.seq ?_
    refine TF.reg (call := oracle []) (by show 61 ≤ 1000000; decide) (by kernel_rfl) (oracle_ok _ (by simp)) ?_
    simp (maxSteps := 2000000) only [EVS, EVL, Nat.reduceEqDiff, Nat.reduceAdd, reduceIte, XE.then, XE.out, a0, h2]
    refine TF.block ?_
    generalize hW0 : w = W0 at *
    refine TF.loopH (fun e w => ∃ i : Nat, 1 ≤ i ∧ i ≤ l.length ∧ e 0 = .slice (some ⟨R, 0, none⟩) l.length l.length ∧ e 3 = .int .i64 (i : Int) ∧ SS (l.take i) ∧ w = W0) (fun e w => l.length - natOf (e 3)) ?_ ?_
    · exact ⟨1, Nat.le_refl _, by omega, a0, rfl, ss_of_short (by simp; omega), rfl⟩
    · rintro e w1 ⟨i, hi0, hi1, h0, h3, hss, rfl⟩
      refine TF.seq ?_
      refine TF.seq ?_
      refine TF.reg (call := oracle []) (by show 61 ≤ 1000000; decide) (by kernel_rfl) (oracle_ok _ (by simp)) ?_
      simp (maxSteps := 2000000) only [EVS, EVL, Nat.reduceEqDiff, Nat.reduceAdd, reduceIte, XE.then, XE.out, h0, h3]
      by_cases hlt : i < l.length
      · have hc_hlt := hlt
        refine TF.cond (t := true) rfl (by simp (maxSteps := 2000000) only [EVS, EVL, Nat.reduceEqDiff, Nat.reduceAdd, reduceIte, XE.then, XE.out, h0, h3, hlt]) ?_
        simp (maxSteps := 2000000) only [EVS, EVL, Nat.reduceEqDiff, Nat.reduceAdd, reduceIte, XE.then, XE.out, h0, h3, hlt]
        refine TF.skip ?_
        try simp (maxSteps := 2000000) only [EVS, EVL, Nat.reduceEqDiff, Nat.reduceAdd, reduceIte, XE.then, XE.out, h0, h3, hlt]
        refine TF.seq ?_
        refine TF.block ?_
        refine TF.seq ?_
        have hp : l[i]? = some l[i] := List.getElem?_eq_getElem hlt
        have hq : l[i - 1]? = some l[i - 1] := List.getElem?_eq_getElem (by omega)
        generalize l[i] = p at *
        generalize l[i - 1] = q at *
        have cp := row_at hg0 hp
        have cq := row_at hg0 hq
        have q1 := wrS1 hi0 (show i < 4611686018427387904 by omega)
        have rl := rs_lw w1 hlw
        have hi2 : i - 1 < l.length := by omega
        refine TF.regD (call := oracle []) (by show 61 ≤ 1000000; decide) (by kernel_rfl) (oracle_ok _ (by simp)) ?_
        simp (maxSteps := 2000000) only [EVS, EVL, Nat.reduceEqDiff, Nat.reduceAdd, reduceIte, XE.then, XE.out, h0, h3, hlt, cp, cq, q1, rl, bin_peql, ixV_at _ _ _ _ _ _ _ hlt, ixV_at _ _ _ _ _ _ _ hi2]
        by_cases heq : p = q
        · have hc_heq := heq
          have hpe : pEq p q = true := (pEq_iff p q).2 heq
          refine TF.cond (t := true) rfl (by simp only [EVS, hpe, if_true]) ?_
          simp (maxSteps := 2000000) only [EVS, EVL, Nat.reduceEqDiff, Nat.reduceAdd, reduceIte, XE.then, XE.out, h0, h3, hlt]
          refine TF.seq ?_
          have hne : Nat.beq l.length i = false := Bool.eq_false_iff.2 fun h => by have := Nat.eq_of_beq_eq_true h; omega
          have sl := slLo_ok (w := w1) (b := R) (o := 0) (len := l.length) (cap := l.length) (i := i) ⟨hg, hk⟩ hi1 (Nat.le_refl _)
          rw [hne, cond_false, Nat.zero_add] at sl
          refine TF.reg (call := oracle []) (by show 61 ≤ 1000000; decide) (by kernel_rfl) (oracle_ok _ (by simp)) ?_
          simp (maxSteps := 2000000) only [EVS, EVL, Nat.reduceEqDiff, Nat.reduceAdd, reduceIte, XE.then, XE.out, h0, h3, hlt, res_slLo, flatV_slice, sl]
          refine TF.seq ?_
          refine TF.seq ?_
          refine TF.reg (call := oracle []) (by show 61 ≤ 1000000; decide) (by kernel_rfl) (oracle_ok _ (by simp)) ?_
          simp (maxSteps := 2000000) only [EVS, EVL, Nat.reduceEqDiff, Nat.reduceAdd, reduceIte, XE.then, XE.out, h0, h3, hlt]
          refine TF.block ?_
          generalize hw0 : w1 = w0 at *
          refine TF.loopH (fun e w => ∃ (k k2 : Nat) (Lc : List (Int × Int)), e 0 = .slice (some ⟨R, 0, none⟩) l.length l.length ∧ e 3 = .int .i64 (k : Int) ∧ e 4 = .slice (some ⟨R, i * 2, none⟩) (l.length - i) (l.length - i) ∧ e 5 = .int .i64 (k2 : Int) ∧ 1 ≤ k ∧ k + 1 ≤ i + k2 ∧ 1 ≤ k2 ∧ k2 ≤ l.length - i ∧ Lc.length = l.length ∧ SS (Lc.take k) ∧ (∀ p, p ∈ Lc.take k ↔ p ∈ l.take (i + k2)) ∧ Lc.drop (i + k2 - 1) = l.drop (i + k2 - 1) ∧ Lc[k - 1]? = l[i + k2 - 1]? ∧ w.heap.get R = some (.row (flatP Lc ++ []) 41 kk) ∧ GrS s0 w0 w) (fun e w => l.length - natOf (e 5)) ?_ ?_
          · refine ⟨i, 1, l, (by simp (maxSteps := 2000000) only [EVS, EVL, Nat.reduceEqDiff, Nat.reduceAdd, reduceIte, XE.then, XE.out, h0, h3, hlt]), (by simp (maxSteps := 2000000) only [EVS, EVL, Nat.reduceEqDiff, Nat.reduceAdd, reduceIte, XE.then, XE.out, h0, h3, hlt]), (by simp (maxSteps := 2000000) only [EVS, EVL, Nat.reduceEqDiff, Nat.reduceAdd, reduceIte, XE.then, XE.out, h0, h3, hlt]), rfl, hi0, by omega, by omega, by omega, rfl, hss, fun p' => ?_, rfl, by rw [show i + 1 - 1 = i by omega, hp, hq, heq], hg0, GrS.refl _ _⟩
            rw [mem_take_step hp]; exact ⟨.inl, fun h => h.elim id fun h => by rw [h, heq]; exact mem_take_of hq (by omega)⟩
          · rintro e w2 ⟨k, k2, Lc, h0, h3, h4, h5, k1, k3, k4, k5, hLl, hLs, hLm, hLd, hLk, hgL, gS⟩
            have hlw2 : w2.low ≤ w2.size := gS.lowle hlw
            refine TF.seq ?_
            refine TF.seq ?_
            refine TF.reg (call := oracle []) (by show 61 ≤ 1000000; decide) (by kernel_rfl) (oracle_ok _ (by simp)) ?_
            simp (maxSteps := 2000000) only [EVS, EVL, Nat.reduceEqDiff, Nat.reduceAdd, reduceIte, XE.then, XE.out, h0, h3, hlt, h4, h5]
            by_cases hlt2 : k2 < l.length - i
            · have hc_hlt2 := hlt2
              refine TF.cond (t := true) rfl (by simp (maxSteps := 2000000) only [EVS, EVL, Nat.reduceEqDiff, Nat.reduceAdd, reduceIte, XE.then, XE.out, h0, h3, hlt, h4, h5, hlt2]) ?_
              simp (maxSteps := 2000000) only [EVS, EVL, Nat.reduceEqDiff, Nat.reduceAdd, reduceIte, XE.then, XE.out, h0, h3, hlt, h4, h5, hlt2]
              refine TF.skip ?_
              try simp (maxSteps := 2000000) only [EVS, EVL, Nat.reduceEqDiff, Nat.reduceAdd, reduceIte, XE.then, XE.out, h0, h3, hlt, h4, h5, hlt2]
              refine TF.seq ?_
              refine TF.block ?_
              refine TF.seq ?_
              have hx : l[i + k2]? = some l[i + k2] := List.getElem?_eq_getElem (by omega)
              have hy : l[i + k2 - 1]? = some l[i + k2 - 1] := List.getElem?_eq_getElem (by omega)
              generalize l[i + k2] = x at *
              generalize l[i + k2 - 1] = y at *
              have cx := row_at hgL ((drop_get hLd (by omega)).trans hx)
              have cy := row_at hgL ((drop_get hLd (Nat.le_refl _)).trans hy)
              rw [show (i + k2) * 2 = i * 2 + k2 * 2 by omega] at cx
              rw [show (i + k2 - 1) * 2 = i * 2 + (k2 - 1) * 2 by omega] at cy
              have q1 := wrS1 k4 (show k2 < 4611686018427387904 by omega)
              have rl := rs_lw w2 hlw2
              have hi2 : k2 - 1 < l.length - i := by omega
              refine TF.regD (call := oracle []) (by show 61 ≤ 1000000; decide) (by kernel_rfl) (oracle_ok _ (by simp)) ?_
              simp (maxSteps := 2000000) only [EVS, EVL, Nat.reduceEqDiff, Nat.reduceAdd, reduceIte, XE.then, XE.out, h0, h3, hlt, h4, h5, hlt2, cx, cy, q1, rl, bin_pneq, ixV_at _ _ _ _ _ _ _ hlt2, ixV_at _ _ _ _ _ _ _ hi2]
              by_cases hxy : x = y
              · have hc_hxy := hxy
                have hpe : pEq x y = true := (pEq_iff x y).2 hxy
                refine TF.cond (t := false) rfl (by simp only [EVS, hpe, if_true]; rfl) ?_
                simp (maxSteps := 2000000) only [EVS, EVL, Nat.reduceEqDiff, Nat.reduceAdd, reduceIte, XE.then, XE.out, h0, h3, hlt, h4, h5, hlt2]
                refine TF.skip ?_
                try simp (maxSteps := 2000000) only [EVS, EVL, Nat.reduceEqDiff, Nat.reduceAdd, reduceIte, XE.then, XE.out, h0, h3, hlt, h4, h5, hlt2]
                refine TF.reg (call := oracle []) (by show 61 ≤ 1000000; decide) (by kernel_rfl) (oracle_ok _ (by simp)) ?_
                simp (maxSteps := 2000000) only [EVS, EVL, Nat.reduceEqDiff, Nat.reduceAdd, reduceIte, XE.then, XE.out, h0, h3, hlt, h4, h5, hlt2, wr1 (show k2 < 4611686018427387904 by omega)]
                refine ⟨⟨k, k2 + 1, Lc, (by simp (maxSteps := 2000000) only [EVS, EVL, Nat.reduceEqDiff, Nat.reduceAdd, reduceIte, XE.then, XE.out, h0, h3, hlt, h4, h5, hlt2, wr1 (show k2 < 4611686018427387904 by omega), wr1 (show k < 4611686018427387904 by omega)]), (by simp (maxSteps := 2000000) only [EVS, EVL, Nat.reduceEqDiff, Nat.reduceAdd, reduceIte, XE.then, XE.out, h0, h3, hlt, h4, h5, hlt2, wr1 (show k2 < 4611686018427387904 by omega), wr1 (show k < 4611686018427387904 by omega)]), (by simp (maxSteps := 2000000) only [EVS, EVL, Nat.reduceEqDiff, Nat.reduceAdd, reduceIte, XE.then, XE.out, h0, h3, hlt, h4, h5, hlt2, wr1 (show k2 < 4611686018427387904 by omega), wr1 (show k < 4611686018427387904 by omega)]), (by simp (maxSteps := 2000000) only [EVS, EVL, Nat.reduceEqDiff, Nat.reduceAdd, reduceIte, XE.then, XE.out, h0, h3, hlt, h4, h5, hlt2, wr1 (show k2 < 4611686018427387904 by omega), wr1 (show k < 4611686018427387904 by omega)]), by omega, by omega, by omega, by omega, hLl, hLs, ?_, drop_more hLd (by omega), ?_, hgL, gS⟩, ?_⟩
                · intro p'; rw [hLm, show i + (k2 + 1) = (i + k2) + 1 by omega, mem_take_step hx]; exact ⟨.inl, fun h => h.elim id fun h => by rw [h, hxy]; exact mem_take_of hy (by omega)⟩
                · rw [hLk, hy, show i + (k2 + 1) - 1 = i + k2 by omega, hx, hxy]
                · simp only [EVS, h5, wr1 (show k2 < 4611686018427387904 by omega), Nat.reduceEqDiff, if_true, if_false, reduceIte]; omega
              · have hc_hxy := hxy
                have hpe : pEq x y = false := Bool.eq_false_iff.2 fun h => hxy ((pEq_iff x y).1 h)
                refine TF.cond (t := true) rfl (by simp only [EVS, hpe, if_true]; rfl) ?_
                simp (maxSteps := 2000000) only [EVS, EVL, Nat.reduceEqDiff, Nat.reduceAdd, reduceIte, XE.then, XE.out, h0, h3, hlt, h4, h5, hlt2]
                refine TF.seq ?_
                have hkl : k < l.length := by omega
                obtain ⟨w3, s1, s2, s3, s4⟩ := storeW_ok (t := 41) (n := 2) st_41 (b := R) (o := k * 2) (v := .agg ⟨[.int .i64 x.1, .int .i64 x.2]⟩) (l := cellsP x) rfl rfl rfl hgL hk (by rw [List.append_nil, flatP_len]; omega)
                have hset : (Lc.set k x).take (k + 1) = Lc.take k ++ [x] := by rw [List.take_add_one, List.getElem?_set_self (by omega), List.take_set_of_le (Nat.le_refl _)]; rfl
                have hg3 : w3.heap.get R = some (.row (flatP (Lc.set k x) ++ []) 41 kk) := by rw [s4, if_pos rfl, List.append_nil, List.append_nil, flatP_set (by omega)]
                have gS3 : GrS s0 w2 w3 := ⟨by rw [s3, if_pos (by rw [gS.low]; omega)], by omega, fun j hj => by rw [s4, if_neg (by omega)], fun b n hb hsh => by
      by_cases e : b = R
      · subst e; obtain ⟨c, el, k', p1, p2, p3⟩ := hsh; rw [hgL] at p1; cases p1; exact ⟨_, _, _, hg3, p2, by rw [List.append_nil, flatP_len] at p3; rw [List.append_nil, flatP_len, List.length_set]; exact p3⟩
      · obtain ⟨c, el, k', p1, p2, p3⟩ := hsh; exact ⟨c, el, k', by rw [s4, if_neg e]; exact p1, p2, p3⟩⟩
                refine TF.reg (call := oracle []) (by show 61 ≤ 1000000; decide) (by kernel_rfl) (oracle_ok _ (by simp)) ?_
                simp (maxSteps := 2000000) only [EVS, EVL, Nat.reduceEqDiff, Nat.reduceAdd, reduceIte, XE.then, XE.out, h0, h3, hlt, h4, h5, hlt2, cx, s1, ixV_at _ _ _ _ _ _ _ hlt2, ixV_at _ _ _ _ _ _ _ hkl]
                refine TF.reg (call := oracle []) (by show 61 ≤ 1000000; decide) (by kernel_rfl) (oracle_ok _ (by simp)) ?_
                simp (maxSteps := 2000000) only [EVS, EVL, Nat.reduceEqDiff, Nat.reduceAdd, reduceIte, XE.then, XE.out, h0, h3, hlt, h4, h5, hlt2, wr1 (show k < 4611686018427387904 by omega)]
                refine TF.reg (call := oracle []) (by show 61 ≤ 1000000; decide) (by kernel_rfl) (oracle_ok _ (by simp)) ?_
                simp (maxSteps := 2000000) only [EVS, EVL, Nat.reduceEqDiff, Nat.reduceAdd, reduceIte, XE.then, XE.out, h0, h3, hlt, h4, h5, hlt2, wr1 (show k2 < 4611686018427387904 by omega)]
                refine ⟨⟨k + 1, k2 + 1, Lc.set k x, (by simp (maxSteps := 2000000) only [EVS, EVL, Nat.reduceEqDiff, Nat.reduceAdd, reduceIte, XE.then, XE.out, h0, h3, hlt, h4, h5, hlt2, wr1 (show k2 < 4611686018427387904 by omega), wr1 (show k < 4611686018427387904 by omega)]), (by simp (maxSteps := 2000000) only [EVS, EVL, Nat.reduceEqDiff, Nat.reduceAdd, reduceIte, XE.then, XE.out, h0, h3, hlt, h4, h5, hlt2, wr1 (show k2 < 4611686018427387904 by omega), wr1 (show k < 4611686018427387904 by omega)]), (by simp (maxSteps := 2000000) only [EVS, EVL, Nat.reduceEqDiff, Nat.reduceAdd, reduceIte, XE.then, XE.out, h0, h3, hlt, h4, h5, hlt2, wr1 (show k2 < 4611686018427387904 by omega), wr1 (show k < 4611686018427387904 by omega)]), (by simp (maxSteps := 2000000) only [EVS, EVL, Nat.reduceEqDiff, Nat.reduceAdd, reduceIte, XE.then, XE.out, h0, h3, hlt, h4, h5, hlt2, wr1 (show k2 < 4611686018427387904 by omega), wr1 (show k < 4611686018427387904 by omega)]), by omega, by omega, by omega, by omega, by rw [List.length_set]; exact hLl, ?_, ?_, ?_, ?_, hg3, gS.trans gS3⟩, ?_⟩
                · rw [hset]; exact ss_push hLs (take_last k1 (by omega) (hLk.trans hy)) (sorted_lt hs (by omega) hx (by rw [show i + k2 - 1 = i + k2 - 1 from rfl]; exact hy) hxy)
                · intro p'; rw [hset, List.mem_append, hLm, show i + (k2 + 1) = (i + k2) + 1 by omega, mem_take_step hx]; simp
                · rw [List.drop_set, if_pos (by omega)]; exact drop_more hLd (by omega)
                · rw [show k + 1 - 1 = k by omega, List.getElem?_set_self (by omega), show i + (k2 + 1) - 1 = i + k2 by omega, hx]
                · simp only [EVS, h5, wr1 (show k2 < 4611686018427387904 by omega), Nat.reduceEqDiff, if_true, if_false, reduceIte]; omega
            · have hc_hlt2 := hlt2
              refine TF.cond (t := false) rfl (by simp (maxSteps := 2000000) only [EVS, EVL, Nat.reduceEqDiff, Nat.reduceAdd, reduceIte, XE.then, XE.out, h0, h3, hlt, h4, h5, hlt2]) ?_
              simp (maxSteps := 2000000) only [EVS, EVL, Nat.reduceEqDiff, Nat.reduceAdd, reduceIte, XE.then, XE.out, h0, h3, hlt, h4, h5, hlt2]
              refine TF.exit ?_
              simp (maxSteps := 2000000) only [EVS, EVL, Nat.reduceEqDiff, Nat.reduceAdd, reduceIte, XE.then, XE.out, h0, h3, hlt, h4, h5, hlt2]
              refine TF.seq ?_
              have hkl : k < l.length := by omega
              have hne2 : Nat.beq l.length k = false := Bool.eq_false_iff.2 fun h => by have := Nat.eq_of_beq_eq_true h; omega
              have sl2 := slLo_ok (w := w2) (b := R) (o := 0) (len := l.length) (cap := l.length) (i := k) ⟨hgL, hk⟩ (Nat.le_of_lt hkl) (Nat.le_refl _)
              rw [hne2, cond_false, Nat.zero_add] at sl2
              obtain ⟨w3, zs, c1, c2, c3, c4, c5, c6⟩ := clearW_ok (n := l.length) (cp := l.length - k) ⟨hgL, hk⟩ (by rw [List.append_nil, flatP_len, hLl]) hkl
              have hg3 : w3.heap.get R = some (.row (flatP (Lc.take k) ++ zs) 41 kk) := by rw [c6, if_pos rfl, List.append_nil, flatP_take]
              have gS3 : GrS s0 w2 w3 := ⟨by rw [c5, if_pos (by rw [gS.low]; omega)], by omega, fun j hj => by rw [c6, if_neg (by omega)], fun b n hb hsh => by
      by_cases e : b = R
      · subst e; obtain ⟨c, el, k', p1, p2, p3⟩ := hsh; rw [hgL] at p1; cases p1; exact ⟨_, _, _, hg3, p2, by rw [List.append_nil, flatP_len] at p3; rw [List.length_append, flatP_len, List.length_take, Nat.min_eq_left (by omega), c2]; omega⟩
      · obtain ⟨c, el, k', p1, p2, p3⟩ := hsh; exact ⟨c, el, k', by rw [c6, if_neg e]; exact p1, p2, p3⟩⟩
              refine TF.reg (call := oracle []) (by show 61 ≤ 1000000; decide) (by kernel_rfl) (oracle_ok _ (by simp)) ?_
              simp (maxSteps := 2000000) only [EVS, EVL, Nat.reduceEqDiff, Nat.reduceAdd, reduceIte, XE.then, XE.out, h0, h3, hlt, h4, h5, hlt2, res_slLo, flatV_slice, sl2, res_clear, c1]
              refine TF.seq ?_
              have sh := slHi_ok (w := w3) (b := R) (o := 0) (len := l.length) (cap := l.length) (i := k) ⟨hg3, hk⟩ (Nat.le_of_lt hkl)
              refine TF.reg (call := oracle []) (by show 61 ≤ 1000000; decide) (by kernel_rfl) (oracle_ok _ (by simp)) ?_
              simp (maxSteps := 2000000) only [EVS, EVL, Nat.reduceEqDiff, Nat.reduceAdd, reduceIte, XE.then, XE.out, h0, h3, hlt, h4, h5, hlt2, res_slHi, flatV_slice, sh]
              refine TF.ret ?_
              try simp (maxSteps := 2000000) only [EVS, EVL, Nat.reduceEqDiff, Nat.reduceAdd, reduceIte, XE.then, XE.out, h0, h3, hlt, h4, h5, hlt2]
              exact ⟨gS.trans gS3, Lc.take k, l.length, zs, by rw [List.length_take, Nat.min_eq_left (by omega)], hg3, c3, hLs, fun p' => by rw [hLm, List.take_of_length_le (by omega)], by rw [List.length_take]; omega, by rw [c4]; exact Nat.lt_of_lt_of_le hRw gS.size⟩
        · have hc_heq := heq
          have hpe : pEq p q = false := Bool.eq_false_iff.2 fun h => heq ((pEq_iff p q).1 h)
          refine TF.cond (t := false) rfl (by simp only [EVS, hpe, if_true]) ?_
          simp (maxSteps := 2000000) only [EVS, EVL, Nat.reduceEqDiff, Nat.reduceAdd, reduceIte, XE.then, XE.out, h0, h3, hlt]
          refine TF.skip ?_
          try simp (maxSteps := 2000000) only [EVS, EVL, Nat.reduceEqDiff, Nat.reduceAdd, reduceIte, XE.then, XE.out, h0, h3, hlt]
          refine TF.reg (call := oracle []) (by show 61 ≤ 1000000; decide) (by kernel_rfl) (oracle_ok _ (by simp)) ?_
          simp (maxSteps := 2000000) only [EVS, EVL, Nat.reduceEqDiff, Nat.reduceAdd, reduceIte, XE.then, XE.out, h0, h3, hlt, wr1 (show i < 4611686018427387904 by omega)]
          refine ⟨⟨i + 1, by omega, by omega, (by simp (maxSteps := 2000000) only [EVS, EVL, Nat.reduceEqDiff, Nat.reduceAdd, reduceIte, XE.then, XE.out, h0, h3, hlt, wr1 (show i < 4611686018427387904 by omega)]), (by simp (maxSteps := 2000000) only [EVS, EVL, Nat.reduceEqDiff, Nat.reduceAdd, reduceIte, XE.then, XE.out, h0, h3, hlt, wr1 (show i < 4611686018427387904 by omega)]), ?_, rfl⟩, ?_⟩
          · rw [List.take_add_one, hp]; exact ss_push hss (take_last hi0 hi1 hq) (sorted_lt hs hi0 hp hq heq)
          · simp only [EVS, h3, wr1 (show i < 4611686018427387904 by omega), Nat.reduceEqDiff, if_true, if_false, reduceIte]; omega
      · have hc_hlt := hlt
        refine TF.cond (t := false) rfl (by simp (maxSteps := 2000000) only [EVS, EVL, Nat.reduceEqDiff, Nat.reduceAdd, reduceIte, XE.then, XE.out, h0, h3, hlt]) ?_
        simp (maxSteps := 2000000) only [EVS, EVL, Nat.reduceEqDiff, Nat.reduceAdd, reduceIte, XE.then, XE.out, h0, h3, hlt]
        refine TF.exit ?_
        simp (maxSteps := 2000000) only [EVS, EVL, Nat.reduceEqDiff, Nat.reduceAdd, reduceIte, XE.then, XE.out, h0, h3, hlt]
        refine TF.seq ?_
        refine TF.reg (call := oracle []) (by show 61 ≤ 1000000; decide) (by kernel_rfl) (oracle_ok _ (by simp)) ?_
        simp (maxSteps := 2000000) only [EVS, EVL, Nat.reduceEqDiff, Nat.reduceAdd, reduceIte, XE.then, XE.out, h0, h3, hlt]
        refine TF.ret ?_
        try simp (maxSteps := 2000000) only [EVS, EVL, Nat.reduceEqDiff, Nat.reduceAdd, reduceIte, XE.then, XE.out, h0, h3, hlt]
        exact ⟨GrS.refl _ _, l, l.length, [], rfl, hg0, rfl, by rw [List.take_of_length_le (by omega)] at hss; exact hss, fun p => Iff.rfl, Nat.le_refl _, hRw⟩

end Go.Proofs.YtkjbbbjebidniaaGreatDoor
