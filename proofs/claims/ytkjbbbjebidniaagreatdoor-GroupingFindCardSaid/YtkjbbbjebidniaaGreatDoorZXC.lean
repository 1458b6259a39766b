/- Find: copies of rows; writing where one's own row stands. -/
import Derived.Test.YtkjbbbjebidniaaGreatDoorZXB
namespace Go.Proofs.YtkjbbbjebidniaaGreatDoor
open Go Go.RowKit
set_option linter.unusedSimpArgs false
set_option linter.unusedVariables false
set_option maxRecDepth 100000
set_option maxHeartbeats 2000000

section
variable {P : Program}
theorem bin_nil_some {t : Nat} {el : TypeId} (hu : P.underlying t = some (.slice el)) (x y : Operand) (a : Addr) (n c m k : Nat) : binV P .eql t x y (.slice (some a) n c) (.slice none m k) = some (.bool false) := by
  unfold binV
  simp [flatV, flat1, hu, nilCmp]
theorem bin_nil_none {t : Nat} {el : TypeId} (hu : P.underlying t = some (.slice el)) (x y : Operand) (n c m k : Nat) : binV P .eql t x y (.slice none n c) (.slice none m k) = some (.bool true) := by
  unfold binV
  have hg : pureA P (eqGuard .eql t x y (.slice none n c) (.slice none m k)) = some () := rfl
  have he : pureA P (Op.equal t (.slice none n c) (.slice none m k)) = some true := by
    show pureA P (Op.equalIn (9999 + 1) t _ _) = _
    unfold Op.equalIn
    rw [pureA_bind, pureA_underlying hu]
    rfl
  have hb : binOp .eql t (.slice none n c) (.slice none m k) = (Op.equal t (.slice none n c) (.slice none m k) >>= fun q => pure (.bool q)) := by simp [binOp]
  simp only [flatV, flat1, Bool.and_self, cond_true]
  rw [pureA_bind, hg]
  simp only [Option.bind_some]
  rw [hb, pureA_bind, he]
  rfl
end

/-- A row of so many cells that may be written. -/
def Shape (b n : Nat) (w : AW) : Prop := ∃ c el k, w.heap.get b = some (.row c el k) ∧ k ≤ 1 ∧ c.length = n
/-- One's own row. -/
def Own (n s0 : Nat) (w' : AW) (m : Nat) (r : Value) : Prop := m ≠ 0 → ∃ b, r = .slice (some ⟨b, 0, none⟩) m m ∧ s0 ≤ b ∧ b < w'.size ∧ Shape b (m * n) w'
/-- Below s0 nothing changes; rows keep their shape. -/
structure GrS (s0 : Nat) (w w' : AW) : Prop where
  low : w'.low = w.low
  size : w.size ≤ w'.size
  same : ∀ i, i < s0 → w'.heap.get i = w.heap.get i
  shape : ∀ b n, b < w.size → Shape b n w → Shape b n w'
theorem GrS.refl (s0 : Nat) (w : AW) : GrS s0 w w := ⟨rfl, Nat.le_refl _, fun _ _ => rfl, fun _ _ _ h => h⟩
theorem GrS.trans {s0 : Nat} {a b c : AW} (h : GrS s0 a b) (k : GrS s0 b c) : GrS s0 a c :=
  ⟨k.low.trans h.low, Nat.le_trans h.size k.size, fun i hi => (k.same i hi).trans (h.same i hi), fun x n hx hs => k.shape x n (Nat.lt_of_lt_of_le hx h.size) (h.shape x n hx hs)⟩
theorem Gr.S {s0 : Nat} {w w' : AW} (g : Gr w w') (h : s0 ≤ w.size) : GrS s0 w w' :=
  ⟨g.low, g.size, fun i hi => g.same i (by omega), fun b n hb ⟨c, el, k, h1, h2, h3⟩ => ⟨c, el, k, by rw [g.same b hb]; exact h1, h2, h3⟩⟩
theorem GrS.gr {w w' : AW} (g : GrS w.size w w') : Gr w w' := ⟨g.low, g.size, g.same⟩
theorem GrS.down {s0 s1 : Nat} {w w' : AW} (g : GrS s1 w w') (h : s0 ≤ s1) : GrS s0 w w' := ⟨g.low, g.size, fun i hi => g.same i (by omega), g.shape⟩
theorem GrS.lowle {s0 : Nat} {w w' : AW} (g : GrS s0 w w') (h : w.low ≤ w.size) : w'.low ≤ w'.size := by rw [g.low]; exact Nat.le_trans h g.size

/-- A cell of one's own row is overwritten by what says the same. -/
theorem putS_ok {t n : Nat} (hst : stOk Tryz.prog t n = true) {Ψ : Psi} {w : AW} (W : Wt Ψ w) {s0 b o m : Nat} (hs : Shape b m w) (hb : s0 ≤ b) (hb2 : b < w.size) (hlow : w.low ≤ s0) {v : Value} {l : List Value} (hv : v.cells.toList = l) (hl : l.length = n) (h1 : l.all oneC = true) (ho : o + n ≤ m)
    (hD : ∀ j u, l[j]? = some u → ∀ d, Ψ.at' b (o + j) = some d → Den Ψ u d) :
    ∃ w1, storeW Tryz.prog t (.pointer (some ⟨b, o, none⟩)) v w = some (undef, w1) ∧ Wt Ψ w1 ∧ GrS s0 w w1 ∧ w1.size = w.size ∧ (∀ j, j ≠ b → w1.heap.get j = w.heap.get j) ∧ w1.cells ⟨b, o, none⟩ n = some l := by
  obtain ⟨c, el, k, q1, q2, q3⟩ := hs
  obtain ⟨w1, s1, s2, s3, s4⟩ := storeW_ok hst (o := o) hv hl h1 q1 q2 (by omega)
  have hlen : (c.take o ++ l ++ c.drop (o + n)).length = m := by simp; omega
  refine ⟨w1, s1, Wt.put (ds := []) W s2 s3 q1 (by omega) (fun j => by rw [s4, hl]) hD, ⟨by rw [s3, if_pos (by omega)], by omega, fun i hi => by rw [s4, if_neg (by omega)], ?_⟩, s2, fun j hj => by rw [s4, if_neg hj], ?_⟩
  · rintro x nn hx ⟨c', el', k', p1, p2, p3⟩
    by_cases e : x = b
    · subst e
      rw [q1] at p1; cases p1
      exact ⟨_, _, _, by rw [s4, if_pos rfl], q2, by omega⟩
    · exact ⟨c', el', k', by rw [s4, if_neg e]; exact p1, p2, p3⟩
  · have hg : w1.heap.get b = some (.row (c.take o ++ l ++ c.drop (o + n)) el k) := by rw [s4, if_pos rfl]
    rw [cells_row hg o n (by omega)]
    congr 1
    rw [List.append_assoc, List.drop_append_of_le_length (by simp; omega), List.drop_of_length_le (by simp; omega), List.nil_append, List.take_append_of_le_length (by omega), List.take_of_length_le (by omega)]

/-- A new box that says what it holds. -/
theorem new_said {t n : Nat} (ha : alOk Tryz.prog t n = true) (hs : stOk Tryz.prog t n = true) {Ψ : Psi} {w : AW} (W : Wt Ψ w) {l : List Value} {ds : List Dt} (hD : Dens Ψ l ds) (hl : l.length = n) :
    ∃ w1 w2, allocW Tryz.prog t w = some (.pointer (some ⟨w.size, 0, none⟩), w1) ∧ storeW Tryz.prog t (.pointer (some ⟨w.size, 0, none⟩)) (.agg ⟨l⟩) w1 = some (undef, w2) ∧ Gr w w2 ∧ w2.size = w.size + 1 ∧ Wt (Ψ.add w.size ds) w2 ∧ PLe Ψ (Ψ.add w.size ds) ∧ Shape w.size n w2 ∧ w2.cells ⟨w.size, 0, none⟩ n = some l := by
  obtain ⟨w1, w2, b1, b2, g, z, r⟩ := new_box ha hs w W.low l hl hD.one
  exact ⟨w1, w2, b1, b2, g, z, W.add g (Nat.le_refl _) (by omega) r hD, Psi.add_le W ds (Nat.le_refl _), ⟨_, _, _, r, Nat.zero_le _, hl⟩, row_cells r hl⟩
theorem Psi.add_at (Ψ : Psi) (b : Nat) (ds : List Dt) (j : Nat) : (Ψ.add b ds).at' b j = ds[j]? := by show (if b = b then _ else _) = _; rw [if_pos rfl]
theorem Psi.add_live (Ψ : Psi) (b : Nat) (ds : List Dt) (j : Nat) (h : j ≤ ds.length) : (Ψ.add b ds).live b j := by show (if b = b then _ else _); rw [if_pos rfl]; exact h

theorem clone_core {t el n bytes : Nat} (hsl : slOk Tryz.prog t n = true) (hap : apOk Tryz.prog t el n bytes = true) (hel : Tryz.prog.underlying t = some (.slice el)) (hby : bytes ≤ 1000) {β : Type} {F : β → List Dt} (hF : ∀ x, (F x).length = n) (l : List β) (hl : l.length ≤ 1000000) {Ψ : Psi} {w : AW} {u : Value} (W : Wt Ψ w) (hu : Den Ψ u (lst F l)) :
    ∃ w1 w2 r, bs0W Tryz.prog t w = some (.slice (some ⟨w.size, 0, none⟩) 0 0, w1) ∧ appendA Tryz.prog #[t, t] #[.slice (some ⟨w.size, 0, none⟩) 0 0, u] w1 = .ok (r, w2) ∧ Gr w w2 ∧ ∃ Ψ', PLe Ψ Ψ' ∧ Wt Ψ' w2 ∧ Den Ψ' r (lst F l) ∧ Own n w.size w2 l.length r := by
  obtain ⟨w1, el', b1, hu1, g1, z1, r1⟩ := bs0W_ok hsl w
  rw [hel] at hu1; cases hu1
  obtain ⟨us, hrd, hds⟩ := (W.gr g1).rd hF hu
  have hold : firstA w1 n 0 (.slice (some ⟨w.size, 0, none⟩) 0 0) = some [] := by
    show w1.cells ⟨w.size, 0, none⟩ (0 * n) = some []
    rw [Nat.zero_mul, row_cells (n := 0) r1 rfl]
  by_cases h0 : l.length = 0
  · have : l = [] := List.eq_nil_of_length_eq_zero h0
    subst this
    have hus : us = [] := by have := hrd.2.2; simp at this; exact this
    subst hus
    refine ⟨w1, w1, _, b1, app_none hap hrd hold (Nat.le_refl _), g1, Ψ.add w.size [], Psi.add_le W _ (Nat.le_refl _), W.add g1 (Nat.le_refl _) (by omega) r1 .nil, ?_, fun h => absurd rfl h⟩
    exact Den.new Ψ w.size F [] 0
  · have hap2 := app_grow hap (base := some ⟨w.size, 0, none⟩) (m := 0) (q := l.length) (by omega) (Nat.le_trans (Nat.mul_le_mul (show 2 * (0 + l.length) + 200 ≤ 2000200 by omega) (show bytes + 1 ≤ 1001 by omega)) (by decide)) hrd hold (by simp)
    obtain ⟨w2, e2, g2, z2, r2⟩ := growA_new (n := n) (m := 0) (need := 0 + l.length) (el := el) (cells := [] ++ us) (w := w1) (base := some ⟨w.size, 0, none⟩) (.inr ⟨_, _, _, rfl, r1⟩)
    rw [e2, Nat.zero_add] at hap2
    rw [List.nil_append] at r2
    refine ⟨w1, w2, _, b1, hap2, g1.trans g2, Ψ.add w1.size (l.flatMap F), Psi.add_le W _ g1.size, W.add (g1.trans g2) g1.size (by omega) r2 hds, Den.new Ψ w1.size F l l.length, fun _ => ⟨w1.size, rfl, by omega, by omega, us, el, 1, r2, Nat.le_refl _, hrd.2.2⟩⟩

theorem ap_26 : apOk Tryz.prog 26 52 3 32 = true := by kernel_rfl
theorem un_26 : Tryz.prog.underlying 26 = some (.slice 52) := by kernel_rfl

theorem clone_44_nil {β : Type} {F : β → List Dt} (hF : ∀ x, (F x).length = 3) (l : List β) (hl : l.length ≤ 1000000) {Ψ : Psi} {w : AW} {c : Nat} (W : Wt Ψ w) (h0 : l = []) : CallP 44 [.slice none 0 c] w (fun r w' => Gr w w' ∧ ∃ Ψ', PLe Ψ Ψ' ∧ Wt Ψ' w' ∧ Den Ψ' r (lst F l) ∧ Own 3 w.size w' l.length r) := by
  refine CallP.of (t := 2) (args := [.slice none 0 c]) Tryz.func44 rfl rfl (by simp) (by show _ ≤ 8; simp) ?_
  have a0 : argsE [.slice none 0 c] 0 = .slice none 0 c := rfl
  refine TF.seq ?_
  refine TF.reg (call := oracle []) (by show 8 ≤ 1000000; decide) (by kernel_rfl) (oracle_ok _ (by simp)) ?_
  simp (maxSteps := 2000000) only [EVS, EVL, Nat.reduceEqDiff, Nat.reduceAdd, reduceIte, XE.then, XE.out, a0]
  refine TF.seq ?_
  refine TF.seq ?_
  refine TF.reg (call := oracle []) (by show 8 ≤ 1000000; decide) (by kernel_rfl) (oracle_ok _ (by simp)) ?_
  simp (maxSteps := 2000000) only [EVS, EVL, Nat.reduceEqDiff, Nat.reduceAdd, reduceIte, XE.then, XE.out, a0, bin_nil_none un_26]
  refine TF.cond (t := true) rfl (by simp (maxSteps := 2000000) only [EVS, EVL, Nat.reduceEqDiff, Nat.reduceAdd, reduceIte, XE.then, XE.out, a0]) ?_
  simp (maxSteps := 2000000) only [EVS, EVL, Nat.reduceEqDiff, Nat.reduceAdd, reduceIte, XE.then, XE.out, a0]
  refine TF.seq ?_
  refine TF.reg (call := oracle []) (by show 8 ≤ 1000000; decide) (by kernel_rfl) (oracle_ok _ (by simp)) ?_
  simp (maxSteps := 2000000) only [EVS, EVL, Nat.reduceEqDiff, Nat.reduceAdd, reduceIte, XE.then, XE.out, a0]
  refine TF.ret ?_
  try simp (maxSteps := 2000000) only [EVS, EVL, Nat.reduceEqDiff, Nat.reduceAdd, reduceIte, XE.then, XE.out, a0]
  subst h0; exact ⟨Gr.refl _, Ψ, PLe.refl _, W, ⟨rfl, rfl, rfl⟩, fun h => absurd rfl h⟩

theorem clone_44_some {β : Type} {F : β → List Dt} (hF : ∀ x, (F x).length = 3) (l : List β) (hl : l.length ≤ 1000000) {Ψ : Psi} {w : AW} {a : Addr} {m c : Nat} (W : Wt Ψ w) (hu : Den Ψ (.slice (some a) m c) (lst F l)) : CallP 44 [.slice (some a) m c] w (fun r w' => Gr w w' ∧ ∃ Ψ', PLe Ψ Ψ' ∧ Wt Ψ' w' ∧ Den Ψ' r (lst F l) ∧ Own 3 w.size w' l.length r) := by
  obtain ⟨w1, w2, r, b1, hap, g, rest⟩ := clone_core sl_26 ap_26 un_26 (by decide) hF l hl W hu
  refine CallP.of (t := 2) (args := [.slice (some a) m c]) Tryz.func44 rfl rfl (by simp) (by show _ ≤ 8; simp) ?_
  have a0 : argsE [.slice (some a) m c] 0 = .slice (some a) m c := rfl
  refine TF.seq ?_
  refine TF.reg (call := oracle []) (by show 8 ≤ 1000000; decide) (by kernel_rfl) (oracle_ok _ (by simp)) ?_
  simp (maxSteps := 2000000) only [EVS, EVL, Nat.reduceEqDiff, Nat.reduceAdd, reduceIte, XE.then, XE.out, a0]
  refine TF.seq ?_
  refine TF.seq ?_
  refine TF.reg (call := oracle []) (by show 8 ≤ 1000000; decide) (by kernel_rfl) (oracle_ok _ (by simp)) ?_
  simp (maxSteps := 2000000) only [EVS, EVL, Nat.reduceEqDiff, Nat.reduceAdd, reduceIte, XE.then, XE.out, a0, bin_nil_some un_26]
  refine TF.cond (t := false) rfl (by simp (maxSteps := 2000000) only [EVS, EVL, Nat.reduceEqDiff, Nat.reduceAdd, reduceIte, XE.then, XE.out, a0]) ?_
  simp (maxSteps := 2000000) only [EVS, EVL, Nat.reduceEqDiff, Nat.reduceAdd, reduceIte, XE.then, XE.out, a0]
  refine TF.skip ?_
  simp (maxSteps := 2000000) only [EVS, EVL, Nat.reduceEqDiff, Nat.reduceAdd, reduceIte, XE.then, XE.out, a0]
  refine TF.seq ?_
  refine TF.reg (call := oracle []) (by show 8 ≤ 1000000; decide) (by kernel_rfl) (oracle_ok _ (by simp)) ?_
  simp (maxSteps := 2000000) only [EVS, EVL, Nat.reduceEqDiff, Nat.reduceAdd, reduceIte, XE.then, XE.out, a0, b1, hap]
  refine TF.ret ?_
  try simp (maxSteps := 2000000) only [EVS, EVL, Nat.reduceEqDiff, Nat.reduceAdd, reduceIte, XE.then, XE.out, a0]
  exact ⟨g, rest⟩

theorem clone_44 {β : Type} {F : β → List Dt} (hF : ∀ x, (F x).length = 3) (l : List β) (hl : l.length ≤ 1000000) {Ψ : Psi} {w : AW} {u : Value} (W : Wt Ψ w) (hu : Den Ψ u (lst F l)) : CallP 44 [u] w (fun r w' => Gr w w' ∧ ∃ Ψ', PLe Ψ Ψ' ∧ Wt Ψ' w' ∧ Den Ψ' r (lst F l) ∧ Own 3 w.size w' l.length r) := by
  rcases hu.l_inv with ⟨c, rfl, h1, h2⟩ | ⟨b, o, c, rfl, h1, h2⟩
  · exact clone_44_nil hF l hl W (List.eq_nil_of_length_eq_zero h1)
  · exact clone_44_some hF l hl W hu

theorem ap_29 : apOk Tryz.prog 29 64 2 32 = true := by kernel_rfl
theorem un_29 : Tryz.prog.underlying 29 = some (.slice 64) := by kernel_rfl

theorem clone_46_nil {β : Type} {F : β → List Dt} (hF : ∀ x, (F x).length = 2) (l : List β) (hl : l.length ≤ 1000000) {Ψ : Psi} {w : AW} {c : Nat} (W : Wt Ψ w) (h0 : l = []) : CallP 46 [.slice none 0 c] w (fun r w' => Gr w w' ∧ ∃ Ψ', PLe Ψ Ψ' ∧ Wt Ψ' w' ∧ Den Ψ' r (lst F l) ∧ Own 2 w.size w' l.length r) := by
  refine CallP.of (t := 2) (args := [.slice none 0 c]) Tryz.func46 rfl rfl (by simp) (by show _ ≤ 8; simp) ?_
  have a0 : argsE [.slice none 0 c] 0 = .slice none 0 c := rfl
  refine TF.seq ?_
  refine TF.reg (call := oracle []) (by show 8 ≤ 1000000; decide) (by kernel_rfl) (oracle_ok _ (by simp)) ?_
  simp (maxSteps := 2000000) only [EVS, EVL, Nat.reduceEqDiff, Nat.reduceAdd, reduceIte, XE.then, XE.out, a0]
  refine TF.seq ?_
  refine TF.seq ?_
  refine TF.reg (call := oracle []) (by show 8 ≤ 1000000; decide) (by kernel_rfl) (oracle_ok _ (by simp)) ?_
  simp (maxSteps := 2000000) only [EVS, EVL, Nat.reduceEqDiff, Nat.reduceAdd, reduceIte, XE.then, XE.out, a0, bin_nil_none un_29]
  refine TF.cond (t := true) rfl (by simp (maxSteps := 2000000) only [EVS, EVL, Nat.reduceEqDiff, Nat.reduceAdd, reduceIte, XE.then, XE.out, a0]) ?_
  simp (maxSteps := 2000000) only [EVS, EVL, Nat.reduceEqDiff, Nat.reduceAdd, reduceIte, XE.then, XE.out, a0]
  refine TF.seq ?_
  refine TF.reg (call := oracle []) (by show 8 ≤ 1000000; decide) (by kernel_rfl) (oracle_ok _ (by simp)) ?_
  simp (maxSteps := 2000000) only [EVS, EVL, Nat.reduceEqDiff, Nat.reduceAdd, reduceIte, XE.then, XE.out, a0]
  refine TF.ret ?_
  try simp (maxSteps := 2000000) only [EVS, EVL, Nat.reduceEqDiff, Nat.reduceAdd, reduceIte, XE.then, XE.out, a0]
  subst h0; exact ⟨Gr.refl _, Ψ, PLe.refl _, W, ⟨rfl, rfl, rfl⟩, fun h => absurd rfl h⟩

theorem clone_46_some {β : Type} {F : β → List Dt} (hF : ∀ x, (F x).length = 2) (l : List β) (hl : l.length ≤ 1000000) {Ψ : Psi} {w : AW} {a : Addr} {m c : Nat} (W : Wt Ψ w) (hu : Den Ψ (.slice (some a) m c) (lst F l)) : CallP 46 [.slice (some a) m c] w (fun r w' => Gr w w' ∧ ∃ Ψ', PLe Ψ Ψ' ∧ Wt Ψ' w' ∧ Den Ψ' r (lst F l) ∧ Own 2 w.size w' l.length r) := by
  obtain ⟨w1, w2, r, b1, hap, g, rest⟩ := clone_core sl_29 ap_29 un_29 (by decide) hF l hl W hu
  refine CallP.of (t := 2) (args := [.slice (some a) m c]) Tryz.func46 rfl rfl (by simp) (by show _ ≤ 8; simp) ?_
  have a0 : argsE [.slice (some a) m c] 0 = .slice (some a) m c := rfl
  refine TF.seq ?_
  refine TF.reg (call := oracle []) (by show 8 ≤ 1000000; decide) (by kernel_rfl) (oracle_ok _ (by simp)) ?_
  simp (maxSteps := 2000000) only [EVS, EVL, Nat.reduceEqDiff, Nat.reduceAdd, reduceIte, XE.then, XE.out, a0]
  refine TF.seq ?_
  refine TF.seq ?_
  refine TF.reg (call := oracle []) (by show 8 ≤ 1000000; decide) (by kernel_rfl) (oracle_ok _ (by simp)) ?_
  simp (maxSteps := 2000000) only [EVS, EVL, Nat.reduceEqDiff, Nat.reduceAdd, reduceIte, XE.then, XE.out, a0, bin_nil_some un_29]
  refine TF.cond (t := false) rfl (by simp (maxSteps := 2000000) only [EVS, EVL, Nat.reduceEqDiff, Nat.reduceAdd, reduceIte, XE.then, XE.out, a0]) ?_
  simp (maxSteps := 2000000) only [EVS, EVL, Nat.reduceEqDiff, Nat.reduceAdd, reduceIte, XE.then, XE.out, a0]
  refine TF.skip ?_
  simp (maxSteps := 2000000) only [EVS, EVL, Nat.reduceEqDiff, Nat.reduceAdd, reduceIte, XE.then, XE.out, a0]
  refine TF.seq ?_
  refine TF.reg (call := oracle []) (by show 8 ≤ 1000000; decide) (by kernel_rfl) (oracle_ok _ (by simp)) ?_
  simp (maxSteps := 2000000) only [EVS, EVL, Nat.reduceEqDiff, Nat.reduceAdd, reduceIte, XE.then, XE.out, a0, b1, hap]
  refine TF.ret ?_
  try simp (maxSteps := 2000000) only [EVS, EVL, Nat.reduceEqDiff, Nat.reduceAdd, reduceIte, XE.then, XE.out, a0]
  exact ⟨g, rest⟩

theorem clone_46 {β : Type} {F : β → List Dt} (hF : ∀ x, (F x).length = 2) (l : List β) (hl : l.length ≤ 1000000) {Ψ : Psi} {w : AW} {u : Value} (W : Wt Ψ w) (hu : Den Ψ u (lst F l)) : CallP 46 [u] w (fun r w' => Gr w w' ∧ ∃ Ψ', PLe Ψ Ψ' ∧ Wt Ψ' w' ∧ Den Ψ' r (lst F l) ∧ Own 2 w.size w' l.length r) := by
  rcases hu.l_inv with ⟨c, rfl, h1, h2⟩ | ⟨b, o, c, rfl, h1, h2⟩
  · exact clone_46_nil hF l hl W (List.eq_nil_of_length_eq_zero h1)
  · exact clone_46_some hF l hl W hu

theorem ap_38 : apOk Tryz.prog 38 41 2 16 = true := by kernel_rfl
theorem un_38 : Tryz.prog.underlying 38 = some (.slice 41) := by kernel_rfl

theorem clone_53_nil {β : Type} {F : β → List Dt} (hF : ∀ x, (F x).length = 2) (l : List β) (hl : l.length ≤ 1000000) {Ψ : Psi} {w : AW} {c : Nat} (W : Wt Ψ w) (h0 : l = []) : CallP 53 [.slice none 0 c] w (fun r w' => Gr w w' ∧ ∃ Ψ', PLe Ψ Ψ' ∧ Wt Ψ' w' ∧ Den Ψ' r (lst F l) ∧ Own 2 w.size w' l.length r) := by
  refine CallP.of (t := 2) (args := [.slice none 0 c]) Tryz.func53 rfl rfl (by simp) (by show _ ≤ 8; simp) ?_
  have a0 : argsE [.slice none 0 c] 0 = .slice none 0 c := rfl
  refine TF.seq ?_
  refine TF.reg (call := oracle []) (by show 8 ≤ 1000000; decide) (by kernel_rfl) (oracle_ok _ (by simp)) ?_
  simp (maxSteps := 2000000) only [EVS, EVL, Nat.reduceEqDiff, Nat.reduceAdd, reduceIte, XE.then, XE.out, a0]
  refine TF.seq ?_
  refine TF.seq ?_
  refine TF.reg (call := oracle []) (by show 8 ≤ 1000000; decide) (by kernel_rfl) (oracle_ok _ (by simp)) ?_
  simp (maxSteps := 2000000) only [EVS, EVL, Nat.reduceEqDiff, Nat.reduceAdd, reduceIte, XE.then, XE.out, a0, bin_nil_none un_38]
  refine TF.cond (t := true) rfl (by simp (maxSteps := 2000000) only [EVS, EVL, Nat.reduceEqDiff, Nat.reduceAdd, reduceIte, XE.then, XE.out, a0]) ?_
  simp (maxSteps := 2000000) only [EVS, EVL, Nat.reduceEqDiff, Nat.reduceAdd, reduceIte, XE.then, XE.out, a0]
  refine TF.seq ?_
  refine TF.reg (call := oracle []) (by show 8 ≤ 1000000; decide) (by kernel_rfl) (oracle_ok _ (by simp)) ?_
  simp (maxSteps := 2000000) only [EVS, EVL, Nat.reduceEqDiff, Nat.reduceAdd, reduceIte, XE.then, XE.out, a0]
  refine TF.ret ?_
  try simp (maxSteps := 2000000) only [EVS, EVL, Nat.reduceEqDiff, Nat.reduceAdd, reduceIte, XE.then, XE.out, a0]
  subst h0; exact ⟨Gr.refl _, Ψ, PLe.refl _, W, ⟨rfl, rfl, rfl⟩, fun h => absurd rfl h⟩

theorem clone_53_some {β : Type} {F : β → List Dt} (hF : ∀ x, (F x).length = 2) (l : List β) (hl : l.length ≤ 1000000) {Ψ : Psi} {w : AW} {a : Addr} {m c : Nat} (W : Wt Ψ w) (hu : Den Ψ (.slice (some a) m c) (lst F l)) : CallP 53 [.slice (some a) m c] w (fun r w' => Gr w w' ∧ ∃ Ψ', PLe Ψ Ψ' ∧ Wt Ψ' w' ∧ Den Ψ' r (lst F l) ∧ Own 2 w.size w' l.length r) := by
  obtain ⟨w1, w2, r, b1, hap, g, rest⟩ := clone_core sl_38 ap_38 un_38 (by decide) hF l hl W hu
  refine CallP.of (t := 2) (args := [.slice (some a) m c]) Tryz.func53 rfl rfl (by simp) (by show _ ≤ 8; simp) ?_
  have a0 : argsE [.slice (some a) m c] 0 = .slice (some a) m c := rfl
  refine TF.seq ?_
  refine TF.reg (call := oracle []) (by show 8 ≤ 1000000; decide) (by kernel_rfl) (oracle_ok _ (by simp)) ?_
  simp (maxSteps := 2000000) only [EVS, EVL, Nat.reduceEqDiff, Nat.reduceAdd, reduceIte, XE.then, XE.out, a0]
  refine TF.seq ?_
  refine TF.seq ?_
  refine TF.reg (call := oracle []) (by show 8 ≤ 1000000; decide) (by kernel_rfl) (oracle_ok _ (by simp)) ?_
  simp (maxSteps := 2000000) only [EVS, EVL, Nat.reduceEqDiff, Nat.reduceAdd, reduceIte, XE.then, XE.out, a0, bin_nil_some un_38]
  refine TF.cond (t := false) rfl (by simp (maxSteps := 2000000) only [EVS, EVL, Nat.reduceEqDiff, Nat.reduceAdd, reduceIte, XE.then, XE.out, a0]) ?_
  simp (maxSteps := 2000000) only [EVS, EVL, Nat.reduceEqDiff, Nat.reduceAdd, reduceIte, XE.then, XE.out, a0]
  refine TF.skip ?_
  simp (maxSteps := 2000000) only [EVS, EVL, Nat.reduceEqDiff, Nat.reduceAdd, reduceIte, XE.then, XE.out, a0]
  refine TF.seq ?_
  refine TF.reg (call := oracle []) (by show 8 ≤ 1000000; decide) (by kernel_rfl) (oracle_ok _ (by simp)) ?_
  simp (maxSteps := 2000000) only [EVS, EVL, Nat.reduceEqDiff, Nat.reduceAdd, reduceIte, XE.then, XE.out, a0, b1, hap]
  refine TF.ret ?_
  try simp (maxSteps := 2000000) only [EVS, EVL, Nat.reduceEqDiff, Nat.reduceAdd, reduceIte, XE.then, XE.out, a0]
  exact ⟨g, rest⟩

theorem clone_53 {β : Type} {F : β → List Dt} (hF : ∀ x, (F x).length = 2) (l : List β) (hl : l.length ≤ 1000000) {Ψ : Psi} {w : AW} {u : Value} (W : Wt Ψ w) (hu : Den Ψ u (lst F l)) : CallP 53 [u] w (fun r w' => Gr w w' ∧ ∃ Ψ', PLe Ψ Ψ' ∧ Wt Ψ' w' ∧ Den Ψ' r (lst F l) ∧ Own 2 w.size w' l.length r) := by
  rcases hu.l_inv with ⟨c, rfl, h1, h2⟩ | ⟨b, o, c, rfl, h1, h2⟩
  · exact clone_53_nil hF l hl W (List.eq_nil_of_length_eq_zero h1)
  · exact clone_53_some hF l hl W hu

theorem ap_31 : apOk Tryz.prog 31 121 2 32 = true := by kernel_rfl
theorem un_31 : Tryz.prog.underlying 31 = some (.slice 121) := by kernel_rfl

theorem clone_89_nil {β : Type} {F : β → List Dt} (hF : ∀ x, (F x).length = 2) (l : List β) (hl : l.length ≤ 1000000) {Ψ : Psi} {w : AW} {c : Nat} (W : Wt Ψ w) (h0 : l = []) : CallP 89 [.slice none 0 c] w (fun r w' => Gr w w' ∧ ∃ Ψ', PLe Ψ Ψ' ∧ Wt Ψ' w' ∧ Den Ψ' r (lst F l) ∧ Own 2 w.size w' l.length r) := by
  refine CallP.of (t := 2) (args := [.slice none 0 c]) Tryz.func89 rfl rfl (by simp) (by show _ ≤ 8; simp) ?_
  have a0 : argsE [.slice none 0 c] 0 = .slice none 0 c := rfl
  refine TF.seq ?_
  refine TF.reg (call := oracle []) (by show 8 ≤ 1000000; decide) (by kernel_rfl) (oracle_ok _ (by simp)) ?_
  simp (maxSteps := 2000000) only [EVS, EVL, Nat.reduceEqDiff, Nat.reduceAdd, reduceIte, XE.then, XE.out, a0]
  refine TF.seq ?_
  refine TF.seq ?_
  refine TF.reg (call := oracle []) (by show 8 ≤ 1000000; decide) (by kernel_rfl) (oracle_ok _ (by simp)) ?_
  simp (maxSteps := 2000000) only [EVS, EVL, Nat.reduceEqDiff, Nat.reduceAdd, reduceIte, XE.then, XE.out, a0, bin_nil_none un_31]
  refine TF.cond (t := true) rfl (by simp (maxSteps := 2000000) only [EVS, EVL, Nat.reduceEqDiff, Nat.reduceAdd, reduceIte, XE.then, XE.out, a0]) ?_
  simp (maxSteps := 2000000) only [EVS, EVL, Nat.reduceEqDiff, Nat.reduceAdd, reduceIte, XE.then, XE.out, a0]
  refine TF.seq ?_
  refine TF.reg (call := oracle []) (by show 8 ≤ 1000000; decide) (by kernel_rfl) (oracle_ok _ (by simp)) ?_
  simp (maxSteps := 2000000) only [EVS, EVL, Nat.reduceEqDiff, Nat.reduceAdd, reduceIte, XE.then, XE.out, a0]
  refine TF.ret ?_
  try simp (maxSteps := 2000000) only [EVS, EVL, Nat.reduceEqDiff, Nat.reduceAdd, reduceIte, XE.then, XE.out, a0]
  subst h0; exact ⟨Gr.refl _, Ψ, PLe.refl _, W, ⟨rfl, rfl, rfl⟩, fun h => absurd rfl h⟩

theorem clone_89_some {β : Type} {F : β → List Dt} (hF : ∀ x, (F x).length = 2) (l : List β) (hl : l.length ≤ 1000000) {Ψ : Psi} {w : AW} {a : Addr} {m c : Nat} (W : Wt Ψ w) (hu : Den Ψ (.slice (some a) m c) (lst F l)) : CallP 89 [.slice (some a) m c] w (fun r w' => Gr w w' ∧ ∃ Ψ', PLe Ψ Ψ' ∧ Wt Ψ' w' ∧ Den Ψ' r (lst F l) ∧ Own 2 w.size w' l.length r) := by
  obtain ⟨w1, w2, r, b1, hap, g, rest⟩ := clone_core sl_31 ap_31 un_31 (by decide) hF l hl W hu
  refine CallP.of (t := 2) (args := [.slice (some a) m c]) Tryz.func89 rfl rfl (by simp) (by show _ ≤ 8; simp) ?_
  have a0 : argsE [.slice (some a) m c] 0 = .slice (some a) m c := rfl
  refine TF.seq ?_
  refine TF.reg (call := oracle []) (by show 8 ≤ 1000000; decide) (by kernel_rfl) (oracle_ok _ (by simp)) ?_
  simp (maxSteps := 2000000) only [EVS, EVL, Nat.reduceEqDiff, Nat.reduceAdd, reduceIte, XE.then, XE.out, a0]
  refine TF.seq ?_
  refine TF.seq ?_
  refine TF.reg (call := oracle []) (by show 8 ≤ 1000000; decide) (by kernel_rfl) (oracle_ok _ (by simp)) ?_
  simp (maxSteps := 2000000) only [EVS, EVL, Nat.reduceEqDiff, Nat.reduceAdd, reduceIte, XE.then, XE.out, a0, bin_nil_some un_31]
  refine TF.cond (t := false) rfl (by simp (maxSteps := 2000000) only [EVS, EVL, Nat.reduceEqDiff, Nat.reduceAdd, reduceIte, XE.then, XE.out, a0]) ?_
  simp (maxSteps := 2000000) only [EVS, EVL, Nat.reduceEqDiff, Nat.reduceAdd, reduceIte, XE.then, XE.out, a0]
  refine TF.skip ?_
  simp (maxSteps := 2000000) only [EVS, EVL, Nat.reduceEqDiff, Nat.reduceAdd, reduceIte, XE.then, XE.out, a0]
  refine TF.seq ?_
  refine TF.reg (call := oracle []) (by show 8 ≤ 1000000; decide) (by kernel_rfl) (oracle_ok _ (by simp)) ?_
  simp (maxSteps := 2000000) only [EVS, EVL, Nat.reduceEqDiff, Nat.reduceAdd, reduceIte, XE.then, XE.out, a0, b1, hap]
  refine TF.ret ?_
  try simp (maxSteps := 2000000) only [EVS, EVL, Nat.reduceEqDiff, Nat.reduceAdd, reduceIte, XE.then, XE.out, a0]
  exact ⟨g, rest⟩

theorem clone_89 {β : Type} {F : β → List Dt} (hF : ∀ x, (F x).length = 2) (l : List β) (hl : l.length ≤ 1000000) {Ψ : Psi} {w : AW} {u : Value} (W : Wt Ψ w) (hu : Den Ψ u (lst F l)) : CallP 89 [u] w (fun r w' => Gr w w' ∧ ∃ Ψ', PLe Ψ Ψ' ∧ Wt Ψ' w' ∧ Den Ψ' r (lst F l) ∧ Own 2 w.size w' l.length r) := by
  rcases hu.l_inv with ⟨c, rfl, h1, h2⟩ | ⟨b, o, c, rfl, h1, h2⟩
  · exact clone_89_nil hF l hl W (List.eq_nil_of_length_eq_zero h1)
  · exact clone_89_some hF l hl W hu

theorem ap_119 : apOk Tryz.prog 119 123 11 128 = true := by kernel_rfl
theorem un_119 : Tryz.prog.underlying 119 = some (.slice 123) := by kernel_rfl

theorem clone_90_nil {β : Type} {F : β → List Dt} (hF : ∀ x, (F x).length = 11) (l : List β) (hl : l.length ≤ 1000000) {Ψ : Psi} {w : AW} {c : Nat} (W : Wt Ψ w) (h0 : l = []) : CallP 90 [.slice none 0 c] w (fun r w' => Gr w w' ∧ ∃ Ψ', PLe Ψ Ψ' ∧ Wt Ψ' w' ∧ Den Ψ' r (lst F l) ∧ Own 11 w.size w' l.length r) := by
  refine CallP.of (t := 2) (args := [.slice none 0 c]) Tryz.func90 rfl rfl (by simp) (by show _ ≤ 8; simp) ?_
  have a0 : argsE [.slice none 0 c] 0 = .slice none 0 c := rfl
  refine TF.seq ?_
  refine TF.reg (call := oracle []) (by show 8 ≤ 1000000; decide) (by kernel_rfl) (oracle_ok _ (by simp)) ?_
  simp (maxSteps := 2000000) only [EVS, EVL, Nat.reduceEqDiff, Nat.reduceAdd, reduceIte, XE.then, XE.out, a0]
  refine TF.seq ?_
  refine TF.seq ?_
  refine TF.reg (call := oracle []) (by show 8 ≤ 1000000; decide) (by kernel_rfl) (oracle_ok _ (by simp)) ?_
  simp (maxSteps := 2000000) only [EVS, EVL, Nat.reduceEqDiff, Nat.reduceAdd, reduceIte, XE.then, XE.out, a0, bin_nil_none un_119]
  refine TF.cond (t := true) rfl (by simp (maxSteps := 2000000) only [EVS, EVL, Nat.reduceEqDiff, Nat.reduceAdd, reduceIte, XE.then, XE.out, a0]) ?_
  simp (maxSteps := 2000000) only [EVS, EVL, Nat.reduceEqDiff, Nat.reduceAdd, reduceIte, XE.then, XE.out, a0]
  refine TF.seq ?_
  refine TF.reg (call := oracle []) (by show 8 ≤ 1000000; decide) (by kernel_rfl) (oracle_ok _ (by simp)) ?_
  simp (maxSteps := 2000000) only [EVS, EVL, Nat.reduceEqDiff, Nat.reduceAdd, reduceIte, XE.then, XE.out, a0]
  refine TF.ret ?_
  try simp (maxSteps := 2000000) only [EVS, EVL, Nat.reduceEqDiff, Nat.reduceAdd, reduceIte, XE.then, XE.out, a0]
  subst h0; exact ⟨Gr.refl _, Ψ, PLe.refl _, W, ⟨rfl, rfl, rfl⟩, fun h => absurd rfl h⟩

theorem clone_90_some {β : Type} {F : β → List Dt} (hF : ∀ x, (F x).length = 11) (l : List β) (hl : l.length ≤ 1000000) {Ψ : Psi} {w : AW} {a : Addr} {m c : Nat} (W : Wt Ψ w) (hu : Den Ψ (.slice (some a) m c) (lst F l)) : CallP 90 [.slice (some a) m c] w (fun r w' => Gr w w' ∧ ∃ Ψ', PLe Ψ Ψ' ∧ Wt Ψ' w' ∧ Den Ψ' r (lst F l) ∧ Own 11 w.size w' l.length r) := by
  obtain ⟨w1, w2, r, b1, hap, g, rest⟩ := clone_core sl_119 ap_119 un_119 (by decide) hF l hl W hu
  refine CallP.of (t := 2) (args := [.slice (some a) m c]) Tryz.func90 rfl rfl (by simp) (by show _ ≤ 8; simp) ?_
  have a0 : argsE [.slice (some a) m c] 0 = .slice (some a) m c := rfl
  refine TF.seq ?_
  refine TF.reg (call := oracle []) (by show 8 ≤ 1000000; decide) (by kernel_rfl) (oracle_ok _ (by simp)) ?_
  simp (maxSteps := 2000000) only [EVS, EVL, Nat.reduceEqDiff, Nat.reduceAdd, reduceIte, XE.then, XE.out, a0]
  refine TF.seq ?_
  refine TF.seq ?_
  refine TF.reg (call := oracle []) (by show 8 ≤ 1000000; decide) (by kernel_rfl) (oracle_ok _ (by simp)) ?_
  simp (maxSteps := 2000000) only [EVS, EVL, Nat.reduceEqDiff, Nat.reduceAdd, reduceIte, XE.then, XE.out, a0, bin_nil_some un_119]
  refine TF.cond (t := false) rfl (by simp (maxSteps := 2000000) only [EVS, EVL, Nat.reduceEqDiff, Nat.reduceAdd, reduceIte, XE.then, XE.out, a0]) ?_
  simp (maxSteps := 2000000) only [EVS, EVL, Nat.reduceEqDiff, Nat.reduceAdd, reduceIte, XE.then, XE.out, a0]
  refine TF.skip ?_
  simp (maxSteps := 2000000) only [EVS, EVL, Nat.reduceEqDiff, Nat.reduceAdd, reduceIte, XE.then, XE.out, a0]
  refine TF.seq ?_
  refine TF.reg (call := oracle []) (by show 8 ≤ 1000000; decide) (by kernel_rfl) (oracle_ok _ (by simp)) ?_
  simp (maxSteps := 2000000) only [EVS, EVL, Nat.reduceEqDiff, Nat.reduceAdd, reduceIte, XE.then, XE.out, a0, b1, hap]
  refine TF.ret ?_
  try simp (maxSteps := 2000000) only [EVS, EVL, Nat.reduceEqDiff, Nat.reduceAdd, reduceIte, XE.then, XE.out, a0]
  exact ⟨g, rest⟩

theorem clone_90 {β : Type} {F : β → List Dt} (hF : ∀ x, (F x).length = 11) (l : List β) (hl : l.length ≤ 1000000) {Ψ : Psi} {w : AW} {u : Value} (W : Wt Ψ w) (hu : Den Ψ u (lst F l)) : CallP 90 [u] w (fun r w' => Gr w w' ∧ ∃ Ψ', PLe Ψ Ψ' ∧ Wt Ψ' w' ∧ Den Ψ' r (lst F l) ∧ Own 11 w.size w' l.length r) := by
  rcases hu.l_inv with ⟨c, rfl, h1, h2⟩ | ⟨b, o, c, rfl, h1, h2⟩
  · exact clone_90_nil hF l hl W (List.eq_nil_of_length_eq_zero h1)
  · exact clone_90_some hF l hl W hu

theorem ap_102 : apOk Tryz.prog 102 31 1 24 = true := by kernel_rfl
theorem un_102 : Tryz.prog.underlying 102 = some (.slice 31) := by kernel_rfl

theorem clone_91_nil {β : Type} {F : β → List Dt} (hF : ∀ x, (F x).length = 1) (l : List β) (hl : l.length ≤ 1000000) {Ψ : Psi} {w : AW} {c : Nat} (W : Wt Ψ w) (h0 : l = []) : CallP 91 [.slice none 0 c] w (fun r w' => Gr w w' ∧ ∃ Ψ', PLe Ψ Ψ' ∧ Wt Ψ' w' ∧ Den Ψ' r (lst F l) ∧ Own 1 w.size w' l.length r) := by
  refine CallP.of (t := 2) (args := [.slice none 0 c]) Tryz.func91 rfl rfl (by simp) (by show _ ≤ 8; simp) ?_
  have a0 : argsE [.slice none 0 c] 0 = .slice none 0 c := rfl
  refine TF.seq ?_
  refine TF.reg (call := oracle []) (by show 8 ≤ 1000000; decide) (by kernel_rfl) (oracle_ok _ (by simp)) ?_
  simp (maxSteps := 2000000) only [EVS, EVL, Nat.reduceEqDiff, Nat.reduceAdd, reduceIte, XE.then, XE.out, a0]
  refine TF.seq ?_
  refine TF.seq ?_
  refine TF.reg (call := oracle []) (by show 8 ≤ 1000000; decide) (by kernel_rfl) (oracle_ok _ (by simp)) ?_
  simp (maxSteps := 2000000) only [EVS, EVL, Nat.reduceEqDiff, Nat.reduceAdd, reduceIte, XE.then, XE.out, a0, bin_nil_none un_102]
  refine TF.cond (t := true) rfl (by simp (maxSteps := 2000000) only [EVS, EVL, Nat.reduceEqDiff, Nat.reduceAdd, reduceIte, XE.then, XE.out, a0]) ?_
  simp (maxSteps := 2000000) only [EVS, EVL, Nat.reduceEqDiff, Nat.reduceAdd, reduceIte, XE.then, XE.out, a0]
  refine TF.seq ?_
  refine TF.reg (call := oracle []) (by show 8 ≤ 1000000; decide) (by kernel_rfl) (oracle_ok _ (by simp)) ?_
  simp (maxSteps := 2000000) only [EVS, EVL, Nat.reduceEqDiff, Nat.reduceAdd, reduceIte, XE.then, XE.out, a0]
  refine TF.ret ?_
  try simp (maxSteps := 2000000) only [EVS, EVL, Nat.reduceEqDiff, Nat.reduceAdd, reduceIte, XE.then, XE.out, a0]
  subst h0; exact ⟨Gr.refl _, Ψ, PLe.refl _, W, ⟨rfl, rfl, rfl⟩, fun h => absurd rfl h⟩

theorem clone_91_some {β : Type} {F : β → List Dt} (hF : ∀ x, (F x).length = 1) (l : List β) (hl : l.length ≤ 1000000) {Ψ : Psi} {w : AW} {a : Addr} {m c : Nat} (W : Wt Ψ w) (hu : Den Ψ (.slice (some a) m c) (lst F l)) : CallP 91 [.slice (some a) m c] w (fun r w' => Gr w w' ∧ ∃ Ψ', PLe Ψ Ψ' ∧ Wt Ψ' w' ∧ Den Ψ' r (lst F l) ∧ Own 1 w.size w' l.length r) := by
  obtain ⟨w1, w2, r, b1, hap, g, rest⟩ := clone_core sl_102 ap_102 un_102 (by decide) hF l hl W hu
  refine CallP.of (t := 2) (args := [.slice (some a) m c]) Tryz.func91 rfl rfl (by simp) (by show _ ≤ 8; simp) ?_
  have a0 : argsE [.slice (some a) m c] 0 = .slice (some a) m c := rfl
  refine TF.seq ?_
  refine TF.reg (call := oracle []) (by show 8 ≤ 1000000; decide) (by kernel_rfl) (oracle_ok _ (by simp)) ?_
  simp (maxSteps := 2000000) only [EVS, EVL, Nat.reduceEqDiff, Nat.reduceAdd, reduceIte, XE.then, XE.out, a0]
  refine TF.seq ?_
  refine TF.seq ?_
  refine TF.reg (call := oracle []) (by show 8 ≤ 1000000; decide) (by kernel_rfl) (oracle_ok _ (by simp)) ?_
  simp (maxSteps := 2000000) only [EVS, EVL, Nat.reduceEqDiff, Nat.reduceAdd, reduceIte, XE.then, XE.out, a0, bin_nil_some un_102]
  refine TF.cond (t := false) rfl (by simp (maxSteps := 2000000) only [EVS, EVL, Nat.reduceEqDiff, Nat.reduceAdd, reduceIte, XE.then, XE.out, a0]) ?_
  simp (maxSteps := 2000000) only [EVS, EVL, Nat.reduceEqDiff, Nat.reduceAdd, reduceIte, XE.then, XE.out, a0]
  refine TF.skip ?_
  simp (maxSteps := 2000000) only [EVS, EVL, Nat.reduceEqDiff, Nat.reduceAdd, reduceIte, XE.then, XE.out, a0]
  refine TF.seq ?_
  refine TF.reg (call := oracle []) (by show 8 ≤ 1000000; decide) (by kernel_rfl) (oracle_ok _ (by simp)) ?_
  simp (maxSteps := 2000000) only [EVS, EVL, Nat.reduceEqDiff, Nat.reduceAdd, reduceIte, XE.then, XE.out, a0, b1, hap]
  refine TF.ret ?_
  try simp (maxSteps := 2000000) only [EVS, EVL, Nat.reduceEqDiff, Nat.reduceAdd, reduceIte, XE.then, XE.out, a0]
  exact ⟨g, rest⟩

theorem clone_91 {β : Type} {F : β → List Dt} (hF : ∀ x, (F x).length = 1) (l : List β) (hl : l.length ≤ 1000000) {Ψ : Psi} {w : AW} {u : Value} (W : Wt Ψ w) (hu : Den Ψ u (lst F l)) : CallP 91 [u] w (fun r w' => Gr w w' ∧ ∃ Ψ', PLe Ψ Ψ' ∧ Wt Ψ' w' ∧ Den Ψ' r (lst F l) ∧ Own 1 w.size w' l.length r) := by
  rcases hu.l_inv with ⟨c, rfl, h1, h2⟩ | ⟨b, o, c, rfl, h1, h2⟩
  · exact clone_91_nil hF l hl W (List.eq_nil_of_length_eq_zero h1)
  · exact clone_91_some hF l hl W hu

theorem ap_62 : apOk Tryz.prog 62 66 4 56 = true := by kernel_rfl
theorem un_62 : Tryz.prog.underlying 62 = some (.slice 66) := by kernel_rfl

theorem clone_92_nil {β : Type} {F : β → List Dt} (hF : ∀ x, (F x).length = 4) (l : List β) (hl : l.length ≤ 1000000) {Ψ : Psi} {w : AW} {c : Nat} (W : Wt Ψ w) (h0 : l = []) : CallP 92 [.slice none 0 c] w (fun r w' => Gr w w' ∧ ∃ Ψ', PLe Ψ Ψ' ∧ Wt Ψ' w' ∧ Den Ψ' r (lst F l) ∧ Own 4 w.size w' l.length r) := by
  refine CallP.of (t := 2) (args := [.slice none 0 c]) Tryz.func92 rfl rfl (by simp) (by show _ ≤ 8; simp) ?_
  have a0 : argsE [.slice none 0 c] 0 = .slice none 0 c := rfl
  refine TF.seq ?_
  refine TF.reg (call := oracle []) (by show 8 ≤ 1000000; decide) (by kernel_rfl) (oracle_ok _ (by simp)) ?_
  simp (maxSteps := 2000000) only [EVS, EVL, Nat.reduceEqDiff, Nat.reduceAdd, reduceIte, XE.then, XE.out, a0]
  refine TF.seq ?_
  refine TF.seq ?_
  refine TF.reg (call := oracle []) (by show 8 ≤ 1000000; decide) (by kernel_rfl) (oracle_ok _ (by simp)) ?_
  simp (maxSteps := 2000000) only [EVS, EVL, Nat.reduceEqDiff, Nat.reduceAdd, reduceIte, XE.then, XE.out, a0, bin_nil_none un_62]
  refine TF.cond (t := true) rfl (by simp (maxSteps := 2000000) only [EVS, EVL, Nat.reduceEqDiff, Nat.reduceAdd, reduceIte, XE.then, XE.out, a0]) ?_
  simp (maxSteps := 2000000) only [EVS, EVL, Nat.reduceEqDiff, Nat.reduceAdd, reduceIte, XE.then, XE.out, a0]
  refine TF.seq ?_
  refine TF.reg (call := oracle []) (by show 8 ≤ 1000000; decide) (by kernel_rfl) (oracle_ok _ (by simp)) ?_
  simp (maxSteps := 2000000) only [EVS, EVL, Nat.reduceEqDiff, Nat.reduceAdd, reduceIte, XE.then, XE.out, a0]
  refine TF.ret ?_
  try simp (maxSteps := 2000000) only [EVS, EVL, Nat.reduceEqDiff, Nat.reduceAdd, reduceIte, XE.then, XE.out, a0]
  subst h0; exact ⟨Gr.refl _, Ψ, PLe.refl _, W, ⟨rfl, rfl, rfl⟩, fun h => absurd rfl h⟩

theorem clone_92_some {β : Type} {F : β → List Dt} (hF : ∀ x, (F x).length = 4) (l : List β) (hl : l.length ≤ 1000000) {Ψ : Psi} {w : AW} {a : Addr} {m c : Nat} (W : Wt Ψ w) (hu : Den Ψ (.slice (some a) m c) (lst F l)) : CallP 92 [.slice (some a) m c] w (fun r w' => Gr w w' ∧ ∃ Ψ', PLe Ψ Ψ' ∧ Wt Ψ' w' ∧ Den Ψ' r (lst F l) ∧ Own 4 w.size w' l.length r) := by
  obtain ⟨w1, w2, r, b1, hap, g, rest⟩ := clone_core sl_62 ap_62 un_62 (by decide) hF l hl W hu
  refine CallP.of (t := 2) (args := [.slice (some a) m c]) Tryz.func92 rfl rfl (by simp) (by show _ ≤ 8; simp) ?_
  have a0 : argsE [.slice (some a) m c] 0 = .slice (some a) m c := rfl
  refine TF.seq ?_
  refine TF.reg (call := oracle []) (by show 8 ≤ 1000000; decide) (by kernel_rfl) (oracle_ok _ (by simp)) ?_
  simp (maxSteps := 2000000) only [EVS, EVL, Nat.reduceEqDiff, Nat.reduceAdd, reduceIte, XE.then, XE.out, a0]
  refine TF.seq ?_
  refine TF.seq ?_
  refine TF.reg (call := oracle []) (by show 8 ≤ 1000000; decide) (by kernel_rfl) (oracle_ok _ (by simp)) ?_
  simp (maxSteps := 2000000) only [EVS, EVL, Nat.reduceEqDiff, Nat.reduceAdd, reduceIte, XE.then, XE.out, a0, bin_nil_some un_62]
  refine TF.cond (t := false) rfl (by simp (maxSteps := 2000000) only [EVS, EVL, Nat.reduceEqDiff, Nat.reduceAdd, reduceIte, XE.then, XE.out, a0]) ?_
  simp (maxSteps := 2000000) only [EVS, EVL, Nat.reduceEqDiff, Nat.reduceAdd, reduceIte, XE.then, XE.out, a0]
  refine TF.skip ?_
  simp (maxSteps := 2000000) only [EVS, EVL, Nat.reduceEqDiff, Nat.reduceAdd, reduceIte, XE.then, XE.out, a0]
  refine TF.seq ?_
  refine TF.reg (call := oracle []) (by show 8 ≤ 1000000; decide) (by kernel_rfl) (oracle_ok _ (by simp)) ?_
  simp (maxSteps := 2000000) only [EVS, EVL, Nat.reduceEqDiff, Nat.reduceAdd, reduceIte, XE.then, XE.out, a0, b1, hap]
  refine TF.ret ?_
  try simp (maxSteps := 2000000) only [EVS, EVL, Nat.reduceEqDiff, Nat.reduceAdd, reduceIte, XE.then, XE.out, a0]
  exact ⟨g, rest⟩

theorem clone_92 {β : Type} {F : β → List Dt} (hF : ∀ x, (F x).length = 4) (l : List β) (hl : l.length ≤ 1000000) {Ψ : Psi} {w : AW} {u : Value} (W : Wt Ψ w) (hu : Den Ψ u (lst F l)) : CallP 92 [u] w (fun r w' => Gr w w' ∧ ∃ Ψ', PLe Ψ Ψ' ∧ Wt Ψ' w' ∧ Den Ψ' r (lst F l) ∧ Own 4 w.size w' l.length r) := by
  rcases hu.l_inv with ⟨c, rfl, h1, h2⟩ | ⟨b, o, c, rfl, h1, h2⟩
  · exact clone_92_nil hF l hl W (List.eq_nil_of_length_eq_zero h1)
  · exact clone_92_some hF l hl W hu

end Go.Proofs.YtkjbbbjebidniaaGreatDoor
