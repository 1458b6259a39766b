/- Two structs of plain fields: equal? -/
import Derived.Test.YtkjbbbjebidniaaGreatDoorZX5
namespace Go.Proofs.YtkjbbbjebidniaaGreatDoor
open Go Go.RowKit
set_option linter.unusedSimpArgs false
set_option linter.unusedVariables false
set_option maxRecDepth 100000

theorem eq_int {P : Program} (d : Nat) {t : Nat} {k : IntKind} (hu : P.underlying t = some (.int k)) (k1 : IntKind) (a b : Int) : pureA P (Op.equalIn (d + 1) t (.int k1 a) (.int k1 b)) = some (a == b) := by
  unfold Op.equalIn
  rw [pureA_bind, pureA_underlying hu]
  simp only [Option.bind_some, if_true]
  rfl
theorem eq_str {P : Program} (d : Nat) {t : Nat} (hu : P.underlying t = some .string) (a b : ByteArray) : pureA P (Op.equalIn (d + 1) t (.string a) (.string b)) = some (a == b) := by
  unfold Op.equalIn
  rw [pureA_bind, pureA_underlying hu]
  rfl

/-- How a loop over fields goes on. -/
theorem pureA_forIn_nil {P : Program} {α σ : Type} (f : α → σ → Sem (ForInStep σ)) (s : σ) : pureA P (forIn ([] : List α) s f) = some s := by rw [List.forIn_nil]; rfl
theorem pureA_forIn_cons {P : Program} {α σ : Type} (f : α → σ → Sem (ForInStep σ)) (s : σ) (a : α) (l : List α) : pureA P (forIn (a :: l) s f) = (pureA P (f a s)).bind fun r => match r with
    | .done s => some s
    | .yield s => pureA P (forIn l s f) := by
  rw [List.forIn_cons, pureA_bind]
  congr 1
  funext r
  cases r <;> rfl

theorem field_step {P : Program} {d t off : Nat} {xs ys : Array Value} {u v : Value} {b : Bool} (s : Option Bool × Unit) (hx : pureA P (part t xs off) = some u) (hy : pureA P (part t ys off) = some v) (he : pureA P (Op.equalIn d t u v) = some b) :
    pureA P (do
      let a ← part t xs off
      let c ← part t ys off
      let q ← Op.equalIn d t a c
      if (!q) = true then pure (ForInStep.done ((some false, ()) : Option Bool × Unit)) else pure (ForInStep.yield (none, ()))) = some (if b then ForInStep.yield (none, ()) else ForInStep.done (some false, ())) := by
  rw [pureA_bind, hx]; simp only [Option.bind_some]
  rw [pureA_bind, hy]; simp only [Option.bind_some]
  rw [pureA_bind, he]; simp only [Option.bind_some]
  cases b <;> rfl

theorem eq52 (x y : Val3) : pureA Tryz.prog (Op.equal 52 (valV x) (valV y)) = some (x.kind == y.kind && (x.int == y.int && x.text == y.text)) := by
  have h52 : ∃ f0 f1 f2 : Field, Tryz.prog.underlying 52 = some (.struct #[f0, f1, f2]) ∧ (f0.name ≠ "_" ∧ f0.type = 3 ∧ f0.offset = 0) ∧ (f1.name ≠ "_" ∧ f1.type = 2 ∧ f1.offset = 1) ∧ (f2.name ≠ "_" ∧ f2.type = 9 ∧ f2.offset = 2) := ⟨{ name := "Kind", type := 3, offset := 0, embedded := false, tag := "", pkgPath := "", byteOffset := 0 }, { name := "Int", type := 2, offset := 1, embedded := false, tag := "", pkgPath := "", byteOffset := 8 }, { name := "Text", type := 9, offset := 2, embedded := false, tag := "", pkgPath := "", byteOffset := 16 }, by kernel_rfl, by decide, by decide, by decide⟩
  obtain ⟨f0, f1, f2, hu, ⟨a1, a2, a3⟩, ⟨b1, b2, b3⟩, ⟨c1, c2, c3⟩⟩ := h52
  have hs : Tryz.prog.stoodInHeld 52 = false := by kernel_rfl
  have u3 : Tryz.prog.underlying 3 = some (.int .i64) := by kernel_rfl
  have u2 : Tryz.prog.underlying 2 = some (.int .i64) := by kernel_rfl
  have u9 : Tryz.prog.underlying 9 = some .string := by kernel_rfl
  have p0 : ∀ p q r : Value, pureA Tryz.prog (part 3 #[p, q, r] 0) = some p := fun p q r => by kernel_rfl
  have p1 : ∀ p q r : Value, pureA Tryz.prog (part 2 #[p, q, r] 1) = some q := fun p q r => by kernel_rfl
  have p2 : ∀ p q r : Value, pureA Tryz.prog (part 9 #[p, q, r] 2) = some r := fun p q r => by kernel_rfl
  show pureA _ (Op.equalIn (9999 + 1) 52 _ _) = _
  unfold Op.equalIn
  rw [pureA_bind, pureA_underlying hu]
  simp only [Option.bind_some]
  rw [pureA_bind]
  show (some Tryz.prog).bind _ = _
  simp only [Option.bind_some, hs, Bool.false_eq_true, if_false]
  rw [pureA_bind, List.forIn_toArray, pureA_forIn_cons]
  simp only [a1, a2, a3, b1, b2, b3, c1, c2, c3, ne_eq, not_false_eq_true, if_true]
  rw [field_step (none, ()) (p0 _ _ _) (p0 _ _ _) (eq_int 9998 u3 _ _ _)]
  cases h1 : (x.kind == y.kind)
  · rfl
  simp only [if_true, Option.bind_some]
  rw [pureA_forIn_cons]
  simp only [a1, a2, a3, b1, b2, b3, c1, c2, c3, ne_eq, not_false_eq_true, if_true]
  rw [field_step (none, ()) (p1 _ _ _) (p1 _ _ _) (eq_int 9998 u2 _ _ _)]
  cases h2 : (x.int == y.int)
  · rfl
  simp only [if_true, Option.bind_some]
  rw [pureA_forIn_cons]
  simp only [a1, a2, a3, b1, b2, b3, c1, c2, c3, ne_eq, not_false_eq_true, if_true]
  rw [field_step (none, ()) (p2 _ _ _) (p2 _ _ _) (eq_str 9998 u9 _ _)]
  cases h3 : (x.text == y.text)
  · rfl
  simp only [if_true, Option.bind_some]
  rw [pureA_forIn_nil]
  rfl

def vEq (x y : Val3) : Bool := x.kind == y.kind && (x.int == y.int && x.text == y.text)
theorem ba_beq (a b : ByteArray) : (a == b) = true ↔ a = b := by
  obtain ⟨a⟩ := a
  obtain ⟨b⟩ := b
  show (a == b) = true ↔ _
  simp
theorem vEq_iff (x y : Val3) : vEq x y = true ↔ x = y := by
  unfold vEq
  constructor
  · intro h
    simp only [Bool.and_eq_true, beq_iff_eq, ba_beq] at h
    exact Val3.ext' h.1 h.2.1 h.2.2
  · rintro rfl; simp [ba_beq]

theorem bin_vneq (x y : Operand) (a b : Val3) : binV Tryz.prog .neq 52 x y (valV a) (valV b) = some (.bool (!vEq a b)) := by
  have hg : pureA Tryz.prog (eqGuard .neq 52 x y (valV a) (valV b)) = some () := by kernel_rfl
  have hb : binOp .neq 52 (valV a) (valV b) = (Op.equal 52 (valV a) (valV b) >>= fun q => pure (.bool !q)) := by
    simp [binOp]
  unfold binV
  have hf : flatV (valV a) = true := rfl
  have hf2 : flatV (valV b) = true := rfl
  simp only [hf, hf2, Bool.and_self, cond_true]
  rw [pureA_bind, hg]
  simp only [Option.bind_some]
  rw [hb, pureA_bind, eq52]
  rfl

def pEq (x y : Int × Int) : Bool := x.1 == y.1 && x.2 == y.2
theorem pEq_iff (x y : Int × Int) : pEq x y = true ↔ x = y := by
  unfold pEq
  constructor
  · intro h
    simp only [Bool.and_eq_true, beq_iff_eq] at h
    exact Prod.ext h.1 h.2
  · rintro rfl; simp
abbrev rowP (p : Int × Int) : Value := .agg #[.int .i64 p.1, .int .i64 p.2]

theorem eq41 (x y : Int × Int) : pureA Tryz.prog (Op.equal 41 (rowP x) (rowP y)) = some (pEq x y) := by
  have h52 : ∃ f0 f1 : Field, Tryz.prog.underlying 41 = some (.struct #[f0, f1]) ∧ (f0.name ≠ "_" ∧ f0.type = 3 ∧ f0.offset = 0) ∧ (f1.name ≠ "_" ∧ f1.type = 3 ∧ f1.offset = 1) := ⟨{ name := "Table", type := 3, offset := 0, embedded := false, tag := "", pkgPath := "", byteOffset := 0 }, { name := "Seq", type := 3, offset := 1, embedded := false, tag := "", pkgPath := "", byteOffset := 8 }, by kernel_rfl, by decide, by decide⟩
  obtain ⟨f0, f1, hu, ⟨a1, a2, a3⟩, ⟨b1, b2, b3⟩⟩ := h52
  have hs : Tryz.prog.stoodInHeld 41 = false := by kernel_rfl
  have u3 : Tryz.prog.underlying 3 = some (.int .i64) := by kernel_rfl
  have p0 : ∀ p q : Value, pureA Tryz.prog (part 3 #[p, q] 0) = some p := fun p q => by kernel_rfl
  have p1 : ∀ p q : Value, pureA Tryz.prog (part 3 #[p, q] 1) = some q := fun p q => by kernel_rfl
  show pureA _ (Op.equalIn (9999 + 1) 41 _ _) = _
  unfold Op.equalIn
  rw [pureA_bind, pureA_underlying hu]
  simp only [Option.bind_some]
  rw [pureA_bind]
  show (some Tryz.prog).bind _ = _
  simp only [Option.bind_some, hs, Bool.false_eq_true, if_false]
  rw [pureA_bind, List.forIn_toArray, pureA_forIn_cons]
  simp only [a1, a2, a3, b1, b2, b3, ne_eq, not_false_eq_true, if_true]
  rw [field_step (none, ()) (p0 _ _) (p0 _ _) (eq_int 9998 u3 _ _ _)]
  unfold pEq
  cases h1 : (x.1 == y.1)
  · rfl
  simp only [if_true, Option.bind_some]
  rw [pureA_forIn_cons]
  simp only [a1, a2, a3, b1, b2, b3, ne_eq, not_false_eq_true, if_true]
  rw [field_step (none, ()) (p1 _ _) (p1 _ _) (eq_int 9998 u3 _ _ _)]
  cases h2 : (x.2 == y.2)
  · rfl
  simp only [if_true, Option.bind_some]
  rw [pureA_forIn_nil]
  rfl

theorem bin_peql (x y : Operand) (a b : Int × Int) : binV Tryz.prog .eql 41 x y (rowP a) (rowP b) = some (.bool (pEq a b)) := by
  have hg : pureA Tryz.prog (eqGuard .eql 41 x y (rowP a) (rowP b)) = some () := by kernel_rfl
  have hb : binOp .eql 41 (rowP a) (rowP b) = (Op.equal 41 (rowP a) (rowP b) >>= fun q => pure (.bool q)) := by
    simp [binOp]
  unfold binV
  have hf : flatV (rowP a) = true := rfl
  have hf2 : flatV (rowP b) = true := rfl
  simp only [hf, hf2, Bool.and_self, cond_true]
  rw [pureA_bind, hg]
  simp only [Option.bind_some]
  rw [hb, pureA_bind, eq41]
  rfl
theorem bin_pneq (x y : Operand) (a b : Int × Int) : binV Tryz.prog .neq 41 x y (rowP a) (rowP b) = some (.bool (!pEq a b)) := by
  have hg : pureA Tryz.prog (eqGuard .neq 41 x y (rowP a) (rowP b)) = some () := by kernel_rfl
  have hb : binOp .neq 41 (rowP a) (rowP b) = (Op.equal 41 (rowP a) (rowP b) >>= fun q => pure (.bool !q)) := by
    simp [binOp]
  unfold binV
  have hf : flatV (rowP a) = true := rfl
  have hf2 : flatV (rowP b) = true := rfl
  simp only [hf, hf2, Bool.and_self, cond_true]
  rw [pureA_bind, hg]
  simp only [Option.bind_some]
  rw [hb, pureA_bind, eq41]
  rfl

end Go.Proofs.YtkjbbbjebidniaaGreatDoor
