/- Rows of one's own whose elements lead to older blocks alone. -/
import Derived.Test.YthjjolmmdgnjfaaDoorA9
namespace Go.Proofs.YthjjolmmdgnjfaaDoor
open Go.RowKit Go.Proofs.YthjjolmmdgnjfaaDoorW.PrintWords PPhysicalConditions
set_option linter.unusedVariables false
/-- A row of one's own; its elements lead to the blocks of E alone, and its own block is none of them. -/
def T {α : Type} (d : Kd α) (e : Nat) (w : World) (base : Nat) (E : Nat → Prop) (v : Value) (xs : List α) : Prop := Kd.N d e w base (fun k => E k ∨ some k = v.ownBlock) v xs ∧ ∀ k, E k → k < w.heap.size ∧ v.ownBlock ≠ some k
section
variable {α : Type} {d : Kd α} {e base : Nat} {E : Nat → Prop} {w w1 : World} {v : Value} {xs : List α}
theorem T_nil (d : Kd α) (e : Nat) (w : World) (base : Nat) (E : Nat → Prop) (hE : ∀ k, E k → k < w.heap.size) : T d e w base E (.slice none 0 0) [] := ⟨Kd.N_nil _ _ _ _ _, fun k hk => ⟨hE k hk, by simp [Value.ownBlock]⟩⟩
theorem T_base (h : T d e w base E v xs) : ∀ k, v.ownBlock = some k → base ≤ k := Kd.N_base h.1
theorem T_lt (h : T d e w base E v xs) : ∀ k, v.ownBlock = some k → k < w.heap.size := Kd.N_lt h.1
theorem T_free (h : T d e w base E v xs) : ∀ k, v.ownBlock = some k → ¬ E k := fun k hk he => (h.2 k he).2 hk
theorem T_below (h : T d e w base E v xs) (hb : Below w.heap.size w w1) : T d e w1 base E v xs := ⟨Kd.N_below h.1 hb, fun k hk => ⟨Nat.lt_of_lt_of_le (h.2 k hk).1 hb.size, (h.2 k hk).2⟩⟩
theorem T_grown (h : T d e w base E v xs) {u : Value} (hu : ∀ k, u.ownBlock = some k → ¬ E k) (hne : ∀ k, u.ownBlock = some k → v.ownBlock ≠ some k) (hg : w.grownBy w1 u.ownBlock) : T d e w1 base E v xs :=
  ⟨Kd.N_grown h.1 hg (fun k hk he => by
    rcases hk with hk | hk
    · exact hu k he.symm hk
    · exact hne k he.symm hk.symm), fun k hk => ⟨Nat.lt_of_lt_of_le (h.2 k hk).1 hg.size, (h.2 k hk).2⟩⟩
theorem T_reads (h : T d e w base E v xs) : ∃ A c, v = .slice A xs.length c ∧ xs.length ≤ c ∧ d.C w A xs.length xs := Kd.N_reads h.1
theorem T_more {E' : Nat → Prop} (h : T d e w base E v xs) (hE : ∀ k, E k → E' k) (hl : ∀ k, E' k → k < w.heap.size ∧ v.ownBlock ≠ some k) : T d e w base E' v xs := ⟨Kd.N_mono h.1 (fun k hk => hk.imp (hE k) id), hl⟩
theorem T_made (hb : base ≤ w.heap.size) (hm : xs.length ≤ 9223372036854775807) (hE : ∀ k, E k → k < w.heap.size) {inner : List Value} (hrep : Reps (Kd.FK d w E) d.sz xs inner) : T d e (w.alloc (.cells inner.toArray e)) base E (.slice (some ⟨w.heap.size, 0, none⟩) xs.length xs.length) xs :=
  ⟨N_lit_at d base e (okp := E) hrep (fun _ h => .inl h) (.inr (by simp [Value.ownBlock])) hb hm, fun k hk => ⟨by rw [World.size_alloc]; have := hE k hk; omega, by have := hE k hk; simp [Value.ownBlock]; omega⟩⟩
end
section
variable {P : Program} {ops : Array Oper} {rest : List Oper} {o : Oper} {a : Act} {Q : Exit → Act → World → Prop} {Kc : Act → World → Prop} {α : Type}
theorem T_append (d : Kd α) {w0 W : World} (base : Nat) (E : Nat → Prop) (hgd : o.guard = none) (s x : Operand) (t e : TypeId) (z : Value) (bytes : Nat)
    (ho : o.op = .call { callee := .builtin .append, args := #[s, x], argTypes := #[t, t] })
    (ht : P.underlying t = some (.slice e)) (hinfo : (P.info? e).map (fun i => (i.zero, i.size, i.bytes)) = some (some z, d.sz, bytes)) (hz : z.cells.size = d.sz) (hs0 : 0 < d.sz) (hb0 : 0 < bytes)
    (v : Value) (xs : List α) (p : α) (cs : List Value) (hs : a.eval s = v) (hx : a.eval x = .slice (some ⟨W.heap.size, 0, none⟩) 1 1) (hp : Kd.FK d W E p cs)
    (HO : T d e W base E v xs) (HB : Below base w0 W) (hbase : base ≤ W.heap.size) (hl : (xs.length + 1) * bytes ≤ 140737488355328)
    (h : ∀ v1 w1, T d e w1 base E v1 (xs ++ [p]) → Below base w0 w1 → W.grownBy w1 v.ownBlock → (v1.ownBlock = v.ownBlock ∨ ∃ b, v1.ownBlock = some b ∧ W.heap.size ≤ b) → wpList P ops Q rest (a.put o.dst v1) w1) :
    wpList P ops Q (o :: rest) a (W.alloc (.cells cs.toArray e)) := by
  obtain ⟨⟨h0, rows, hlr, hR, hf⟩, hfree⟩ := id HO
  refine Kd.R_append (Kd.raw d.sz) base hgd s x t e z bytes ho ht hinfo hz hs0 hb0 v rows cs cs (fun _ => True) (fun _ => False) hs hx (Kd.FK_raw hp) (fun _ hk => hk.elim) (fun _ _ => trivial) (Kd.raw_any hR) HB hbase (by rw [hlr]; exact hl) ?_
  intro v1 w1 hr hb hg hat
  have hfree1 : ∀ k, E k → k < w1.heap.size ∧ v1.ownBlock ≠ some k := by
    intro k hk
    obtain ⟨f1, f2⟩ := hfree k hk
    refine ⟨Nat.lt_of_lt_of_le f1 hg.size, ?_⟩
    rcases hat with hat | ⟨b, hb, hle⟩
    · rw [hat]; exact f2
    · rw [hb]
      intro he
      injection he with he
      omega
  have step : ∀ {x : α} {c : List Value}, Kd.FK d W E x c → Kd.FK d w1 (fun k => (E k ∨ some k = v1.ownBlock) ∧ some k ≠ v1.ownBlock) x c := by
    intro x c hq
    refine Kd.FK_mono (Kd.FK_step hq (fun k hk hlt => hg.block k hlt (fun he => (hfree k hk).2 he.symm))) (fun k hk => ⟨.inl hk, fun he => (hfree1 k hk).2 he.symm⟩)
  refine h v1 w1 ⟨⟨fun k hk => .inr hk.symm, rows ++ [cs], by rw [List.length_append, List.length_append, hlr]; rfl, Kd.raw_tight hr, fun j x c hx hc => ?_⟩, hfree1⟩ hb hg hat
  rcases Nat.lt_or_ge j xs.length with hlt | hge
  · rw [List.getElem?_append_left hlt] at hx
    rw [List.getElem?_append_left (by omega)] at hc
    exact step (Kd.FK_mono (hf j x c hx hc) (fun k hk => hk.1.resolve_right hk.2))
  · rw [List.getElem?_append_right hge] at hx
    rw [List.getElem?_append_right (by omega), hlr] at hc
    rcases hj : j - xs.length with _ | j'
    · rw [hj] at hx hc
      simp only [List.getElem?_cons_zero, Option.some.injEq] at hx hc
      subst hx
      subst hc
      exact step hp
    · rw [hj] at hx
      simp at hx
end
theorem FK_int (W : World) (ok : Nat → Prop) (x : Int) : Kd.FK (Kd.int .i64) W ok x [.int .i64 x] := fun _ _ => rfl
theorem int_info : (Tryd.prog.info? 3).map (fun i => (i.zero, i.size, i.bytes)) = some (some (.int .i64 0), 1, 8) := by kernel_rfl
end Go.Proofs.YthjjolmmdgnjfaaDoor
