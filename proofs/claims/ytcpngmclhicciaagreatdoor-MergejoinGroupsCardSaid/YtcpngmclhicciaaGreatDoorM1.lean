/- The comparisons, keys, sorted rows, weights, and the iterator over groups: walks of the functions, each with its contract. -/
import Derived.Test.YtcpngmclhicciaaGreatDoorPMergejoinGroupsx0
import Derived.WalkLawsBesides
import Derived.WalkSpells
import Derived.Test.YtcpngmclhicciaaGreatDoorShelf
import Derived.StillTailTactics
import Derived.Deep.RegionHeld3
import Derived.Outline
import Derived.Lib.Hide
import Derived.RangeFuncNested
import Derived.RangeFuncBound
import Derived.RangeFuncCalls
import Derived.RangeFuncLeaves
import Derived.Shelf.Abstract
import Derived.Shelf.RegionOpen
import Derived.WalkKit
import Derived.OwnWalkIn
import Derived.TacticsInMore
import Derived.LoopNIn
import Derived.LoopIn
/- General lemmas: blocks of one's own, rows of one's own, what stays readable. -/
namespace Go.Proofs.YtcpngmclhicciaaGreatDoor
open Go.RowKit Go.Proofs.YtcpngmclhicciaaGreatDoorW.PrintWords PMergejoinGroups
set_option linter.unusedVariables false
set_option linter.unusedSimpArgs false
/-- The cells of a block of seven. -/
theorem box7 {W : World} {g : Nat} {T : TypeId} {a0 a1 a2 a3 a4 a5 a6 : Value} (h : W.heap[g]? = some (.cells #[a0, a1, a2, a3, a4, a5, a6] T (0, 0))) :
    (W.cell? ⟨g, 0, none⟩ = some a0 ∧ W.cell? ⟨g, 1, none⟩ = some a1 ∧ W.cell? ⟨g, 2, none⟩ = some a2 ∧ W.cell? ⟨g, 3, none⟩ = some a3 ∧ W.cell? ⟨g, 4, none⟩ = some a4 ∧ W.cell? ⟨g, 5, none⟩ = some a5 ∧ W.cell? ⟨g, 6, none⟩ = some a6) :=
  ⟨(blk_cell h 0).trans rfl, (blk_cell h 1).trans rfl, (blk_cell h 2).trans rfl, (blk_cell h 3).trans rfl, (blk_cell h 4).trans rfl, (blk_cell h 5).trans rfl, (blk_cell h 6).trans rfl⟩
/-- Block g of W was written, nothing else. -/
structure Put (W : World) (g : Nat) (W1 : World) : Prop where
  os : W1.os = W.os
  tape : W1.tape = W.tape
  output : W1.output = W.output
  size : W1.heap.size = W.heap.size
  block : ∀ i, i ≠ g → W1.heap[i]? = W.heap[i]?
theorem Put.grown {W W1 : World} {g : Nat} (h : Put W g W1) : W.grownBy W1 (some g) := ⟨h.os, h.tape, h.output, Nat.le_of_eq h.size.symm, fun i _ hne => h.block i (fun e => hne (by rw [e]))⟩
theorem Put.below {W W1 w0 : World} {g B : Nat} (h : Put W g W1) (hb : Below B w0 W) (hg : B ≤ g) : Below B w0 W1 :=
  ⟨h.os.trans hb.os, h.tape.trans hb.tape, h.output.trans hb.output, by rw [h.size]; exact hb.size, fun i hi => (h.block i (by omega)).trans (hb.block i hi)⟩
theorem Put.blk {W W1 : World} {g i : Nat} {o : Obj} (h : Put W g W1) (hb : W.heap[i]? = some o) (hne : i ≠ g) : W1.heap[i]? = some o := (h.block i hne).trans hb
theorem Put.F {α : Type} {d : Kd α} {W W1 : World} {g n : Nat} {ok : Nat → Prop} {A : Option Addr} {xs : List α} (h : Put W g W1) (hf : Kd.F d W ok A n xs) (hok : ∀ k, ok k → k ≠ g) : Kd.F d W1 ok A n xs :=
  Kd.F_step hf (fun k hk _ => h.block k (hok k hk))
theorem put_setCells {W : World} {g : Nat} {vs : List Value} {cs : Array Value} {T : TypeId} (hb : W.heap[g]? = some (.cells cs T (0, 0))) (hs : vs.length = cs.size) :
    (W.setCells g 0 vs).heap[g]? = some (.cells vs.toArray T (0, 0)) ∧ Put W g (W.setCells g 0 vs) := by
  obtain ⟨cur', h1, h2, h3⟩ := setCells_row (g := g) (e := T) vs 0 W cs hb (by omega)
  obtain ⟨h4, h5, h6, h7⟩ := setCells_same g vs 0 W
  have h8 : cur' = vs.toArray := by
    apply Array.toList_inj.1
    rw [h3]
    have : cs.toList.drop (0 + vs.length) = [] := List.drop_eq_nil_of_le (by rw [Array.length_toList]; omega)
    rw [this]
    simp
  subst h8
  exact ⟨h1, h4, h5, h6, h7, fun i hi => setCells_far vs 0 i hi⟩
section
variable {P : Program} {ops : Array Oper} {rest : List Oper} {o : Oper} {a : Act} {Q : Exit → Act → World → Prop}
/-- A whole block of one's own is written. -/
theorem put_event {W : World} (hgd : o.guard = none) (hN : o.dst = none) {t : TypeId} {p v : Operand} (ho : o.op = .store t p v) {g : Nat} {cs : Array Value} {vs : List Value} {T : TypeId}
    (hb : W.heap[g]? = some (.cells cs T (0, 0))) (hp : a.eval p = .pointer (some ⟨g, 0, none⟩)) (hv : (a.eval v).cells.toList = vs) (hs : vs.length = cs.size) (ht : (P.info? t).map (·.size) = some vs.length) (h1 : ∀ q ∈ vs, q.oneCell' = true)
    (h : ∀ W1, W1.heap[g]? = some (.cells vs.toArray T (0, 0)) → Put W g W1 → wpList P ops Q rest a W1) : wpList P ops Q (o :: rest) a W := by
  obtain ⟨h2, h3⟩ := put_setCells hb hs
  have hrun := run_store_run (P := P) (o := 0) t (a.eval v) vs hb hv ht (by omega) h1
  refine wpList_plain hgd fun K hK => ?_
  unfold Oper.wp execOp
  simp only [ho, hp, Sem.run_bind, Sem.run_pure, Result.andThen_ok, hrun]
  show K (a.put o.dst undef) _
  rw [hN]
  exact hK a _ (h _ h2 h3)
/-- One cell of a block of one's own is written. -/
theorem put1_event {W : World} (hgd : o.guard = none) (hN : o.dst = none) {t : TypeId} {p x : Operand} (ho : o.op = .store t p x) {g j : Nat} {cs : Array Value} {v : Value} {T : TypeId}
    (hb : W.heap[g]? = some (.cells cs T (0, 0))) (hp : a.eval p = .pointer (some ⟨g, j, none⟩)) (hv : (a.eval x).cells.toList = [v]) (hs : j + 1 ≤ cs.size) (ht : (P.info? t).map (·.size) = some 1) (h1 : v.oneCell' = true)
    (h : ∀ W1, W1.heap[g]? = some (.cells (cs.setIfInBounds j v) T (0, 0)) → Put W g W1 → wpList P ops Q rest a W1) : wpList P ops Q (o :: rest) a W := by
  have h2 := blk_set hb j v
  obtain ⟨h4, h5, h6, h7⟩ := setCells_same g [v] j W
  have h3 : Put W g (W.setCell ⟨g, j, none⟩ v) := ⟨h4, h5, h6, h7, fun i hi => setCells_far [v] j i hi⟩
  have hrun : (Instr.storeAt t (.pointer (some ⟨g, j, none⟩)) (a.eval x)).run P W = .ok () (W.setCell ⟨g, j, none⟩ v) := run_store_run (P := P) (o := j) t (a.eval x) [v] hb hv ht hs (by simpa using h1)
  refine wpList_plain hgd fun K hK => ?_
  unfold Oper.wp execOp
  simp only [ho, hp, Sem.run_bind, Sem.run_pure, Result.andThen_ok, hrun]
  show K (a.put o.dst undef) _
  rw [hN]
  exact hK a _ (h _ h2 h3)
end
theorem cell_later {w wr : World} (hb : Below w.heap.size w wr) {a : Addr} {v : Value} (h : w.cell? a = some v) : wr.cell? a = some v := (hb.cell (World.block_lt_of_cell? w a h)).trans h
theorem cell_al {w : World} {a : Addr} {v : Value} (h : w.cell? a = some v) (o : Obj) : (w.alloc o).cell? a = some v := cell_later (below_alloc (Below.refl _ _) o) h
theorem succ_toNat {i : Int} (h0 : 0 ≤ i) : (i + 1).toNat = i.toNat + 1 := by omega
theorem wrap_succ {i : Int} {n : Nat} (h0 : 0 ≤ i) (h1 : i < n) (hn : n ≤ 9223372036854775807) : wrap64 (i + 1) = i + 1 := by unfold wrap64; omega
theorem ret_b {a b : Bool} (h : a = b) : Ending.returned (.bool a) = .returned (.bool b) := by rw [h]
theorem bytes_eq {a b : ByteArray} (h : a.toList = b.toList) : a = b := by
  rw [ByteArray.toList_eq, ByteArray.toList_eq] at h
  obtain ⟨⟨a⟩⟩ := a
  obtain ⟨⟨b⟩⟩ := b
  simp_all
theorem R_lit_at {α : Type} (d : Kd α) {W : World} (base e : Nat) {xs : List α} {inner : List Value} {ok okp : Nat → Prop} (hrep : Reps (d.M W base okp) d.sz xs inner) (hok : ∀ k, okp k → ok k) (hfresh : ok W.heap.size) (hbase : base ≤ W.heap.size) (hm : xs.length ≤ 9223372036854775807) :
    d.R e (W.alloc (.cells inner.toArray e)) base ok (.slice (some ⟨W.heap.size, 0, none⟩) xs.length xs.length) xs := by
  refine ⟨fun k hk => ?_, inner, ?_, ?_⟩
  · have : W.heap.size = k := by simpa [Value.ownBlock] using hk
    subst this
    exact hfresh
  · have h2 := World.ownsRow_lit (base := base) (e := e) (size := d.sz) W inner.toArray xs.length hbase (by simpa [maxLen] using hm) (by simpa using hrep.1)
    simpa using h2
  · refine hrep.imp_ (fun p c hp => d.M_mono (fun k hk => ⟨hok k hk.1, fun he => ?_⟩) (Kd.M_below (d.M_bound hp) (below_alloc (Below.refl _ _) _)))
    have h3 : k = W.heap.size := by simpa [Value.ownBlock] using he
    have := hk.2.2.1
    omega
/-- A literal row of one's own, just made. -/
theorem N_lit_at {α : Type} (d : Kd α) {W : World} (base e : Nat) {xs : List α} {inner : List Value} {ok okp : Nat → Prop} (hrep : Reps (Kd.FK d W okp) d.sz xs inner) (hok : ∀ k, okp k → ok k) (hfresh : ok W.heap.size) (hbase : base ≤ W.heap.size) (hm : xs.length ≤ 9223372036854775807) :
    Kd.N d e (W.alloc (.cells inner.toArray e)) base ok (.slice (some ⟨W.heap.size, 0, none⟩) xs.length xs.length) xs := by
  have h := R_lit_at (Kd.raw d.sz) (W := W) base e (xs := Kd.chunks d.sz xs.length inner) (inner := inner) (ok := fun k => k = W.heap.size) (okp := fun _ => False) (Kd.reps_raw hrep (fun y c hk => ⟨d.K_len (Kd.FK_now hk), d.K_one (Kd.FK_now hk)⟩)) (fun _ hk => hk.elim) rfl hbase (by rw [Kd.chunks_length]; exact hm)
  rw [Kd.chunks_length] at h
  exact Kd.N_made h (World.grownBy_alloc W _ none) ⟨W.heap.size, by simp [Value.ownBlock], Nat.le_refl _⟩ (Kd.chunks_length _ _ _) (fun j y c hy hc => by rw [Kd.chunks_get hc]; exact hrep.2 j y hy) hok hfresh
theorem cell_own {W0 W w1 : World} {row : Option Nat} {a : Addr} {v : Value} (h0 : W0.cell? a = some v) (h : W.cell? a = some v) (hg : W.grownBy w1 row) (hr : ∀ k, row = some k → W0.heap.size ≤ k) : w1.cell? a = some v := by
  have h1 := World.block_lt_of_cell? W0 a h0
  have h2 := World.block_lt_of_cell? W a h
  have h3 := hg.block a.block h2 (fun e => by have := hr _ e.symm; omega)
  simpa [World.cell?, h3] using h
theorem reps_one {α : Type} {R : α → List Value → Prop} {n : Nat} {x : α} {c : List Value} (h : R x c) (hc : c.length = n) : Reps R n [x] c := by
  have := (Reps.none R n).snoc h hc
  simpa using this
theorem reps_two {α : Type} {R : α → List Value → Prop} {n : Nat} {x y : α} {c d : List Value} (h : R x c) (hc : c.length = n) (g : R y d) (hd : d.length = n) : Reps R n [x, y] (c ++ d) := by
  have := ((Reps.none R n).snoc h hc).snoc g hd
  simpa using this
/-- A row of one's own; its elements lead to the blocks of E alone, and its own block is none of them. -/
def T {α : Type} (d : Kd α) (e : Nat) (w : World) (base : Nat) (E : Nat → Prop) (v : Value) (xs : List α) : Prop := Kd.N d e w base (fun k => E k ∨ some k = v.ownBlock) v xs ∧ ∀ k, E k → k < w.heap.size ∧ v.ownBlock ≠ some k
section
variable {α : Type} {d : Kd α} {e base : Nat} {E : Nat → Prop} {w w1 : World} {v : Value} {xs : List α}
theorem T_nil (d : Kd α) (e : Nat) (w : World) (base : Nat) (E : Nat → Prop) (hE : ∀ k, E k → k < w.heap.size) : T d e w base E (.slice none 0 0) [] := ⟨Kd.N_nil _ _ _ _ _, fun k hk => ⟨hE k hk, by simp [Value.ownBlock]⟩⟩
theorem T_base (h : T d e w base E v xs) : ∀ k, v.ownBlock = some k → base ≤ k := Kd.N_base h.1
theorem T_lt (h : T d e w base E v xs) : ∀ k, v.ownBlock = some k → k < w.heap.size := Kd.N_lt h.1
theorem T_free (h : T d e w base E v xs) : ∀ k, v.ownBlock = some k → ¬ E k := fun k hk he => (h.2 k he).2 hk
theorem T_below (h : T d e w base E v xs) (hb : Below w.heap.size w w1) : T d e w1 base E v xs := ⟨Kd.N_below h.1 hb, fun k hk => ⟨Nat.lt_of_lt_of_le (h.2 k hk).1 hb.size, (h.2 k hk).2⟩⟩
theorem T_grown (h : T d e w base E v xs) {u : Value} (hu : ∀ k, u.ownBlock = some k → ¬ E k) (hne : ∀ k, u.ownBlock = some k → v.ownBlock ≠ some k) (hg : w.grownBy w1 u.ownBlock) : T d e w1 base E v xs :=
  ⟨Kd.N_grown h.1 hg (fun k hk he => by
    rcases hk with hk | hk
    · exact hu k he.symm hk
    · exact hne k he.symm hk.symm), fun k hk => ⟨Nat.lt_of_lt_of_le (h.2 k hk).1 hg.size, (h.2 k hk).2⟩⟩
theorem T_reads (h : T d e w base E v xs) : ∃ A c, v = .slice A xs.length c ∧ xs.length ≤ c ∧ d.C w A xs.length xs := Kd.N_reads h.1
theorem T_more {E' : Nat → Prop} (h : T d e w base E v xs) (hE : ∀ k, E k → E' k) (hl : ∀ k, E' k → k < w.heap.size ∧ v.ownBlock ≠ some k) : T d e w base E' v xs := ⟨Kd.N_mono h.1 (fun k hk => hk.imp (hE k) id), hl⟩
theorem T_made (hb : base ≤ w.heap.size) (hm : xs.length ≤ 9223372036854775807) (hE : ∀ k, E k → k < w.heap.size) {inner : List Value} (hrep : Reps (Kd.FK d w E) d.sz xs inner) : T d e (w.alloc (.cells inner.toArray e)) base E (.slice (some ⟨w.heap.size, 0, none⟩) xs.length xs.length) xs :=
  ⟨N_lit_at d base e (okp := E) hrep (fun _ h => .inl h) (.inr (by simp [Value.ownBlock])) hb hm, fun k hk => ⟨by rw [World.size_alloc]; have := hE k hk; omega, by have := hE k hk; simp [Value.ownBlock]; omega⟩⟩
end
section
variable {P : Program} {ops : Array Oper} {rest : List Oper} {o : Oper} {a : Act} {Q : Exit → Act → World → Prop} {Kc : Act → World → Prop} {α : Type}
theorem T_append (d : Kd α) {w0 W : World} (base : Nat) (E : Nat → Prop) (hgd : o.guard = none) (s x : Operand) (t e : TypeId) (z : Value) (bytes : Nat)
    (ho : o.op = .call { callee := .builtin .append, args := #[s, x], argTypes := #[t, t] })
    (ht : P.underlying t = some (.slice e)) (hinfo : (P.info? e).map (fun i => (i.zero, i.size, i.bytes)) = some (some z, d.sz, bytes)) (hz : z.cells.size = d.sz) (hs0 : 0 < d.sz) (hb0 : 0 < bytes)
    (v : Value) (xs : List α) (p : α) (cs : List Value) (hs : a.eval s = v) (hx : a.eval x = .slice (some ⟨W.heap.size, 0, none⟩) 1 1) (hp : Kd.FK d W E p cs)
    (HO : T d e W base E v xs) (HB : Below base w0 W) (hbase : base ≤ W.heap.size) (hl : (xs.length + 1) * bytes ≤ 140737488355328)
    (h : ∀ v1 w1, T d e w1 base E v1 (xs ++ [p]) → Below base w0 w1 → W.grownBy w1 v.ownBlock → (v1.ownBlock = v.ownBlock ∨ ∃ b, v1.ownBlock = some b ∧ W.heap.size ≤ b) → wpList P ops Q rest (a.put o.dst v1) w1) :
    wpList P ops Q (o :: rest) a (W.alloc (.cells cs.toArray e)) := by
  obtain ⟨⟨h0, rows, hlr, hR, hf⟩, hfree⟩ := id HO
  refine Kd.R_append (Kd.raw d.sz) base hgd s x t e z bytes ho ht hinfo hz hs0 hb0 v rows cs cs (fun _ => True) (fun _ => False) hs hx (Kd.FK_raw hp) (fun _ hk => hk.elim) (fun _ _ => trivial) (Kd.raw_any hR) HB hbase (by rw [hlr]; exact hl) ?_
  intro v1 w1 hr hb hg hat
  have hfree1 : ∀ k, E k → k < w1.heap.size ∧ v1.ownBlock ≠ some k := by
    intro k hk
    obtain ⟨f1, f2⟩ := hfree k hk
    refine ⟨Nat.lt_of_lt_of_le f1 hg.size, ?_⟩
    rcases hat with hat | ⟨b, hb, hle⟩
    · rw [hat]; exact f2
    · rw [hb]
      intro he
      injection he with he
      omega
  have step : ∀ {x : α} {c : List Value}, Kd.FK d W E x c → Kd.FK d w1 (fun k => (E k ∨ some k = v1.ownBlock) ∧ some k ≠ v1.ownBlock) x c := by
    intro x c hq
    refine Kd.FK_mono (Kd.FK_step hq (fun k hk hlt => hg.block k hlt (fun he => (hfree k hk).2 he.symm))) (fun k hk => ⟨.inl hk, fun he => (hfree1 k hk).2 he.symm⟩)
  refine h v1 w1 ⟨⟨fun k hk => .inr hk.symm, rows ++ [cs], by rw [List.length_append, List.length_append, hlr]; rfl, Kd.raw_tight hr, fun j x c hx hc => ?_⟩, hfree1⟩ hb hg hat
  rcases Nat.lt_or_ge j xs.length with hlt | hge
  · rw [List.getElem?_append_left hlt] at hx
    rw [List.getElem?_append_left (by omega)] at hc
    exact step (Kd.FK_mono (hf j x c hx hc) (fun k hk => hk.1.resolve_right hk.2))
  · rw [List.getElem?_append_right hge] at hx
    rw [List.getElem?_append_right (by omega), hlr] at hc
    rcases hj : j - xs.length with _ | j'
    · rw [hj] at hx hc
      simp only [List.getElem?_cons_zero, Option.some.injEq] at hx hc
      subst hx
      subst hc
      exact step hp
    · rw [hj] at hx
      simp at hx
end
section
variable {P : Program} {ops : Array Oper} {o : Oper} {a : Act} {Q : Exit → Act → World → Prop} {Kc : Act → World → Prop} {α : Type}
theorem T_append_step (d : Kd α) {w0 W Wx : World} (base : Nat) (E : Nat → Prop) (hw : Region.wanted o (yielded ops a.tmps) = true) (s x : Operand) (t e : TypeId) (z : Value) (bytes : Nat)
    (ho : o.op = .call { callee := .builtin .append, args := #[s, x], argTypes := #[t, t] })
    (ht : P.underlying t = some (.slice e)) (hinfo : (P.info? e).map (fun i => (i.zero, i.size, i.bytes)) = some (some z, d.sz, bytes)) (hz : z.cells.size = d.sz) (hs0 : 0 < d.sz) (hb0 : 0 < bytes)
    (v : Value) (xs : List α) (p : α) (cs : List Value) (hs : a.eval s = v) (hx : a.eval x = .slice (some ⟨W.heap.size, 0, none⟩) 1 1) (hp : Kd.FK d W E p cs)
    (hWx : Wx = W.alloc (.cells cs.toArray e)) (HO : T d e W base E v xs) (HB : Below base w0 W) (hbase : base ≤ W.heap.size) (hl : (xs.length + 1) * bytes ≤ 140737488355328)
    (h : ∀ v1 w1, T d e w1 base E v1 (xs ++ [p]) → Below base w0 w1 → W.grownBy w1 v.ownBlock → (v1.ownBlock = v.ownBlock ∨ ∃ b, v1.ownBlock = some b ∧ W.heap.size ≤ b) → Kc (a.put o.dst v1) w1) :
    if Region.wanted o (yielded ops a.tmps) = true then Oper.wp P o a Wx Kc Q else Kc (a.put o.dst undef) Wx := by
  subst hWx
  obtain ⟨⟨h0, rows, hlr, hR, hf⟩, hfree⟩ := id HO
  refine Kd.R_append_step (Kd.raw d.sz) base hw s x t e z bytes ho ht hinfo hz hs0 hb0 v rows cs cs (fun _ => True) (fun _ => False) hs hx (Kd.FK_raw hp) (fun _ hk => hk.elim) (fun _ _ => trivial) (Kd.raw_any hR) HB hbase (by rw [hlr]; exact hl) ?_
  intro v1 w1 hr hb hg hat
  have hfree1 : ∀ k, E k → k < w1.heap.size ∧ v1.ownBlock ≠ some k := by
    intro k hk
    obtain ⟨f1, f2⟩ := hfree k hk
    refine ⟨Nat.lt_of_lt_of_le f1 hg.size, ?_⟩
    rcases hat with hat | ⟨b, hb, hle⟩
    · rw [hat]; exact f2
    · rw [hb]
      intro he
      injection he with he
      omega
  have step : ∀ {x : α} {c : List Value}, Kd.FK d W E x c → Kd.FK d w1 (fun k => (E k ∨ some k = v1.ownBlock) ∧ some k ≠ v1.ownBlock) x c := by
    intro x c hq
    refine Kd.FK_mono (Kd.FK_step hq (fun k hk hlt => hg.block k hlt (fun he => (hfree k hk).2 he.symm))) (fun k hk => ⟨.inl hk, fun he => (hfree1 k hk).2 he.symm⟩)
  refine h v1 w1 ⟨⟨fun k hk => .inr hk.symm, rows ++ [cs], by rw [List.length_append, List.length_append, hlr]; rfl, Kd.raw_tight hr, fun j x c hx hc => ?_⟩, hfree1⟩ hb hg hat
  rcases Nat.lt_or_ge j xs.length with hlt | hge
  · rw [List.getElem?_append_left hlt] at hx
    rw [List.getElem?_append_left (by omega)] at hc
    exact step (Kd.FK_mono (hf j x c hx hc) (fun k hk => hk.1.resolve_right hk.2))
  · rw [List.getElem?_append_right hge] at hx
    rw [List.getElem?_append_right (by omega), hlr] at hc
    rcases hj : j - xs.length with _ | j'
    · rw [hj] at hx hc
      simp only [List.getElem?_cons_zero, Option.some.injEq] at hx hc
      subst hx
      subst hc
      exact step hp
    · rw [hj] at hx
      simp at hx
end
theorem FK_int (W : World) (ok : Nat → Prop) (x : Int) : Kd.FK (Kd.int .i64) W ok x [.int .i64 x] := fun _ _ => rfl
theorem N_int_tight {e base : Nat} {w : World} {ok : Nat → Prop} {v : Value} {xs : List Int} (h : Kd.N (Kd.int .i64) e w base ok v xs) : Kd.N (Kd.int .i64) e w base (fun k => some k = v.ownBlock) v xs := by
  obtain ⟨h0, rows, hl, hR, hf⟩ := h
  exact ⟨fun k hk => hk.symm, rows, hl, hR, fun j x c hx hc W' hW => by
    have := Kd.FK_now (hf j x c hx hc)
    exact this⟩
/-- A row that grew in place or moved to a new block stays apart from an older one. -/
theorem apart_grown {W : World} {v v1 u : Value} (h : ∀ k, v.ownBlock = some k → u.ownBlock ≠ some k) (hl : ∀ k, u.ownBlock = some k → k < W.heap.size) (hat : v1.ownBlock = v.ownBlock ∨ ∃ b, v1.ownBlock = some b ∧ W.heap.size ≤ b) : ∀ k, v1.ownBlock = some k → u.ownBlock ≠ some k := by
  intro k hk he
  rcases hat with hat | ⟨b, hb, hle⟩
  · exact h k (hat ▸ hk) he
  · rw [hb] at hk
    injection hk with hk
    have := hl k he
    omega
theorem apart_symm {v u : Value} (h : ∀ k, v.ownBlock = some k → u.ownBlock ≠ some k) : ∀ k, u.ownBlock = some k → v.ownBlock ≠ some k := fun k hk he => h k he hk
theorem rdI_get {xs : List Int} {i : Int} (h0 : 0 ≤ i) (h1 : i < xs.length) : rd xs i = xs[i.toNat]'(by omega) := by
  unfold rd
  rw [List.getD_eq_getElem?_getD, List.getElem?_eq_getElem (show i.toNat < xs.length by omega)]
  rfl
theorem takeI {xs : List Int} {i : Int} (h0 : 0 ≤ i) (h1 : i < xs.length) : xs.take (i.toNat + 1) = xs.take i.toNat ++ [rd xs i] := by
  rw [List.take_succ_eq_append_getElem (show i.toNat < xs.length by omega), rdI_get h0 h1]
theorem dropI {xs : List Int} {i : Int} (h0 : 0 ≤ i) (h1 : i < xs.length) : xs.drop i.toNat = rd xs i :: xs.drop (i.toNat + 1) := by
  rw [List.drop_eq_getElem_cons (show i.toNat < xs.length by omega), rdI_get h0 h1]
theorem below_through {W1 Wx w2 : World} (hx : Below W1.heap.size W1 Wx) (hb : Below Wx.heap.size Wx w2) : Below W1.heap.size W1 w2 := below_then hx hx.size hb
theorem cell_set {W : World} {a : Addr} {v u : Value} {g j : Nat} (h : W.cell? a = some v) (hne : a.block ≠ g) : (W.setCell ⟨g, j, none⟩ u).cell? a = some v := by
  have h1 := Below.heap_setCell W ⟨g, j, none⟩ u a.block hne
  rw [← h]
  simp only [World.cell?, h1]
theorem cell_dr {W : World} {a : Addr} {v : Value} (h : W.cell? a = some v) : W.drew.cell? a = some v := h
theorem at_p0 (W : World) (o o1 o2 : Obj) : (((W.alloc o).alloc o1).alloc o2).drew.heap[W.heap.size]? = some o := blk_alloc (blk_alloc (blk_new W o) o1) o2
theorem at_q1 (W : World) (o o1 : Obj) : ((W.alloc o).alloc o1).heap[W.heap.size + 1]? = some o1 := by
  have := blk_new (W.alloc o) o1
  rwa [World.size_alloc] at this
theorem at_p1 (W : World) (o o1 o2 : Obj) : (((W.alloc o).alloc o1).alloc o2).drew.heap[W.heap.size + 1]? = some o1 := blk_alloc (at_q1 W o o1) o2
theorem at_p2 (W : World) (o o1 o2 : Obj) : (((W.alloc o).alloc o1).alloc o2).drew.heap[W.heap.size + 1 + 1]? = some o2 := by
  have := blk_new ((W.alloc o).alloc o1) o2
  rwa [World.size_alloc, World.size_alloc] at this
theorem F_nil {α : Type} (d : Kd α) (W : World) (P : Nat → Prop) : Kd.F d W P none 0 [] := fun W' _ => Kd.C_nil _ _
end Go.Proofs.YtcpngmclhicciaaGreatDoor
/- 'value.Compare' and 'value.CompareRows'. -/
namespace Go.Proofs.YtcpngmclhicciaaGreatDoor
open Go.RowKit Go.Proofs.YtcpngmclhicciaaGreatDoorW.PrintWords PMergejoinGroups
set_option linter.unusedVariables false
set_option linter.unusedSimpArgs false
abbrev Cs42 (v : S42) : Array Value := #[.int .i64 v.f0, .int .i64 v.f1, .string v.f2]
abbrev Ag42 (v : S42) : Value := .agg #[.int .i64 v.f0, .int .i64 v.f1, .string v.f2]
theorem box3 {W : World} {g : Nat} {T : TypeId} {a0 a1 a2 : Value} (h : W.heap[g]? = some (.cells #[a0, a1, a2] T (0, 0))) : W.cell? ⟨g, 0, none⟩ = some a0 ∧ W.cell? ⟨g, 1, none⟩ = some a1 ∧ W.cell? ⟨g, 2, none⟩ = some a2 :=
  ⟨(blk_cell h 0).trans rfl, (blk_cell h 1).trans rfl, (blk_cell h 2).trans rfl⟩
theorem box2 {W : World} {g : Nat} {T : TypeId} {a0 a1 : Value} (h : W.heap[g]? = some (.cells #[a0, a1] T (0, 0))) : W.cell? ⟨g, 0, none⟩ = some a0 ∧ W.cell? ⟨g, 1, none⟩ = some a1 :=
  ⟨(blk_cell h 0).trans rfl, (blk_cell h 1).trans rfl⟩
theorem box1 {W : World} {g : Nat} {T : TypeId} {a0 : Value} (h : W.heap[g]? = some (.cells #[a0] T (0, 0))) : W.cell? ⟨g, 0, none⟩ = some a0 := (blk_cell h 0).trans rfl
theorem ret_i {a b : Int} (h : a = b) : Ending.returned (.int .i64 a) = .returned (.int .i64 b) := by rw [h]
/-- The first that is not zero. -/
def orI : List Int → Int
  | [] => 0
  | x :: r => if x = 0 then orI r else x
theorem reps_three {α : Type} {R : α → List Value → Prop} {n : Nat} {x y z : α} {c d e : List Value} (h : R x c) (hc : c.length = n) (g : R y d) (hd : d.length = n) (k : R z e) (he : e.length = n) : Reps R n [x, y, z] (c ++ d ++ e) := by
  have := (((Reps.none R n).snoc h hc).snoc g hd).snoc k he
  simpa using this
theorem int3_new (W : World) (a b c : Int) : Kd.C (Kd.int .i64) (W.alloc (.cells #[.int .i64 a, .int .i64 b, .int .i64 c] 3)) (some ⟨W.heap.size, 0, none⟩) 3 [a, b, c] :=
  Kd.F_now (Kd.N_F (N_lit_at (Kd.int .i64) W.heap.size 3 (xs := [a, b, c]) (inner := [.int .i64 a] ++ [.int .i64 b] ++ [.int .i64 c]) (ok := fun _ => True) (okp := fun _ => True) (reps_three (FK_int _ _ a) rfl (FK_int _ _ b) rfl (FK_int _ _ c) rfl) (fun _ h => h) trivial (Nat.le_refl _) (by simp)))
theorem or_drop {xs : List Int} {i : Int} (h0 : 0 ≤ i) (h1 : i < xs.length) : orI (xs.drop i.toNat) = if rd xs i = 0 then orI (xs.drop (i.toNat + 1)) else rd xs i := by
  rw [dropI h0 h1, orI]
set_option maxRecDepth 100000 in
theorem or_calls (xs : List Int) (A : Option Addr) (c : Nat) (w : World) (hC : Kd.C (Kd.int .i64) w A xs.length xs) : Calls Tryz.prog 29 #[.slice A xs.length c] w fun e w' => e = .returned (.int .i64 (orI xs)) ∧ w = w' := by
  have hm : xs.length ≤ 9223372036854775807 := hC.2.1
  have HC := Aside0.mk hC
  clear hC
  go_enter Tryz.func29, Tryz.ntmps29
  go_wp2
  go_loopg [5, 8] (xs.length + 1) (fun kq v5 v8 wr => ∃ i : Int, v8 = .int .i64 i ∧ Aside0 (0 ≤ i ∧ i ≤ xs.length ∧ kq = xs.length + 1 - i.toNat ∧ orI xs = orI (xs.drop i.toNat)) ∧ Aside0 (w = wr))
  case atStart => exact ⟨0, rfl, ⟨by omega, by omega, by omega, rfl⟩, ⟨rfl⟩⟩
  case round =>
    obtain ⟨i, rfl, HI, HW⟩ := hrel
    obtain ⟨i0, i1, i2, i3⟩ := HI.out
    by_cases hlt : i < xs.length
    · have hb : decide (i < (xs.length : Int)) = true := decide_eq_true hlt
      obtain ⟨ad, e1, hcell⟩ := Kd.at_int HC.out i i0 hlt
      rw [HW.out] at hcell
      subst e1
      have HD := Aside0.mk (or_drop i0 hlt)
      clear i1 i2 i3
      by_cases hz : rd xs i = 0
      · have hz2 : (rd xs i != 0) = false := by simp [hz]
        have HZ := Aside0.mk hz
        clear hz
        replace hlt := eq_true hlt
        replace i0 := eq_true i0
        go_wp2
        have i0' := of_eq_true i0
        have hlt' := of_eq_true hlt
        go_roundg (xs.length + 1 - (i + 1).toNat)
        case measure => have := HI.out.2.2.1; omega
        case rel => exact ⟨i + 1, congrArg (Value.int .i64) (wrap_succ i0' hlt' hm), ⟨by omega, by omega, rfl, by rw [HI.out.2.2.2, HD.out, if_pos HZ.out, succ_toNat i0']⟩, HW⟩
      · have hz2 : (rd xs i != 0) = true := by simp [hz]
        have HZ := Aside0.mk (show orI xs = rd xs i by rw [HI.out.2.2.2, HD.out, if_neg hz])
        clear hz
        replace hlt := eq_true hlt
        replace i0 := eq_true i0
        go_wp2
        go_ret
        exact ⟨ret_i HZ.out.symm, HW.out⟩
    · have hb : decide (i < (xs.length : Int)) = false := decide_eq_false hlt
      have HE := Aside0.mk (show orI xs = 0 by rw [i3, List.drop_eq_nil_of_le (by omega)]; rfl)
      clear i0 i1 i2 i3 hlt HI
      go_wp2
      go_ret
      exact ⟨ret_i HE.out.symm, HW.out⟩
/-- Two values compared. -/
def cmpV (x y : S42) : Int := orI [Lib.compareInt x.f0 y.f0, Lib.compareInt x.f1 y.f1, Lib.compareBytes x.f2.data.toList y.f2.data.toList]
theorem or3_calls (a b c : Int) (A : Option Addr) (d : Nat) (w : World) (hC : Kd.C (Kd.int .i64) w A 3 [a, b, c]) : Calls Tryz.prog 29 #[.slice A 3 d] w fun e w' => e = .returned (.int .i64 (orI [a, b, c])) ∧ w = w' := or_calls [a, b, c] A d w hC
theorem ci_calls (x y : Int) (w : World) : Calls Tryz.prog 30 #[.int .i64 x, .int .i64 y] w fun e w' => e = .returned (.int .i64 (Lib.compareInt x y)) ∧ w = w' := (Tryz.cmp_Compare_int x y w).mono fun e w' ⟨h1, h2⟩ => ⟨h1, h2.symm⟩
theorem nan64 (x : Int) (w : World) : Calls Tryz.prog 42 #[.int .i64 x] w fun e w' => e = .returned (.bool false) ∧ w = w' := by
  have h : (x != x) = false := by simp
  go_enter Tryz.func42, Tryz.ntmps42
  go_wp2
  go_ret
  exact ⟨rfl, rfl⟩
theorem ci64_calls (x y : Int) (w : World) : Calls Tryz.prog 31 #[.int .i64 x, .int .i64 y] w fun e w' => e = .returned (.int .i64 (Lib.compareInt x y)) ∧ w = w' := by
  have HL : Aside0 (Lib.compareInt x y = if x < y then -1 else if x > y then 1 else 0) := ⟨rfl⟩
  by_cases h1 : x < y
  · have HE : Aside0 (Lib.compareInt x y = -1) := ⟨by rw [HL.out, if_pos h1]⟩
    go_enter Tryz.func31, Tryz.ntmps31
    go_wp2_with (go_at_call 42; refine (nan64 _ _).mono ?_; rintro e w' ⟨rfl, rfl⟩)
    go_ret
    exact ⟨ret_i HE.out.symm, rfl⟩
  · by_cases h2 : y < x
    · have HE : Aside0 (Lib.compareInt x y = 1) := ⟨by rw [HL.out, if_neg h1, if_pos h2]⟩
      go_enter Tryz.func31, Tryz.ntmps31
      go_wp2_with (go_at_call 42; refine (nan64 _ _).mono ?_; rintro e w' ⟨rfl, rfl⟩)
      go_ret
      exact ⟨ret_i HE.out.symm, rfl⟩
    · have HE : Aside0 (Lib.compareInt x y = 0) := ⟨by rw [HL.out, if_neg h1, if_neg h2]⟩
      go_enter Tryz.func31, Tryz.ntmps31
      go_wp2_with (go_at_call 42; refine (nan64 _ _).mono ?_; rintro e w' ⟨rfl, rfl⟩)
      go_ret
      exact ⟨ret_i HE.out.symm, rfl⟩
theorem cs_calls (x y : ByteArray) (w : World) : Calls Tryz.prog 32 #[.string x, .string y] w fun e w' => e = .returned (.int .i64 (Lib.compareBytes x.data.toList y.data.toList)) ∧ w = w' := (Tryz.strings_Compare x y w).mono fun e w' ⟨h1, h2⟩ => ⟨h1, h2.symm⟩
set_option maxRecDepth 100000 in
set_option maxHeartbeats 2000000 in
theorem vcompare_calls (x y : S42) (w : World) : Calls Tryz.prog 21 #[Ag42 x, Ag42 y] w fun e w' => e = .returned (.int .i64 (cmpV x y)) ∧ Below w.heap.size w w' := by
  have hX := blk_alloc (blk_new w (.cells (Cs42 x) 42)) (.cells (Cs42 y) 42)
  have hY : ((w.alloc (.cells (Cs42 x) 42)).alloc (.cells (Cs42 y) 42)).heap[w.heap.size + 1]? = some (.cells (Cs42 y) 42 (0, 0)) := by
    have := blk_new (w.alloc (.cells (Cs42 x) 42)) (.cells (Cs42 y) 42)
    rwa [World.size_alloc] at this
  have HB := Aside0.mk (below_alloc (below_alloc (Below.refl w.heap.size w) (.cells (Cs42 x) 42)) (.cells (Cs42 y) 42))
  have HX := Aside0.mk hX
  have HY := Aside0.mk hY
  clear hX hY
  go_enter Tryz.func21, Tryz.ntmps21
  go_upto_region 1 with (fail)
  obtain ⟨W, hW⟩ : ∃ W : World, (w.alloc (.cells (Cs42 x) 42)).alloc (.cells (Cs42 y) 42) = W := ⟨_, rfl⟩
  rw [hW] at HB HX HY ⊢
  clear hW
  obtain ⟨a0, a1, a2⟩ := box3 HX.out
  obtain ⟨b0, b1, b2⟩ := box3 HY.out
  go_region_held3 (fun w' => w'.cell? ⟨w.heap.size, 0, none⟩ = some (.int .i64 x.f0) ∧ w'.cell? ⟨w.heap.size, 1, none⟩ = some (.int .i64 x.f1) ∧ w'.cell? ⟨w.heap.size, 2, none⟩ = some (.string x.f2) ∧ w'.cell? ⟨w.heap.size + 1, 0, none⟩ = some (.int .i64 y.f0) ∧ w'.cell? ⟨w.heap.size + 1, 1, none⟩ = some (.int .i64 y.f1) ∧ w'.cell? ⟨w.heap.size + 1, 2, none⟩ = some (.string y.f2)) (refine ⟨?_, ?_, ?_, ?_, ?_, ?_⟩ <;> (repeat (first | (with_reducible refine cell_al ?_ _) | (with_reducible refine cell_dr ?_) | with_reducible exact a0 | with_reducible exact a1 | with_reducible exact a2 | with_reducible exact b0 | with_reducible exact b1 | with_reducible exact b2))) (first | (go_at_call 30; (with_reducible refine (ci_calls _ _ _).mono ?_); rintro e w' ⟨rfl, rfl⟩) | (go_at_call 31; (with_reducible refine (ci64_calls _ _ _).mono ?_); rintro e w' ⟨rfl, rfl⟩) | (go_at_call 32; (with_reducible refine (cs_calls _ _ _).mono ?_); rintro e w' ⟨rfl, rfl⟩) | (go_at_call 29; (with_reducible refine (or3_calls _ _ _ _ _ _ (Kd.C_below (int3_new _ _ _ _) (below_drew (Below.refl _ _)))).mono ?_); rintro e w' ⟨rfl, rfl⟩) | fail)
  go_wp2
  go_ret
  exact ⟨ret_i rfl, by first | exact below_drew (below_alloc HB.out _) | exact below_alloc (below_drew HB.out) _⟩
/-- Two rows of values compared. -/
def cmpR : List S42 → List S42 → Int
  | [], [] => 0
  | [], _ :: _ => -1
  | _ :: _, [] => 1
  | x :: r, y :: s => if cmpV x y = 0 then cmpR r s else cmpV x y
theorem drop42 {xs : List S42} {i : Int} (h0 : 0 ≤ i) (h1 : i < xs.length) : xs.drop i.toNat = rd_T42 xs i :: xs.drop (i.toNat + 1) := by
  rw [List.drop_eq_getElem_cons (show i.toNat < xs.length by omega), rd_T42, List.getD_eq_getElem?_getD, List.getElem?_eq_getElem (by omega)]; rfl
set_option maxRecDepth 100000 in
set_option maxHeartbeats 2000000 in
theorem cmpfunc_calls (xs ys : List S42) (A B : Option Addr) (c d : Nat) (w : World) (hA : Kd.C k42 w A xs.length xs) (hB : Kd.C k42 w B ys.length ys) :
    Calls Tryz.prog 20 #[.slice A xs.length c, .slice B ys.length d, .func (.func 21) #[] #[]] w fun e w' => e = .returned (.int .i64 (cmpR xs ys)) ∧ Below w.heap.size w w' := by
  have hm : xs.length ≤ 9223372036854775807 := hA.2.1
  have HA := Aside0.mk hA
  have HB := Aside0.mk hB
  clear hA hB
  go_enter Tryz.func20, Tryz.ntmps20
  go_wp2
  go_loopg [13] (xs.length + 1) (fun kq v13 wr => ∃ i : Int, v13 = .int .i64 i ∧ Aside0 (0 ≤ i ∧ i ≤ xs.length ∧ i ≤ ys.length ∧ kq = xs.length + 1 - i.toNat ∧ cmpR xs ys = cmpR (xs.drop i.toNat) (ys.drop i.toNat)) ∧ Aside0 (Below w.heap.size w wr))
  case atStart => exact ⟨0, rfl, ⟨by omega, by omega, by omega, by omega, rfl⟩, ⟨Below.refl _ _⟩⟩
  case round =>
    obtain ⟨i, rfl, HI, HW⟩ := hrel
    obtain ⟨i0, i1, i2, i3, i4⟩ := HI.out
    by_cases hlt : i < xs.length
    · have hb : decide (i < (xs.length : Int)) = true := decide_eq_true hlt
      obtain ⟨ad, e1, x0, x1, x2⟩ := at_T42 HA.out i i0 hlt
      replace x0 := cell_later HW.out x0
      replace x1 := cell_later HW.out x1
      replace x2 := cell_later HW.out x2
      subst e1
      have hx := drop42 i0 hlt
      by_cases hly : i < ys.length
      · have hb2 : decide ((ys.length : Int) ≤ i) = false := decide_eq_false (by omega)
        obtain ⟨bd, e2, y0, y1, y2⟩ := at_T42 HB.out i i0 hly
        replace y0 := cell_later HW.out y0
        replace y1 := cell_later HW.out y1
        replace y2 := cell_later HW.out y2
        subst e2
        have hy := drop42 i0 hly
        rw [hx, hy, cmpR] at i4
        have HC := Aside0.mk i4
        obtain ⟨x, hxe⟩ : ∃ x, rd_T42 xs i = x := ⟨_, rfl⟩
        obtain ⟨y, hye⟩ : ∃ y, rd_T42 ys i = y := ⟨_, rfl⟩
        rw [hxe] at x0 x1 x2 HC
        rw [hye] at y0 y1 y2 HC
        clear hxe hye hx hy i1 i2 i3 i4
        replace y0 := fun o => cell_al y0 o
        replace y1 := fun o => cell_al y1 o
        replace y2 := fun o => cell_al y2 o
        by_cases hz : cmpV x y = 0
        · have hz2 : (cmpV x y != 0) = false := by simp [hz]
          have HZ := Aside0.mk hz
          clear hz
          replace hlt := eq_true hlt
          replace hly := eq_true hly
          replace i0 := eq_true i0
          go_wp2_with (first | (go_at_call 21; (with_reducible refine (vcompare_calls x y _).mono ?_); rintro e w2 ⟨rfl, hb2⟩; have HB2 := Aside0.mk (below_then HW.out HW.out.size (below_through (W1 := wr) (by repeat (first | exact Below.refl _ _ | apply below_alloc)) hb2)); clear hb2) | fail)
          have i0' := of_eq_true i0
          have hlt' := of_eq_true hlt
          have hly' := of_eq_true hly
          go_roundg (xs.length + 1 - (i + 1).toNat)
          case measure => have := HI.out.2.2.2.1; omega
          case rel => exact ⟨i + 1, congrArg (Value.int .i64) (wrap_succ i0' hlt' hm), ⟨by omega, by omega, by omega, rfl, by rw [HC.out, if_pos HZ.out, succ_toNat i0']⟩, HB2⟩
        · have hz2 : (cmpV x y != 0) = true := by simp [hz]
          have HZ := Aside0.mk (show cmpR xs ys = cmpV x y by rw [HC.out, if_neg hz])
          clear hz HC
          replace hlt := eq_true hlt
          replace hly := eq_true hly
          replace i0 := eq_true i0
          go_wp2_with (first | (go_at_call 21; (with_reducible refine (vcompare_calls x y _).mono ?_); rintro e w2 ⟨rfl, hb2⟩; have HB2 := Aside0.mk (below_then HW.out HW.out.size (below_through (W1 := wr) (by repeat (first | exact Below.refl _ _ | apply below_alloc)) hb2)); clear hb2) | fail)
          go_ret
          exact ⟨ret_i HZ.out.symm, HB2.out⟩
      · have hb2 : decide ((ys.length : Int) ≤ i) = true := decide_eq_true (by omega)
        have HE := Aside0.mk (show cmpR xs ys = 1 by rw [i4, hx, show ys.drop i.toNat = [] from List.drop_eq_nil_of_le (by omega)]; rfl)
        clear hx i1 i2 i3 i4 hly
        replace hlt := eq_true hlt
        replace i0 := eq_true i0
        go_wp2
        go_ret
        exact ⟨ret_i HE.out.symm, below_alloc HW.out _⟩
    · have hb : decide (i < (xs.length : Int)) = false := decide_eq_false hlt
      have he : xs.drop i.toNat = [] := List.drop_eq_nil_of_le (by omega)
      by_cases hly : (xs.length : Int) < ys.length
      · have hb2 : decide ((xs.length : Int) < ys.length) = true := decide_eq_true hly
        have hb3 : decide (xs.length < ys.length) = true := decide_eq_true (by omega)
        have HE := Aside0.mk (show cmpR xs ys = -1 by
          have hy := drop42 (xs := ys) i0 (by omega)
          rw [i4, he, hy]; rfl)
        clear i0 i1 i2 i3 i4 hlt HI he hly
        go_wp2
        go_ret
        exact ⟨ret_i HE.out.symm, HW.out⟩
      · have hb2 : decide ((xs.length : Int) < ys.length) = false := decide_eq_false hly
        have hb3 : decide (xs.length < ys.length) = false := decide_eq_false (by omega)
        have HE := Aside0.mk (show cmpR xs ys = 0 by rw [i4, he, show ys.drop i.toNat = [] from List.drop_eq_nil_of_le (by omega)]; rfl)
        clear i0 i1 i2 i3 i4 hlt HI he hly
        go_wp2
        go_ret
        exact ⟨ret_i HE.out.symm, HW.out⟩
theorem cmprows_calls (xs ys : List S42) (A B : Option Addr) (c d : Nat) (w : World) (hA : Kd.C k42 w A xs.length xs) (hB : Kd.C k42 w B ys.length ys) :
    Calls Tryz.prog 9 #[.slice A xs.length c, .slice B ys.length d] w fun e w' => e = .returned (.int .i64 (cmpR xs ys)) ∧ Below w.heap.size w w' := by
  go_enter Tryz.func9, Tryz.ntmps9
  go_wp2_with (go_at_call 20; refine (cmpfunc_calls xs ys A B c d _ hA hB).mono ?_; rintro e w' ⟨rfl, hb⟩)
  go_ret
  exact ⟨rfl, hb⟩
end Go.Proofs.YtcpngmclhicciaaGreatDoor
/- Rows and their keys: 'keyOf', 'compare', 'keyed', 'Sorted' of package mergejoin. -/
namespace Go.Proofs.YtcpngmclhicciaaGreatDoor
open Go.RowKit Go.Proofs.YtcpngmclhicciaaGreatDoorW.PrintWords PMergejoinGroups
set_option linter.unusedVariables false
set_option linter.unusedSimpArgs false
/-- A slice that is handed on unread. -/
def kSl : Kd (Option Addr × Nat × Nat) := Kd.scalar (fun p : Option Addr × Nat × Nat => Value.slice p.1 p.2.1 p.2.2) (fun _ => rfl)
structure R33 where
  vals : List S42
  ann : Option Addr × Nat × Nat
def z33 : R33 := ⟨[], (none, 0, 0)⟩
def kR : Kd R33 := Kd.iso (Kd.pair (Kd.slice 42 k42) kSl) (fun x : R33 => (x.vals, x.ann))
abbrev AgR (r : R33) (A : Option Addr) (c : Nat) : Value := .agg #[.slice A r.vals.length c, .slice r.ann.1 r.ann.2.1 r.ann.2.2]
abbrev CsR (r : R33) (A : Option Addr) (c : Nat) : Array Value := #[.slice A r.vals.length c, .slice r.ann.1 r.ann.2.1 r.ann.2.2]
theorem kR_open {w : World} {x : R33} {cs : List Value} (h : kR.K w x cs) : ∃ A c, cs = (CsR x A c).toList ∧ x.vals.length ≤ c ∧ Kd.C k42 w A x.vals.length x.vals := by
  obtain ⟨_, _, rfl, ⟨A, c, rfl, h1, h2⟩, h3⟩ := h
  exact ⟨A, c, by rw [show _ = [Value.slice x.ann.1 x.ann.2.1 x.ann.2.2] from h3]; rfl, h1, h2⟩
theorem kR_mk (w : World) (x : R33) {A : Option Addr} {c : Nat} (h1 : x.vals.length ≤ c) (h2 : Kd.C k42 w A x.vals.length x.vals) : kR.K w x (CsR x A c).toList :=
  ⟨[.slice A x.vals.length c], [.slice x.ann.1 x.ann.2.1 x.ann.2.2], rfl, ⟨A, c, rfl, h1, h2⟩, rfl⟩
def rdR (xs : List R33) (i : Int) : R33 := xs.getD i.toNat z33
theorem at_R {w : World} {A : Option Addr} {n : Nat} {xs : List R33} (h : Kd.C kR w A n xs) (i : Int) (h0 : 0 ≤ i) (h1 : i < n) :
    ∃ ad A0 c0, A = some ad ∧ w.cell? (ad.add (i.toNat * 2)) = some (.slice A0 (rdR xs i).vals.length c0) ∧ w.cell? ⟨(ad.add (i.toNat * 2)).block, (ad.add (i.toNat * 2)).off + 1, none⟩ = some (.slice (rdR xs i).ann.1 (rdR xs i).ann.2.1 (rdR xs i).ann.2.2) ∧ (rdR xs i).vals.length ≤ c0 ∧ Kd.C k42 w A0 (rdR xs i).vals.length (rdR xs i).vals := by
  obtain ⟨ad, c, e, _, hK, hc0⟩ := Kd.C_get h z33 i h0 h1
  have hc : ∀ j u, c[j]? = some u → w.cell? (ad.add (i.toNat * 2 + j)) = some u := hc0
  obtain ⟨A0, c0, rfl, l0, g0⟩ := kR_open hK
  exact ⟨ad, A0, c0, e, hc 0 _ rfl, by rw [← add_field _ _ 1 (by omega)]; exact hc 1 _ rfl, l0, g0⟩
/-- The key of a row. -/
def keyF (vals : List S42) (ks : List Int) : List S42 := ks.map (rd_T42 vals)
theorem keyF_take {vals : List S42} {ks : List Int} {i : Int} (h0 : 0 ≤ i) (h1 : i < ks.length) : (keyF vals ks).take (i.toNat + 1) = (keyF vals ks).take i.toNat ++ [rd_T42 vals (rd ks i)] := by
  rw [List.take_succ_eq_append_getElem (by simp only [keyF, List.length_map]; omega)]
  simp [keyF, rd, List.getD_eq_getElem?_getD, List.getElem?_eq_getElem (show i.toNat < ks.length by omega)]
theorem info42 : (Tryz.prog.info? 42).map (fun i => (i.zero, i.size, i.bytes)) = some (some (.agg #[.int .i64 0, .int .i64 0, .string ⟨#[]⟩]), 3, 32) := by kernel_rfl
theorem T_cap {α : Type} (d : Kd α) {e base g c : Nat} {E : Nat → Prop} {w : World} (h : w.ownsRow base e d.sz (.slice (some ⟨g, 0, none⟩) 0 c) 0 []) (hE : ∀ k, E k → k < w.heap.size ∧ k ≠ g) : T d e w base E (.slice (some ⟨g, 0, none⟩) 0 c) [] :=
  ⟨⟨fun k hk => .inr hk.symm, [], rfl, ⟨fun k hk => hk.symm, [], h, Reps.none _ _⟩, fun j x c hx => by simp at hx⟩, fun k hk => ⟨(hE k hk).1, by have := (hE k hk).2; simp [Value.ownBlock]; omega⟩⟩
def keyOkB (vals : List S42) (ks : List Int) : Prop := ∀ k ∈ ks, 0 ≤ k ∧ k < vals.length
def KeyPost (w : World) (l : List S42) (e : Ending) (w' : World) : Prop := ∃ (A : Option Addr) (c : Nat), e = .returned (.slice A l.length c) ∧ l.length ≤ c ∧ Kd.F k42 w' (fun k => w.heap.size ≤ k) A l.length l ∧ Below w.heap.size w w'
theorem rd_mem' {xs : List Int} {i : Int} (h0 : 0 ≤ i) (h1 : i < xs.length) : rd xs i ∈ xs := by
  rw [rdI_get h0 h1]; exact List.getElem_mem _
set_option maxRecDepth 100000 in
set_option maxHeartbeats 2000000 in
theorem keyOf_calls (r : R33) (A B : Option Addr) (c d : Nat) (ks : List Int) (w : World) (hk : ks.length ≤ 6) (hok : keyOkB r.vals ks) (hA : Kd.C k42 w A r.vals.length r.vals) (hB : Kd.C (Kd.int .i64) w B ks.length ks) :
    Calls Tryz.prog 24 #[AgR r A c, .slice B ks.length d] w (KeyPost w (keyF r.vals ks)) := by
  have hm : ks.length ≤ 9223372036854775807 := by omega
  have HL := Aside0.mk hk
  have HO := Aside0.mk hok
  have HA := Aside0.mk (Kd.C_below hA (below_alloc (Below.refl _ _) (.cells (CsR r A c) 33)))
  have HB := Aside0.mk (Kd.C_below hB (below_alloc (Below.refl _ _) (.cells (CsR r A c) 33)))
  have HX := Aside0.mk (blk_new w (.cells (CsR r A c) 33))
  have HS := Aside0.mk (show (w.alloc (.cells (CsR r A c) 33)).heap.size = w.heap.size + 1 by rw [World.size_alloc])
  have HW := Aside0.mk (below_alloc (Below.refl w.heap.size w) (.cells (CsR r A c) 33))
  clear hA hB hk hok
  obtain ⟨i0, hi, hz0, hz1, hz2⟩ := info_parts info42
  have HI0 := Aside0.mk (And.intro hi (And.intro hz0 (And.intro hz1 hz2)))
  clear hi hz0 hz1 hz2
  go_enter Tryz.func24, Tryz.ntmps24
  go_upto_region 1 with (fail)
  obtain ⟨W1, hW1⟩ : ∃ W1 : World, w.alloc (.cells (CsR r A c) 33) = W1 := ⟨_, rfl⟩
  rw [hW1] at HA HB HX HS HW ⊢
  clear hW1
  go_wp2_with (first | (refine wpList_make_own _ rfl _ _ 27 rfl W1.heap.size 42 i0 (.agg #[.int .i64 0, .int .i64 0, .string ⟨#[]⟩]) 3 Tryz.underlying27 HI0.out.1 HI0.out.2.1 HI0.out.2.2.1 .i64 .i64 _ ks.length rfl rfl rfl (by rw [HI0.out.2.2.2]; have := HL.out; omega) (by have := HL.out; unfold maxLen; omega) (Nat.le_refl _) ?_; intro W2 hown hgr) | fail)
  have HB2 := Aside0.mk (pw_below_grown (Below.refl W1.heap.size W1) none (Nat.le_refl _) hgr (fun k h => by cases h))
  have HT2 := Aside0.mk (T_cap k42 (E := fun _ => False) hown (fun k h => h.elim))
  clear hown hgr HI0
  go_loopg [5, 7, 13] (ks.length + 1) (fun kq v5 v7 v13 wr => ∃ i : Int, v13 = .int .i64 i ∧ Aside0 (0 ≤ i ∧ i ≤ ks.length ∧ kq = ks.length + 1 - i.toNat) ∧ Aside0 (Below W1.heap.size W1 wr) ∧ Aside0 (T k42 42 wr W1.heap.size (fun _ => False) v5 ((keyF r.vals ks).take i.toNat)))
  case atStart => exact ⟨0, rfl, ⟨by omega, by omega, by omega⟩, HB2, HT2⟩
  case round =>
    clear HB2 HT2
    obtain ⟨i, rfl, HI, HV, HT⟩ := hrel
    obtain ⟨i0, i1, i2⟩ := HI.out
    by_cases hlt : i < ks.length
    · have hb : decide (i < (ks.length : Int)) = true := decide_eq_true hlt
      have HK := Aside0.mk (keyF_take (vals := r.vals) i0 hlt)
      obtain ⟨kd, f1, k0⟩ := Kd.at_int HB.out i i0 hlt
      obtain ⟨q0, q1⟩ := HO.out _ (rd_mem' i0 hlt)
      obtain ⟨k, hke⟩ : ∃ k, rd ks i = k := ⟨_, rfl⟩
      rw [hke] at k0 q0 q1 HK
      obtain ⟨ad, e1, x0, x1, x2⟩ := at_T42 HA.out k q0 q1
      obtain ⟨x, hxe⟩ : ∃ x, rd_T42 r.vals k = x := ⟨_, rfl⟩
      rw [hxe] at x0 x1 x2 HK
      subst f1
      subst e1
      clear hke hxe i1 i2
      replace k0 := cell_later HV.out k0
      replace x0 := cell_later HV.out x0
      replace x1 := cell_later HV.out x1
      replace x2 := cell_later HV.out x2
      obtain ⟨b0, b1⟩ := box2 (blk_below HX.out HV.out)
      replace hlt := eq_true hlt
      replace i0 := eq_true i0
      have HLT := Aside0.mk (show (((keyF r.vals ks).take i.toNat).length + 1) * 32 ≤ 140737488355328 by
        rw [List.length_take]; have := HL.out; have : (keyF r.vals ks).length = ks.length := by simp [keyF]
        omega)
      have q0' := eq_true q0
      have q1' := eq_true q1
      go_wp2_with (first | (refine T_append k42 (w0 := W1) W1.heap.size (fun _ => False) (by rfl) (.tmp 17) (.tmp 23) 27 42 (.agg #[.int .i64 0, .int .i64 0, .string ⟨#[]⟩]) 32 rfl Tryz.underlying27 info42 rfl (by decide) (by omega) u5 ((keyF r.vals ks).take i.toNat) x (Cs42 x).toList rfl rfl (k42_mkF _ _ x) HT.out HV.out HV.out.size HLT.out ?_; intro v1 w3 hN1 hb1 hg1 hat1) | fail)
      have HB3 := Aside0.mk hb1
      have HT3 := Aside0.mk hN1
      clear hb1 hN1 hg1 hat1 b0 b1 k0 x0 x1 x2
      have i0' := of_eq_true i0
      have hlt' := of_eq_true hlt
      go_roundg (ks.length + 1 - (i + 1).toNat)
      case measure => have := HI.out.2.2; omega
      case rel => exact ⟨i + 1, congrArg (Value.int .i64) (wrap_succ i0' hlt' hm), ⟨by omega, by omega, rfl⟩, HB3, ⟨by rw [succ_toNat i0', HK.out]; exact HT3.out⟩⟩
    · have hb : decide (i < (ks.length : Int)) = false := decide_eq_false hlt
      have hl : (keyF r.vals ks).length = ks.length := by simp [keyF]
      have e : (keyF r.vals ks).take i.toNat = keyF r.vals ks := List.take_of_length_le (by omega)
      rw [e] at HT
      clear e hl i0 i1 i2 hlt HI
      obtain ⟨A5, c5, e5, l5, g5⟩ := T_reads HT.out
      subst e5
      have HF := Aside0.mk (And.intro l5 (Kd.N_F HT.out.1))
      have HG := Aside0.mk (T_base HT.out)
      clear l5 g5
      go_wp2
      go_ret
      exact ⟨A5, c5, rfl, HF.out.1, Kd.F_mono HF.out.2 (fun k hk => by
        rcases hk with hk | hk
        · exact hk.elim
        · have := HG.out k hk.symm
          have := HS.out
          omega), below_then HW.out HW.out.size HV.out⟩
end Go.Proofs.YtcpngmclhicciaaGreatDoor
/- 'compare', 'keyed' and 'Sorted' of package mergejoin. -/
namespace Go.Proofs.YtcpngmclhicciaaGreatDoor
open Go.RowKit Go.Proofs.YtcpngmclhicciaaGreatDoorW.PrintWords PMergejoinGroups
set_option linter.unusedVariables false
set_option linter.unusedSimpArgs false
set_option maxRecDepth 100000 in
set_option maxHeartbeats 2000000 in
theorem compare_calls (r s : R33) (A A' B : Option Addr) (c c' d : Nat) (ks : List Int) (w : World) (hk : ks.length ≤ 6) (hr : keyOkB r.vals ks) (hs : keyOkB s.vals ks) (hA : Kd.C k42 w A r.vals.length r.vals) (hA' : Kd.C k42 w A' s.vals.length s.vals) (hB : Kd.C (Kd.int .i64) w B ks.length ks) :
    Calls Tryz.prog 16 #[AgR r A c, AgR s A' c', .slice B ks.length d] w fun e w' => e = .returned (.int .i64 (cmpR (keyF r.vals ks) (keyF s.vals ks))) ∧ Below w.heap.size w w' := by
  have HO := Aside0.mk (And.intro hk (And.intro hr hs))
  have HW := Aside0.mk (below_alloc (below_alloc (Below.refl w.heap.size w) (.cells (CsR r A c) 33)) (.cells (CsR s A' c') 33))
  have HC := Aside0.mk (And.intro (Kd.C_below hA HW.out) (And.intro (Kd.C_below hA' HW.out) (Kd.C_below hB HW.out)))
  have HX := Aside0.mk (blk_alloc (blk_new w (.cells (CsR r A c) 33)) (.cells (CsR s A' c') 33))
  have HY := Aside0.mk (show ((w.alloc (.cells (CsR r A c) 33)).alloc (.cells (CsR s A' c') 33)).heap[w.heap.size + 1]? = some (.cells (CsR s A' c') 33 (0, 0)) by
    have := blk_new (w.alloc (.cells (CsR r A c) 33)) (.cells (CsR s A' c') 33)
    rwa [World.size_alloc] at this)
  clear hA hA' hB hk hr hs
  go_enter Tryz.func16, Tryz.ntmps16
  go_upto_region 1 with (fail)
  obtain ⟨W, hW⟩ : ∃ W : World, (w.alloc (.cells (CsR r A c) 33)).alloc (.cells (CsR s A' c') 33) = W := ⟨_, rfl⟩
  rw [hW] at HW HC HX HY ⊢
  clear hW
  obtain ⟨a0, a1⟩ := box2 HX.out
  obtain ⟨b0, b1⟩ := box2 HY.out
  have hba := Aside0.mk (below_drew (Below.refl W.heap.size W))
  go_region_held3 (fun w' => w'.cell? ⟨w.heap.size, 0, none⟩ = some (.slice A r.vals.length c) ∧ w'.cell? ⟨w.heap.size, 1, none⟩ = some (.slice r.ann.1 r.ann.2.1 r.ann.2.2) ∧ w'.cell? ⟨w.heap.size + 1, 0, none⟩ = some (.slice A' s.vals.length c') ∧ w'.cell? ⟨w.heap.size + 1, 1, none⟩ = some (.slice s.ann.1 s.ann.2.1 s.ann.2.2)) (refine ⟨?_, ?_, ?_, ?_⟩ <;> (repeat (first | (with_reducible refine cell_dr ?_) | with_reducible exact a0 | with_reducible exact a1 | with_reducible exact b0 | with_reducible exact b1 | with_reducible exact cell_later hc3 a0 | with_reducible exact cell_later hc3 a1 | with_reducible exact cell_later hc3 b0 | with_reducible exact cell_later hc3 b1 | with_reducible exact cell_later hc2 a0 | with_reducible exact cell_later hc2 a1 | with_reducible exact cell_later hc2 b0 | with_reducible exact cell_later hc2 b1 | with_reducible exact cell_later hc1 a0 | with_reducible exact cell_later hc1 a1 | with_reducible exact cell_later hc1 b0 | with_reducible exact cell_later hc1 b1))) (first | (go_at_call 24; (with_reducible refine (keyOf_calls r A B c d ks _ HO.out.1 HO.out.2.1 (Kd.C_below HC.out.1 hba.out) (Kd.C_below HC.out.2.2 hba.out)).mono ?_); rintro e w1 ⟨A1, c1, rfl, l1, f1, hb1⟩; have hc1 := below_then hba.out hba.out.size hb1) | (go_at_call 24; (with_reducible refine (keyOf_calls s A' B c' d ks _ HO.out.1 HO.out.2.2 (Kd.C_below HC.out.2.1 hc1) (Kd.C_below HC.out.2.2 hc1)).mono ?_); rintro e w2 ⟨A2, c2, rfl, l2, f2, hb2⟩; have hc2 := below_then hc1 hc1.size hb2) | (go_at_call 9; (with_reducible refine (cmprows_calls _ _ A1 A2 c1 c2 _ (Kd.C_below (Kd.F_now f1) hb2) (Kd.F_now f2)).mono ?_); rintro e w3 ⟨rfl, hb3⟩; have hc3 := below_then hc2 hc2.size hb3) | fail)
  go_wp2
  go_ret
  exact ⟨rfl, below_then HW.out HW.out.size hc3⟩
set_option maxRecDepth 100000 in
theorem clo15_calls (r s : R33) (A A' B : Option Addr) (c c' d g : Nat) (ks : List Int) (w : World) (hg : w.heap[g]? = some (.cells #[.slice B ks.length d] 23 (0, 0))) (hk : ks.length ≤ 6) (hr : keyOkB r.vals ks) (hs : keyOkB s.vals ks) (hA : Kd.C k42 w A r.vals.length r.vals) (hA' : Kd.C k42 w A' s.vals.length s.vals) (hB : Kd.C (Kd.int .i64) w B ks.length ks) :
    Calls Tryz.prog 15 #[AgR r A c, AgR s A' c', .pointer (some ⟨g, 0, none⟩)] w fun e w' => e = .returned (.int .i64 (cmpR (keyF r.vals ks) (keyF s.vals ks))) ∧ Below w.heap.size w w' := by
  have HO := Aside0.mk (And.intro hk (And.intro hr hs))
  have HW := Aside0.mk (below_alloc (below_alloc (Below.refl w.heap.size w) (.cells (CsR r A c) 33)) (.cells (CsR s A' c') 33))
  have HC := Aside0.mk (And.intro (Kd.C_below hA HW.out) (And.intro (Kd.C_below hA' HW.out) (Kd.C_below hB HW.out)))
  have HX := Aside0.mk (blk_alloc (blk_new w (.cells (CsR r A c) 33)) (.cells (CsR s A' c') 33))
  have HY := Aside0.mk (show ((w.alloc (.cells (CsR r A c) 33)).alloc (.cells (CsR s A' c') 33)).heap[w.heap.size + 1]? = some (.cells (CsR s A' c') 33 (0, 0)) by
    have := blk_new (w.alloc (.cells (CsR r A c) 33)) (.cells (CsR s A' c') 33)
    rwa [World.size_alloc] at this)
  have HG := Aside0.mk (blk_alloc (blk_alloc hg (.cells (CsR r A c) 33)) (.cells (CsR s A' c') 33))
  clear hA hA' hB hk hr hs hg
  go_enter Tryz.func15, Tryz.ntmps15
  go_upto_region 1 with (fail)
  obtain ⟨W, hW⟩ : ∃ W : World, (w.alloc (.cells (CsR r A c) 33)).alloc (.cells (CsR s A' c') 33) = W := ⟨_, rfl⟩
  rw [hW] at HW HC HX HY HG ⊢
  clear hW
  obtain ⟨a0, a1⟩ := box2 HX.out
  obtain ⟨b0, b1⟩ := box2 HY.out
  have g0 := box1 HG.out
  go_wp2_with (first | (go_at_call 16; (with_reducible refine (compare_calls r s A A' B c c' d ks _ HO.out.1 HO.out.2.1 HO.out.2.2 HC.out.1 HC.out.2.1 HC.out.2.2).mono ?_); rintro e w1 ⟨rfl, hb1⟩) | fail)
  go_ret
  exact ⟨rfl, below_then HW.out HW.out.size hb1⟩
end Go.Proofs.YtcpngmclhicciaaGreatDoor
/- 'keyed', 'slices.IsSortedFunc' and 'Sorted' of package mergejoin. -/
namespace Go.Proofs.YtcpngmclhicciaaGreatDoor
open Go.RowKit Go.Proofs.YtcpngmclhicciaaGreatDoorW.PrintWords PMergejoinGroups
set_option linter.unusedVariables false
set_option linter.unusedSimpArgs false
def keyB (vals : List S42) (ks : List Int) : Bool := ks.all fun k => decide (0 ≤ k) && decide (k < vals.length)
theorem keyB_ok {vals : List S42} {ks : List Int} (h : keyB vals ks = true) : keyOkB vals ks := by
  intro k hk
  have := List.all_eq_true.1 h k hk
  simpa using this
def keyedB (rows : List R33) (ks : List Int) : Bool := rows.all fun r => keyB r.vals ks
theorem keyedB_ok {rows : List R33} {ks : List Int} (h : keyedB rows ks = true) : ∀ r ∈ rows, keyOkB r.vals ks := fun r hr => keyB_ok (List.all_eq_true.1 h r hr)
theorem rdR_mem {xs : List R33} {i : Int} (h0 : 0 ≤ i) (h1 : i < xs.length) : rdR xs i ∈ xs := by
  unfold rdR
  rw [List.getD_eq_getElem?_getD, List.getElem?_eq_getElem (by omega)]
  exact List.getElem_mem _
theorem dropR {xs : List R33} {i : Int} (h0 : 0 ≤ i) (h1 : i < xs.length) : xs.drop i.toNat = rdR xs i :: xs.drop (i.toNat + 1) := by
  rw [List.drop_eq_getElem_cons (show i.toNat < xs.length by omega), rdR, List.getD_eq_getElem?_getD, List.getElem?_eq_getElem (by omega)]; rfl
theorem all_drop {α : Type} {p : α → Bool} {xs : List α} {n : Nat} {x : α} (h : xs.drop n = x :: xs.drop (n + 1)) : (xs.drop n).all p = (p x && (xs.drop (n + 1)).all p) := by rw [h]; rfl
set_option maxRecDepth 100000 in
set_option maxHeartbeats 4000000 in
theorem keyed_calls (rows : List R33) (ks : List Int) (A B : Option Addr) (c d : Nat) (w : World) (hA : Kd.C kR w A rows.length rows) (hB : Kd.C (Kd.int .i64) w B ks.length ks) :
    Calls Tryz.prog 13 #[.slice A rows.length c, .slice B ks.length d] w fun e w' => e = .returned (.bool (keyedB rows ks)) ∧ Below w.heap.size w w' := by
  have hm : rows.length ≤ 9223372036854775807 := hA.2.1
  have hn : ks.length ≤ 9223372036854775807 := hB.2.1
  have HA := Aside0.mk hA
  have HB := Aside0.mk hB
  clear hA hB
  go_enter Tryz.func13, Tryz.ntmps13
  go_wp2
  go_loopg [6, 8, 11, 17] (rows.length + 1) (fun kq v6 v8 v11 v17 wr => ∃ i : Int, v11 = .int .i64 i ∧ Aside0 (0 ≤ i ∧ i ≤ rows.length ∧ kq = rows.length + 1 - i.toNat ∧ keyedB rows ks = (rows.drop i.toNat).all fun r => keyB r.vals ks) ∧ Aside0 (Below w.heap.size w wr))
  case atStart => exact ⟨0, rfl, ⟨by omega, by omega, by omega, rfl⟩, ⟨Below.refl _ _⟩⟩
  case round =>
    obtain ⟨i, rfl, HI, HW⟩ := hrel
    obtain ⟨i0, i1, i2, i3⟩ := HI.out
    by_cases hlt : i < rows.length
    · have hb : decide (i < (rows.length : Int)) = true := decide_eq_true hlt
      obtain ⟨ad, A0, c0, e1, x0, x1, l0, g0⟩ := at_R HA.out i i0 hlt
      have h3 := all_drop (p := fun r : R33 => keyB r.vals ks) (dropR i0 hlt)
      rw [h3] at i3
      have HK := Aside0.mk i3
      obtain ⟨r, hre⟩ : ∃ r, rdR rows i = r := ⟨_, rfl⟩
      rw [hre] at x0 x1 l0 g0 HK
      subst e1
      clear hre i1 i2 i3 h3
      replace x0 := cell_later HW.out x0
      replace x1 := cell_later HW.out x1
      have hrl : r.vals.length ≤ 9223372036854775807 := g0.2.1
      clear l0 g0
      replace hlt := eq_true hlt
      replace i0 := eq_true i0
      go_upto_region 5 with (fail)
      have HX := Aside0.mk (blk_new wr (.cells (CsR r A0 c0) 33))
      have HW2 := Aside0.mk (below_alloc HW.out (.cells (CsR r A0 c0) 33))
      obtain ⟨g, hg⟩ : ∃ g, wr.heap.size = g := ⟨_, rfl⟩
      obtain ⟨W2, hW2⟩ : ∃ W2 : World, wr.alloc (.cells (CsR r A0 c0) 33) = W2 := ⟨_, rfl⟩
      rw [hW2] at HX HW2 ⊢
      rw [hg] at HX ⊢
      clear hW2 hg x0 x1
      go_loopg [8, 17] (ks.length + 1) (fun kq v8 v17 wi => ∃ j : Int, v17 = .int .i64 j ∧ Aside0 (0 ≤ j ∧ j ≤ ks.length ∧ kq = ks.length + 1 - j.toNat ∧ keyB r.vals ks = (ks.drop j.toNat).all fun k => decide (0 ≤ k) && decide (k < r.vals.length)) ∧ Aside0 (W2 = wi))
      case atStart => exact ⟨0, rfl, ⟨by omega, by omega, by omega, rfl⟩, ⟨rfl⟩⟩
      case round =>
        obtain ⟨j, rfl, HJ, HV⟩ := hrel
        obtain ⟨j0, j1, j2, j3⟩ := HJ.out
        by_cases hlj : j < ks.length
        · have hb2 : decide (j < (ks.length : Int)) = true := decide_eq_true hlj
          obtain ⟨kd, f1, k0⟩ := Kd.at_int HB.out j j0 hlj
          have h4 := all_drop (p := fun k => decide (0 ≤ k) && decide (k < (r.vals.length : Int))) (dropI j0 hlj)
          rw [h4] at j3
          have HJ3 := Aside0.mk j3
          obtain ⟨k, hke⟩ : ∃ k, rd ks j = k := ⟨_, rfl⟩
          rw [hke] at k0 HJ3
          subst f1
          have HW3 := HW2.out
          obtain rfl := HV.out
          replace k0 := cell_later HW3 k0
          obtain ⟨b0, b1⟩ := box2 HX.out
          clear hke j1 j2 j3 h4 HW3
          replace hlj := eq_true hlj
          replace j0 := eq_true j0
          by_cases hk0 : k < 0
          · have hd0 : decide (k < 0) = true := decide_eq_true hk0
            have HE := Aside0.mk (show keyedB rows ks = false by rw [HK.out, HJ3.out, decide_eq_false (show ¬ (0 ≤ k) by omega)]; rfl)
            clear HK HJ3 HI HJ hk0
            go_wp2
            go_ret
            exact ⟨ret_b HE.out.symm, HW2.out⟩
          · have hd0 : decide (k < 0) = false := decide_eq_false hk0
            by_cases hk1 : (r.vals.length : Int) ≤ k
            · have hd1 : decide ((r.vals.length : Int) ≤ k) = true := decide_eq_true hk1
              have HE := Aside0.mk (show keyedB rows ks = false by rw [HK.out, HJ3.out, decide_eq_false (show ¬ (k < (r.vals.length : Int)) by omega)]; simp)
              clear HK HJ3 HI HJ hk0 hk1
              go_wp2
              go_ret
              exact ⟨ret_b HE.out.symm, HW2.out⟩
            · have hd1 : decide ((r.vals.length : Int) ≤ k) = false := decide_eq_false hk1
              have HJ4 := Aside0.mk (show keyB r.vals ks = (ks.drop (j.toNat + 1)).all fun k => decide (0 ≤ k) && decide (k < (r.vals.length : Int)) by rw [HJ3.out, decide_eq_true (show 0 ≤ k by omega), decide_eq_true (show k < (r.vals.length : Int) by omega)]; rfl)
              clear HJ3 hk0 hk1
              go_wp2
              have j0' := of_eq_true j0
              have hlj' := of_eq_true hlj
              go_roundg (ks.length + 1 - (j + 1).toNat)
              case measure => have := HJ.out.2.2.1; omega
              case rel => exact ⟨j + 1, congrArg (Value.int .i64) (wrap_succ j0' hlj' hn), ⟨by omega, by omega, rfl, by rw [succ_toNat j0']; exact HJ4.out⟩, ⟨rfl⟩⟩
        · have hb2 : decide (j < (ks.length : Int)) = false := decide_eq_false hlj
          have HE := Aside0.mk (show keyedB rows ks = (rows.drop (i.toNat + 1)).all fun r => keyB r.vals ks by rw [HK.out, j3, List.drop_eq_nil_of_le (by omega)]; rfl)
          obtain rfl := HV.out
          clear j0 j1 j2 j3 HJ hlj HK
          go_wp2
          have i0' := of_eq_true i0
          have hlt' := of_eq_true hlt
          go_roundg (rows.length + 1 - (i + 1).toNat)
          case measure => have := HI.out.2.2.1; omega
          case rel => exact ⟨i + 1, congrArg (Value.int .i64) (wrap_succ i0' hlt' hm), ⟨by omega, by omega, rfl, by rw [succ_toNat i0']; exact HE.out⟩, HW2⟩
    · have hb : decide (i < (rows.length : Int)) = false := decide_eq_false hlt
      have HE := Aside0.mk (show keyedB rows ks = true by rw [i3, List.drop_eq_nil_of_le (by omega)]; rfl)
      clear i0 i1 i2 i3 hlt HI
      go_wp2
      go_ret
      exact ⟨ret_b HE.out.symm, HW.out⟩
end Go.Proofs.YtcpngmclhicciaaGreatDoor
/- 'slices.IsSortedFunc' at rows and 'Sorted' of package mergejoin. -/
namespace Go.Proofs.YtcpngmclhicciaaGreatDoor
open Go.RowKit Go.Proofs.YtcpngmclhicciaaGreatDoorW.PrintWords PMergejoinGroups
set_option linter.unusedVariables false
set_option linter.unusedSimpArgs false
/-- The key of row i. -/
def keyAt (rows : List R33) (ks : List Int) (i : Int) : List S42 := keyF (rdR rows i).vals ks
/-- From row n down to row 0 no key is less than the one before. -/
def srt (rows : List R33) (ks : List Int) : Nat → Bool
  | 0 => true
  | n + 1 => !decide (cmpR (keyAt rows ks ((n + 1 : Nat) : Int)) (keyAt rows ks (n : Int)) < 0) && srt rows ks n
theorem srt_step {rows : List R33} {ks : List Int} {i : Int} (h : 0 < i) : srt rows ks i.toNat = (!decide (cmpR (keyAt rows ks i) (keyAt rows ks (i - 1)) < 0) && srt rows ks (i - 1).toNat) := by
  obtain ⟨n, rfl⟩ : ∃ n : Nat, i = ((n + 1 : Nat) : Int) := ⟨(i - 1).toNat, by omega⟩
  rw [show (((n + 1 : Nat) : Int)).toNat = n + 1 by omega, show (((n + 1 : Nat) : Int) - 1) = (n : Int) by omega, srt]
  simp
set_option maxRecDepth 100000 in
set_option maxHeartbeats 4000000 in
theorem issorted_calls (rows : List R33) (ks : List Int) (A B : Option Addr) (c d g : Nat) (w : World) (hg : w.heap[g]? = some (.cells #[.slice B ks.length d] 23 (0, 0))) (hk : ks.length ≤ 6) (hok : ∀ r ∈ rows, keyOkB r.vals ks) (hA : Kd.C kR w A rows.length rows) (hB : Kd.C (Kd.int .i64) w B ks.length ks) :
    Calls Tryz.prog 14 #[.slice A rows.length c, .func (.func 15) #[] #[.pointer (some ⟨g, 0, none⟩)]] w fun e w' => e = .returned (.bool (srt rows ks (rows.length - 1))) ∧ Below w.heap.size w w' := by
  have hm : rows.length ≤ 9223372036854775807 := hA.2.1
  have HA := Aside0.mk hA
  have HB := Aside0.mk hB
  have HG := Aside0.mk hg
  have HO := Aside0.mk (And.intro hk hok)
  clear hA hB hg hk hok
  go_enter Tryz.func14, Tryz.ntmps14
  go_wp2
  go_loopg [5] rows.length (fun kq v5 wr => ∃ i : Int, v5 = .int .i64 i ∧ Aside0 (-1 ≤ i ∧ i < rows.length ∧ kq = (i + 1).toNat ∧ srt rows ks (rows.length - 1) = srt rows ks i.toNat) ∧ Aside0 (Below w.heap.size w wr))
  case atStart => exact ⟨(rows.length : Int) - 1, by go_num, ⟨by omega, by omega, by omega, by rw [show ((rows.length : Int) - 1).toNat = rows.length - 1 by omega]⟩, ⟨Below.refl _ _⟩⟩
  case round =>
    obtain ⟨i, rfl, HI, HW⟩ := hrel
    obtain ⟨i0, i1, i2, i3⟩ := HI.out
    by_cases hlt : 0 < i
    · have hb : decide (0 < i) = true := decide_eq_true hlt
      have hS := srt_step (rows := rows) (ks := ks) hlt
      rw [hS] at i3
      have HS := Aside0.mk i3
      have j0 : 0 ≤ i := by omega
      have j1 : 0 ≤ i - 1 := by omega
      have j2 : i - 1 < rows.length := by omega
      obtain ⟨ad, A0, c0, e1, x0, x1, l0, g0⟩ := at_R HA.out i j0 i1
      obtain ⟨ad', A1, c1, e2, y0, y1, l1, g1⟩ := at_R HA.out (i - 1) j1 j2
      rw [e1] at e2
      injection e2 with e2
      subst e2
      subst e1
      have HK1 := Aside0.mk (HO.out.2 _ (rdR_mem j0 i1))
      have HK2 := Aside0.mk (HO.out.2 _ (rdR_mem j1 j2))
      unfold keyAt at HS
      obtain ⟨r, hre⟩ : ∃ r, rdR rows i = r := ⟨_, rfl⟩
      obtain ⟨s, hse⟩ : ∃ s, rdR rows (i - 1) = s := ⟨_, rfl⟩
      rw [show (i - 1).toNat = i.toNat - 1 by omega] at y0 y1
      have j3 : 1 ≤ i := by omega
      have j4 : i ≤ rows.length := by omega
      rw [hre] at x0 x1 g0 HK1 HS
      rw [hse] at y0 y1 g1 HK2 HS
      have HR := Aside0.mk (And.intro (Kd.C_below g0 HW.out) (And.intro (Kd.C_below g1 HW.out) (Kd.C_below HB.out HW.out)))
      have HG2 := Aside0.mk (blk_below HG.out HW.out)
      replace x0 := cell_later HW.out x0
      replace x1 := cell_later HW.out x1
      replace y0 := cell_later HW.out y0
      replace y1 := cell_later HW.out y1
      have hwr : IntKind.i64.wrap (i - 1) = i - 1 := IntWalk.i64_in _ (by omega)
      have hba := Aside0.mk (below_drew (Below.refl wr.heap.size wr))
      clear hre hse hS i3 g0 g1 l0 l1 i2
      by_cases hz : cmpR (keyF r.vals ks) (keyF s.vals ks) < 0
      · have hz2 : decide (cmpR (keyF r.vals ks) (keyF s.vals ks) < 0) = true := decide_eq_true hz
        have HE := Aside0.mk (show srt rows ks (rows.length - 1) = false by rw [HS.out, hz2]; rfl)
        clear HS hz
        go_wp2_with fail
        go_region_held3 (fun w' => w'.cell? (ad.add (i.toNat * 2)) = some (.slice A0 r.vals.length c0) ∧ w'.cell? ⟨(ad.add (i.toNat * 2)).block, (ad.add (i.toNat * 2)).off + 1, none⟩ = some (.slice r.ann.1 r.ann.2.1 r.ann.2.2) ∧ w'.cell? (ad.add ((i.toNat - 1) * 2)) = some (.slice A1 s.vals.length c1) ∧ w'.cell? ⟨(ad.add ((i.toNat - 1) * 2)).block, (ad.add ((i.toNat - 1) * 2)).off + 1, none⟩ = some (.slice s.ann.1 s.ann.2.1 s.ann.2.2)) (refine ⟨?_, ?_, ?_, ?_⟩ <;> (repeat (first | (with_reducible refine cell_dr ?_) | with_reducible exact x0 | with_reducible exact x1 | with_reducible exact y0 | with_reducible exact y1 | with_reducible exact cell_later hc1 x0 | with_reducible exact cell_later hc1 x1 | with_reducible exact cell_later hc1 y0 | with_reducible exact cell_later hc1 y1))) (first | (go_at_call 15; (with_reducible refine (clo15_calls r s A0 A1 B c0 c1 d g ks _ (blk_below HG2.out hba.out) HO.out.1 HK1.out HK2.out (Kd.C_below HR.out.1 hba.out) (Kd.C_below HR.out.2.1 hba.out) (Kd.C_below HR.out.2.2 hba.out)).mono ?_); rintro e w1 ⟨rfl, hb1⟩; have hc1 := below_then hba.out hba.out.size hb1) | fail)
        go_wp2
        go_ret
        exact ⟨ret_b HE.out.symm, below_then HW.out HW.out.size hc1⟩
      · have hz2 : decide (cmpR (keyF r.vals ks) (keyF s.vals ks) < 0) = false := decide_eq_false hz
        have HE := Aside0.mk (show srt rows ks (rows.length - 1) = srt rows ks (i - 1).toNat by rw [HS.out, hz2]; rfl)
        clear HS hz
        go_wp2_with fail
        go_region_held3 (fun w' => w'.cell? (ad.add (i.toNat * 2)) = some (.slice A0 r.vals.length c0) ∧ w'.cell? ⟨(ad.add (i.toNat * 2)).block, (ad.add (i.toNat * 2)).off + 1, none⟩ = some (.slice r.ann.1 r.ann.2.1 r.ann.2.2) ∧ w'.cell? (ad.add ((i.toNat - 1) * 2)) = some (.slice A1 s.vals.length c1) ∧ w'.cell? ⟨(ad.add ((i.toNat - 1) * 2)).block, (ad.add ((i.toNat - 1) * 2)).off + 1, none⟩ = some (.slice s.ann.1 s.ann.2.1 s.ann.2.2)) (refine ⟨?_, ?_, ?_, ?_⟩ <;> (repeat (first | (with_reducible refine cell_dr ?_) | with_reducible exact x0 | with_reducible exact x1 | with_reducible exact y0 | with_reducible exact y1 | with_reducible exact cell_later hc1 x0 | with_reducible exact cell_later hc1 x1 | with_reducible exact cell_later hc1 y0 | with_reducible exact cell_later hc1 y1))) (first | (go_at_call 15; (with_reducible refine (clo15_calls r s A0 A1 B c0 c1 d g ks _ (blk_below HG2.out hba.out) HO.out.1 HK1.out HK2.out (Kd.C_below HR.out.1 hba.out) (Kd.C_below HR.out.2.1 hba.out) (Kd.C_below HR.out.2.2 hba.out)).mono ?_); rintro e w1 ⟨rfl, hb1⟩; have hc1 := below_then hba.out hba.out.size hb1) | fail)
        have HB2 := Aside0.mk (below_then HW.out HW.out.size hc1)
        clear hc1 hb1
        go_wp2
        go_roundg ((i - 1) + 1).toNat
        case measure => have := HI.out.2.2.1; omega
        case rel => exact ⟨i - 1, rfl, ⟨by omega, by omega, rfl, HE.out⟩, HB2⟩
    · have hb : decide (0 < i) = false := decide_eq_false hlt
      have HE := Aside0.mk (show srt rows ks (rows.length - 1) = true by rw [i3, show i.toNat = 0 by omega]; rfl)
      clear i0 i1 i2 i3 hlt HI
      go_wp2
      go_ret
      exact ⟨ret_b HE.out.symm, HW.out⟩
/-- Are the rows sorted by their keys? -/
def sortedB (rows : List R33) (ks : List Int) : Bool := keyedB rows ks && srt rows ks (rows.length - 1)
set_option maxRecDepth 100000 in
theorem sorted_calls (rows : List R33) (ks : List Int) (A B : Option Addr) (c d : Nat) (w : World) (hk : ks.length ≤ 6) (hA : Kd.C kR w A rows.length rows) (hB : Kd.C (Kd.int .i64) w B ks.length ks) :
    Calls Tryz.prog 5 #[.slice A rows.length c, .slice B ks.length d] w fun e w' => e = .returned (.bool (sortedB rows ks)) ∧ Below w.heap.size w w' := by
  have HK := Aside0.mk hk
  have HX := Aside0.mk (blk_new w (.cells #[.slice B ks.length d] 23))
  have HW := Aside0.mk (below_alloc (Below.refl w.heap.size w) (.cells #[.slice B ks.length d] 23))
  have HA := Aside0.mk (Kd.C_below hA HW.out)
  have HB := Aside0.mk (Kd.C_below hB HW.out)
  clear hA hB hk
  have hS : sortedB rows ks = (keyedB rows ks && srt rows ks (rows.length - 1)) := rfl
  cases hq : keyedB rows ks
  · have HE := Aside0.mk (show sortedB rows ks = false by rw [hS, hq]; rfl)
    have HQ := Aside0.mk hq
    clear hS hq
    go_enter Tryz.func5, Tryz.ntmps5
    go_upto_region 1 with (fail)
    obtain ⟨W, hW⟩ : ∃ W : World, w.alloc (.cells #[.slice B ks.length d] 23) = W := ⟨_, rfl⟩
    rw [hW] at HW HX HA HB ⊢
    clear hW
    have x0 := box1 HX.out
    go_wp2_with (first | (go_at_call 13; (with_reducible refine (keyed_calls rows ks A B c d _ HA.out HB.out).mono ?_); rintro e w1 ⟨rfl, hb1⟩; rw [HQ.out]) | fail)
    go_ret
    exact ⟨ret_b HE.out.symm, below_then HW.out HW.out.size hb1⟩
  · have HE := Aside0.mk (show sortedB rows ks = srt rows ks (rows.length - 1) by rw [hS, hq]; rfl)
    have HQ := Aside0.mk hq
    clear hS hq
    go_enter Tryz.func5, Tryz.ntmps5
    go_upto_region 1 with (fail)
    obtain ⟨W, hW⟩ : ∃ W : World, w.alloc (.cells #[.slice B ks.length d] 23) = W := ⟨_, rfl⟩
    rw [hW] at HW HX HA HB ⊢
    clear hW
    have x0 := box1 HX.out
    go_wp2_with (first | (go_at_call 13; (with_reducible refine (keyed_calls rows ks A B c d _ HA.out HB.out).mono ?_); rintro e w1 ⟨rfl, hb1⟩; rw [HQ.out]) | (go_at_call 14; (with_reducible refine (issorted_calls rows ks A B c d _ _ (blk_below HX.out hb1) HK.out (keyedB_ok HQ.out) (Kd.C_below HA.out hb1) (Kd.C_below HB.out hb1)).mono ?_); rintro e w2 ⟨rfl, hb2⟩) | fail)
    go_ret
    exact ⟨ret_b HE.out.symm, below_then HW.out HW.out.size (below_then hb1 hb1.size hb2)⟩
end Go.Proofs.YtcpngmclhicciaaGreatDoor
/- 'advance', 'Advance' of package mergejoin and the reference's 'Key'. -/
namespace Go.Proofs.YtcpngmclhicciaaGreatDoor
open Go.RowKit Go.Proofs.YtcpngmclhicciaaGreatDoorW.PrintWords PMergejoinGroups
set_option linter.unusedVariables false
set_option linter.unusedSimpArgs false
/-- The first row from i on whose key is not less than t. -/
def adv (rows : List R33) (ks : List Int) (t : List S42) : Nat → Int → Int
  | 0, i => i
  | n + 1, i => if cmpR (keyAt rows ks i) t < 0 then adv rows ks t n (i + 1) else i
theorem adv_step {rows : List R33} {ks : List Int} {t : List S42} {i : Int} (h : i < rows.length) : adv rows ks t (rows.length - i).toNat i = if cmpR (keyAt rows ks i) t < 0 then adv rows ks t (rows.length - (i + 1)).toNat (i + 1) else i := by
  obtain ⟨n, hn⟩ : ∃ n : Nat, (rows.length - i).toNat = n + 1 := ⟨(rows.length - i).toNat - 1, by omega⟩
  rw [hn, adv, show (rows.length - (i + 1)).toNat = n by omega]
set_option maxRecDepth 100000 in
set_option maxHeartbeats 4000000 in
theorem advance_calls (rows : List R33) (ks : List Int) (t : List S42) (A B D : Option Addr) (c d e : Nat) (from_ : Int) (w : World) (h0 : 0 ≤ from_) (hmx : from_ ≤ 9223372036854775807) (hk : ks.length ≤ 6) (hok : ∀ r ∈ rows, keyOkB r.vals ks) (hA : Kd.C kR w A rows.length rows) (hB : Kd.C (Kd.int .i64) w B ks.length ks) (hD : Kd.C k42 w D t.length t) :
    Calls Tryz.prog 22 #[.slice A rows.length c, .slice B ks.length d, .int .i64 from_, .slice D t.length e] w fun e w' => e = .returned (.int .i64 (adv rows ks t (rows.length - from_).toNat from_)) ∧ Below w.heap.size w w' := by
  have hm : rows.length ≤ 9223372036854775807 := hA.2.1
  have HA := Aside0.mk hA
  have HB := Aside0.mk (And.intro hB hD)
  have HO := Aside0.mk (And.intro hk hok)
  have H0 := Aside0.mk (And.intro h0 hmx)
  clear hA hB hk hok hD h0 hmx
  go_enter Tryz.func22, Tryz.ntmps22
  go_wp2
  go_loopg [2] (rows.length - from_).toNat (fun kq v2 wr => ∃ i : Int, v2 = .int .i64 i ∧ Aside0 (0 ≤ i ∧ i ≤ 9223372036854775807 ∧ adv rows ks t (rows.length - from_).toNat from_ = adv rows ks t (rows.length - i).toNat i ∧ kq = (rows.length - i).toNat) ∧ Aside0 (Below w.heap.size w wr))
  case atStart => exact ⟨from_, rfl, ⟨H0.out.1, H0.out.2, rfl, rfl⟩, ⟨Below.refl _ _⟩⟩
  case round =>
    obtain ⟨i, rfl, HI, HW⟩ := hrel
    obtain ⟨i0, i1, i2, i3⟩ := HI.out
    by_cases hlt : i < rows.length
    · have hb : decide (i < (rows.length : Int)) = true := decide_eq_true hlt
      rw [adv_step hlt] at i2
      have HS := Aside0.mk i2
      obtain ⟨ad, A0, c0, e1, x0, x1, l0, g0⟩ := at_R HA.out i i0 hlt
      subst e1
      have HK1 := Aside0.mk (HO.out.2 _ (rdR_mem i0 hlt))
      unfold keyAt at HS
      obtain ⟨r, hre⟩ : ∃ r, rdR rows i = r := ⟨_, rfl⟩
      rw [hre] at x0 x1 g0 HK1 HS
      have HR := Aside0.mk (And.intro (Kd.C_below g0 HW.out) (And.intro (Kd.C_below HB.out.1 HW.out) (Kd.C_below HB.out.2 HW.out)))
      replace x0 := cell_later HW.out x0
      replace x1 := cell_later HW.out x1
      clear hre g0 l0 i1 i2 i3
      replace hlt := eq_true hlt
      replace i0 := eq_true i0
      by_cases hz : cmpR (keyF r.vals ks) t < 0
      · have hz2 : decide (cmpR (keyF r.vals ks) t < 0) = true := decide_eq_true hz
        have HE := Aside0.mk (show adv rows ks t (rows.length - from_).toNat from_ = adv rows ks t (rows.length - (i + 1)).toNat (i + 1) by rw [HS.out, if_pos hz])
        clear HS hz
        go_wp2_with (first | (go_at_call 24; (with_reducible refine (keyOf_calls r A0 B c0 d ks _ HO.out.1 HK1.out HR.out.1 HR.out.2.1).mono ?_); rintro e w1 ⟨A1, c1, rfl, l1, f1, hb1⟩) | (go_at_call 9; (with_reducible refine (cmprows_calls _ _ A1 D c1 _ _ (Kd.F_now f1) (Kd.C_below HR.out.2.2 hb1)).mono ?_); rintro e w2 ⟨rfl, hb2⟩; have HB2 := Aside0.mk (below_then HW.out HW.out.size (below_then hb1 hb1.size hb2)); clear hb1 hb2 f1 l1) | fail)
        have hlt' := of_eq_true hlt
        have i0' := of_eq_true i0
        go_roundg (rows.length - (i + 1)).toNat
        case measure => have := HI.out.2.2.2; omega
        case rel => exact ⟨i + 1, congrArg (Value.int .i64) (wrap_succ i0' hlt' hm), ⟨by omega, by omega, HE.out, rfl⟩, HB2⟩
      · have hz2 : decide (cmpR (keyF r.vals ks) t < 0) = false := decide_eq_false hz
        have HE := Aside0.mk (show adv rows ks t (rows.length - from_).toNat from_ = i by rw [HS.out, if_neg hz])
        clear HS hz
        go_wp2_with (first | (go_at_call 24; (with_reducible refine (keyOf_calls r A0 B c0 d ks _ HO.out.1 HK1.out HR.out.1 HR.out.2.1).mono ?_); rintro e w1 ⟨A1, c1, rfl, l1, f1, hb1⟩) | (go_at_call 9; (with_reducible refine (cmprows_calls _ _ A1 D c1 _ _ (Kd.F_now f1) (Kd.C_below HR.out.2.2 hb1)).mono ?_); rintro e w2 ⟨rfl, hb2⟩; have HB2 := Aside0.mk (below_then HW.out HW.out.size (below_then hb1 hb1.size hb2)); clear hb1 hb2 f1 l1) | fail)
        go_ret
        exact ⟨ret_i HE.out.symm, HB2.out⟩
    · have hb : decide (i < (rows.length : Int)) = false := decide_eq_false hlt
      have HE := Aside0.mk (show adv rows ks t (rows.length - from_).toNat from_ = i by rw [i2, show (rows.length - i).toNat = 0 by omega]; rfl)
      clear i0 i1 i2 i3 hlt HI
      go_wp2
      go_ret
      exact ⟨ret_i HE.out.symm, HW.out⟩
theorem adv_bd (rows : List R33) (ks : List Int) (t : List S42) : ∀ (n : Nat) (i : Int), i ≤ adv rows ks t n i ∧ adv rows ks t n i ≤ i + n
  | 0, i => ⟨Int.le_refl _, by simp [adv]⟩
  | n + 1, i => by
    have := adv_bd rows ks t n (i + 1)
    rw [adv]
    split <;> omega
set_option maxRecDepth 100000 in
theorem Advance_calls (rows : List R33) (ks : List Int) (t : List S42) (A B D : Option Addr) (c d e : Nat) (from_ : Int) (w : World) (h0 : 0 ≤ from_) (h1 : from_ ≤ rows.length) (hk : ks.length ≤ 6) (hok : keyedB rows ks = true) (hA : Kd.C kR w A rows.length rows) (hB : Kd.C (Kd.int .i64) w B ks.length ks) (hD : Kd.C k42 w D t.length t) :
    Calls Tryz.prog 10 #[.slice A rows.length c, .slice B ks.length d, .int .i64 from_, .slice D t.length e] w fun e w' => e = .returned (.int .i64 (adv rows ks t (rows.length - from_).toNat from_)) ∧ Below w.heap.size w w' := by
  have hm : rows.length ≤ 9223372036854775807 := hA.2.1
  have hbd := adv_bd rows ks t (rows.length - from_).toNat from_
  have HA := Aside0.mk (And.intro hA (And.intro hB hD))
  have HO := Aside0.mk (And.intro hk (And.intro hok (keyedB_ok hok)))
  have hmx : max from_ 0 = from_ := by omega
  obtain ⟨v, hv⟩ : ∃ v, adv rows ks t (rows.length - from_).toNat from_ = v := ⟨_, rfl⟩
  have HV := Aside0.mk hv
  rw [hv] at hbd ⊢
  have hmn : min (rows.length : Int) v = v := by omega
  have H0 := Aside0.mk (And.intro h0 (show from_ ≤ 9223372036854775807 by omega))
  clear hA hB hk hok hD hv hbd
  go_enter Tryz.func10, Tryz.ntmps10
  go_wp2_with (first | (go_at_call 13; (with_reducible refine (keyed_calls rows ks A B c d _ HA.out.1 HA.out.2.1).mono ?_); rintro e w1 ⟨rfl, hb1⟩; rw [HO.out.2.1]) | (go_at_call 22; refine (advance_calls rows ks t A B D c d _ from_ _ H0.out.1 H0.out.2 HO.out.1 HO.out.2.2 (Kd.C_below HA.out.1 hb1) (Kd.C_below HA.out.2.1 hb1) (Kd.C_below HA.out.2.2 hb1)).mono ?_; rintro e w2 ⟨rfl, hb2⟩; rw [HV.out]) | fail)
  go_ret
  exact ⟨rfl, below_then hb1 hb1.size hb2⟩
end Go.Proofs.YtcpngmclhicciaaGreatDoor
/- The reference's 'Key' of a row that has one. -/
namespace Go.Proofs.YtcpngmclhicciaaGreatDoor
open Go.RowKit Go.Proofs.YtcpngmclhicciaaGreatDoorW.PrintWords PMergejoinGroups
set_option linter.unusedVariables false
set_option linter.unusedSimpArgs false
def KeyPost2 (w : World) (l : List S42) (e : Ending) (w' : World) : Prop := ∃ (A : Option Addr) (c : Nat), e = .returned (.tuple #[.slice A l.length c, .bool true]) ∧ l.length ≤ c ∧ Kd.C k42 w' A l.length l ∧ Below w.heap.size w w'
set_option maxRecDepth 100000 in
set_option maxHeartbeats 2000000 in
theorem refKey_calls (r : R33) (A B : Option Addr) (c d : Nat) (ks : List Int) (w : World) (hk : ks.length ≤ 6) (hok : keyOkB r.vals ks) (hA : Kd.C k42 w A r.vals.length r.vals) (hB : Kd.C (Kd.int .i64) w B ks.length ks) :
    Calls Tryz.prog 8 #[AgR r A c, .slice B ks.length d] w (KeyPost2 w (keyF r.vals ks)) := by
  have hm : ks.length ≤ 9223372036854775807 := by omega
  have HL := Aside0.mk hk
  have HO := Aside0.mk hok
  have HA := Aside0.mk (Kd.C_below hA (below_alloc (Below.refl _ _) (.cells (CsR r A c) 33)))
  have HB := Aside0.mk (Kd.C_below hB (below_alloc (Below.refl _ _) (.cells (CsR r A c) 33)))
  have HX := Aside0.mk (blk_new w (.cells (CsR r A c) 33))
  have HS := Aside0.mk (show (w.alloc (.cells (CsR r A c) 33)).heap.size = w.heap.size + 1 by rw [World.size_alloc])
  have HW := Aside0.mk (below_alloc (Below.refl w.heap.size w) (.cells (CsR r A c) 33))
  clear hA hB hk hok
  go_enter Tryz.func8, Tryz.ntmps8
  go_upto_region 1 with (fail)
  obtain ⟨W1, hW1⟩ : ∃ W1 : World, w.alloc (.cells (CsR r A c) 33) = W1 := ⟨_, rfl⟩
  rw [hW1] at HA HB HX HS HW ⊢
  clear hW1
  go_wp2
  have HB2 := Aside0.mk (below_alloc (Below.refl W1.heap.size W1) (.cells #[] 42))
  have HT2 := Aside0.mk (T_made (d := k42) (e := 42) (base := W1.heap.size) (E := fun _ => False) (w := W1) (xs := []) (Nat.le_refl _) (by simp) (fun k h => h.elim) (Reps.none _ _))
  go_loopg [6, 7] (ks.length + 1) (fun kq v6 v7 wr => ∃ i : Int, v7 = .int .i64 i ∧ Aside0 (0 ≤ i ∧ i ≤ ks.length ∧ kq = ks.length + 1 - i.toNat) ∧ Aside0 (Below W1.heap.size W1 wr) ∧ Aside0 (T k42 42 wr W1.heap.size (fun _ => False) v6 ((keyF r.vals ks).take i.toNat)))
  case atStart => exact ⟨0, rfl, ⟨by omega, by omega, by omega⟩, HB2, HT2⟩
  case round =>
    clear HB2 HT2
    obtain ⟨i, rfl, HI, HV, HT⟩ := hrel
    obtain ⟨i0, i1, i2⟩ := HI.out
    by_cases hlt : i < ks.length
    · have hb : decide (i < (ks.length : Int)) = true := decide_eq_true hlt
      have HK := Aside0.mk (keyF_take (vals := r.vals) i0 hlt)
      obtain ⟨kd, f1, k0⟩ := Kd.at_int HB.out i i0 hlt
      obtain ⟨q0, q1⟩ := HO.out _ (rd_mem' i0 hlt)
      obtain ⟨k, hke⟩ : ∃ k, rd ks i = k := ⟨_, rfl⟩
      rw [hke] at k0 q0 q1 HK
      obtain ⟨ad, e1, x0, x1, x2⟩ := at_T42 HA.out k q0 q1
      obtain ⟨x, hxe⟩ : ∃ x, rd_T42 r.vals k = x := ⟨_, rfl⟩
      rw [hxe] at x0 x1 x2 HK
      subst f1
      subst e1
      clear hke hxe i1 i2
      have z0 : decide (k < 0) = false := decide_eq_false (by omega)
      have z1 : decide ((r.vals.length : Int) ≤ k) = false := decide_eq_false (by omega)
      have HW1 := Aside0.mk (And.intro k0 (And.intro (box2 HX.out).1 (And.intro x0 (And.intro x1 x2))))
      replace k0 := cell_later HV.out k0
      replace x0 := cell_later HV.out x0
      replace x1 := cell_later HV.out x1
      replace x2 := cell_later HV.out x2
      obtain ⟨b0, b1⟩ := box2 (blk_below HX.out HV.out)
      replace hlt := eq_true hlt
      replace i0 := eq_true i0
      have HLT := Aside0.mk (show (((keyF r.vals ks).take i.toNat).length + 1) * 32 ≤ 140737488355328 by
        rw [List.length_take]; have := HL.out; have : (keyF r.vals ks).length = ks.length := by simp [keyF]
        omega)
      replace q0 := eq_true q0
      replace q1 := eq_true q1
      go_wp2_with fail
      go_quiet (fail)
      go_wp2_with fail
      have hbq := pw_below_drewN (Below.refl wr.heap.size wr) nq
      obtain ⟨W2, hW2⟩ : ∃ W2 : World, wr.drewN nq = W2 := ⟨_, rfl⟩
      rw [hW2] at hbq ⊢
      clear hW2
      have HV2 := Aside0.mk (below_then HV.out HV.out.size hbq)
      have HT2 := Aside0.mk (T_below HT.out hbq)
      replace k0 := cell_later hbq k0
      replace x0 := cell_later hbq x0
      replace x1 := cell_later hbq x1
      replace x2 := cell_later hbq x2
      replace b0 := cell_later hbq b0
      clear hbq b1 HV HT
      have hbd := Aside0.mk (below_drew (Below.refl W2.heap.size W2))
      have HR1 := Aside0.mk (T_base HT2.out)
      go_region_held3 (fun w' => w'.cell? (kd.add i.toNat) = some (.int .i64 k) ∧ w'.cell? ⟨w.heap.size, 0, none⟩ = some (.slice (some ad) r.vals.length c) ∧ w'.cell? (ad.add (k.toNat * 3)) = some (.int .i64 x.f0) ∧ w'.cell? ⟨(ad.add (k.toNat * 3)).block, (ad.add (k.toNat * 3)).off + 1, none⟩ = some (.int .i64 x.f1) ∧ w'.cell? ⟨(ad.add (k.toNat * 3)).block, (ad.add (k.toNat * 3)).off + 2, none⟩ = some (.string x.f2)) (refine ⟨?_, ?_, ?_, ?_, ?_⟩ <;> (repeat (first | (with_reducible refine cell_dr ?_) | (with_reducible refine cell_al ?_ _) | with_reducible exact k0 | with_reducible exact b0 | with_reducible exact x0 | with_reducible exact x1 | with_reducible exact x2 | with_reducible exact cell_own HW1.out.1 (cell_later hbd.out k0) hg1 HR1.out | with_reducible exact cell_own HW1.out.2.1 (cell_later hbd.out b0) hg1 HR1.out | with_reducible exact cell_own HW1.out.2.2.1 (cell_later hbd.out x0) hg1 HR1.out | with_reducible exact cell_own HW1.out.2.2.2.1 (cell_later hbd.out x1) hg1 HR1.out | with_reducible exact cell_own HW1.out.2.2.2.2 (cell_later hbd.out x2) hg1 HR1.out))) ((refine T_append_step k42 (w0 := W1) (W := W2.drew) W1.heap.size (fun _ => False) (by rfl) (.tmp 30) (.tmp 39) 27 42 (.agg #[.int .i64 0, .int .i64 0, .string ⟨#[]⟩]) 32 rfl Tryz.underlying27 info42 rfl (by decide) (by omega) u6 ((keyF r.vals ks).take i.toNat) x (Cs42 x).toList rfl rfl (k42_mkF _ _ x) rfl (T_below HT2.out hbd.out) (below_drew HV2.out) HV2.out.size HLT.out ?_; intro v1 w3 hN1 hb1 hg1 hat1))
      have HB3 := Aside0.mk hb1
      have HT3 := Aside0.mk hN1
      clear hb1 hN1 hg1 hat1 b0 k0 x0 x1 x2
      go_wp2
      have i0' := of_eq_true i0
      have hlt' := of_eq_true hlt
      go_roundg (ks.length + 1 - (i + 1).toNat)
      case measure => have := HI.out.2.2; omega
      case rel => exact ⟨i + 1, congrArg (Value.int .i64) (wrap_succ i0' hlt' hm), ⟨by omega, by omega, rfl⟩, HB3, ⟨by rw [succ_toNat i0', HK.out]; exact HT3.out⟩⟩
    · have hb : decide (i < (ks.length : Int)) = false := decide_eq_false hlt
      have hl : (keyF r.vals ks).length = ks.length := by simp [keyF]
      have e : (keyF r.vals ks).take i.toNat = keyF r.vals ks := List.take_of_length_le (by omega)
      rw [e] at HT
      clear e hl i0 i1 i2 hlt HI
      obtain ⟨A5, c5, e5, l5, g5⟩ := T_reads HT.out
      subst e5
      have HF := Aside0.mk (And.intro l5 g5)
      clear l5 g5
      go_wp2
      go_ret2
      exact ⟨A5, c5, rfl, HF.out.1, HF.out.2, below_then HW.out HW.out.size HV.out⟩
end Go.Proofs.YtcpngmclhicciaaGreatDoor
/- What of an annotation can be read, level by level: enough for 'weight' and 'Few' of the reference. -/
namespace Go.Proofs.YtcpngmclhicciaaGreatDoor
open Go.RowKit Go.Proofs.YtcpngmclhicciaaGreatDoorW.PrintWords PMergejoinGroups
set_option linter.unusedVariables false
set_option linter.unusedSimpArgs false
/-- The annotations of a list of arguments (R: what is asked of each). -/
def RArgs (R : World → Option Addr → Nat → Prop) (w : World) (C : Option Addr) (n : Nat) : Prop := n ≤ 9223372036854775807 ∧ ∀ k : Int, 0 ≤ k → k < n →
  ∃ cd A' n' c', C = some cd ∧ w.cell? (cd.add k.toNat) = some (.slice A' n' c') ∧ R w A' n'
/-- The items of a list. -/
def RItems (R : World → Option Addr → Nat → Prop) (w : World) (C : Option Addr) (n : Nat) : Prop := n ≤ 9223372036854775807 ∧ ∀ k : Int, 0 ≤ k → k < n →
  ∃ (cd : Addr) (a b : Int) (s : ByteArray) (A' : Option Addr) (n' c' : Nat), C = some cd ∧ w.cell? (cd.add (k.toNat * 4)) = some (.int .i64 a) ∧ w.cell? ⟨(cd.add (k.toNat * 4)).block, (cd.add (k.toNat * 4)).off + 1, none⟩ = some (.int .i64 b) ∧ w.cell? ⟨(cd.add (k.toNat * 4)).block, (cd.add (k.toNat * 4)).off + 2, none⟩ = some (.string s) ∧ w.cell? ⟨(cd.add (k.toNat * 4)).block, (cd.add (k.toNat * 4)).off + 3, none⟩ = some (.slice A' n' c') ∧ s.size ≤ 9223372036854775807 ∧ R w A' n'
/-- The factors of a term. -/
def RFac (R : World → Option Addr → Nat → Prop) (w : World) (B : Option Addr) (n : Nat) : Prop := n ≤ 9223372036854775807 ∧ ∀ j : Int, 0 ≤ j → j < n →
  ∃ (bd : Addr) (k t s fn op bk bi : Int) (bt : ByteArray) (C D : Option Addr) (na ca ni ci : Nat), B = some bd ∧ w.cell? (bd.add (j.toNat * 11)) = some (.int .i64 k) ∧ w.cell? ⟨(bd.add (j.toNat * 11)).block, (bd.add (j.toNat * 11)).off + 1, none⟩ = some (.int .i64 t) ∧ w.cell? ⟨(bd.add (j.toNat * 11)).block, (bd.add (j.toNat * 11)).off + 2, none⟩ = some (.int .i64 s) ∧ w.cell? ⟨(bd.add (j.toNat * 11)).block, (bd.add (j.toNat * 11)).off + 3, none⟩ = some (.slice C na ca) ∧ w.cell? ⟨(bd.add (j.toNat * 11)).block, (bd.add (j.toNat * 11)).off + 4, none⟩ = some (.int .i64 fn) ∧ w.cell? ⟨(bd.add (j.toNat * 11)).block, (bd.add (j.toNat * 11)).off + 5, none⟩ = some (.slice D ni ci) ∧ w.cell? ⟨(bd.add (j.toNat * 11)).block, (bd.add (j.toNat * 11)).off + 6, none⟩ = some (.int .i64 op) ∧ w.cell? ⟨(bd.add (j.toNat * 11)).block, (bd.add (j.toNat * 11)).off + 7, none⟩ = some (.int .i64 bk) ∧ w.cell? ⟨(bd.add (j.toNat * 11)).block, (bd.add (j.toNat * 11)).off + 8, none⟩ = some (.int .i64 bi) ∧ w.cell? ⟨(bd.add (j.toNat * 11)).block, (bd.add (j.toNat * 11)).off + 9, none⟩ = some (.string bt) ∧ bt.size ≤ 9223372036854775807 ∧ RArgs R w C na ∧ RItems R w D ni
/-- An annotation, d levels deep. -/
def RAnn : Nat → World → Option Addr → Nat → Prop
  | 0, _, _, _ => True
  | d + 1, w, A, n => n ≤ 9223372036854775807 ∧ ∀ i : Int, 0 ≤ i → i < n →
    ∃ (ad : Addr) (co : Int) (B : Option Addr) (nf cf : Nat), A = some ad ∧ w.cell? (ad.add (i.toNat * 2)) = some (.int .i64 co) ∧ w.cell? ⟨(ad.add (i.toNat * 2)).block, (ad.add (i.toNat * 2)).off + 1, none⟩ = some (.slice B nf cf) ∧ RFac (RAnn d) w B nf
section
variable {R : World → Option Addr → Nat → Prop} {w w' : World} {C : Option Addr} {n : Nat}
theorem RArgs.later (hR : ∀ A n, R w A n → R w' A n) (h : RArgs R w C n) (hb : Below w.heap.size w w') : RArgs R w' C n := ⟨h.1, fun k h0 h1 => by
  obtain ⟨cd, A', n', c', e, hc, hr⟩ := h.2 k h0 h1
  exact ⟨cd, A', n', c', e, cell_later hb hc, hR _ _ hr⟩⟩
theorem RItems.later (hR : ∀ A n, R w A n → R w' A n) (h : RItems R w C n) (hb : Below w.heap.size w w') : RItems R w' C n := ⟨h.1, fun k h0 h1 => by
  obtain ⟨cd, a, b, s, A', n', c', e, c0, c1, c2, c3, hs, hr⟩ := h.2 k h0 h1
  exact ⟨cd, a, b, s, A', n', c', e, cell_later hb c0, cell_later hb c1, cell_later hb c2, cell_later hb c3, hs, hR _ _ hr⟩⟩
theorem RFac.later (hR : ∀ A n, R w A n → R w' A n) (h : RFac R w C n) (hb : Below w.heap.size w w') : RFac R w' C n := ⟨h.1, fun j h0 h1 => by
  obtain ⟨bd, k, t, s, fn, op, bk, bi, bt, C', D, na, ca, ni, ci, e, c0, c1, c2, c3, c4, c5, c6, c7, c8, c9, hs, ha, hi⟩ := h.2 j h0 h1
  exact ⟨bd, k, t, s, fn, op, bk, bi, bt, C', D, na, ca, ni, ci, e, cell_later hb c0, cell_later hb c1, cell_later hb c2, cell_later hb c3, cell_later hb c4, cell_later hb c5, cell_later hb c6, cell_later hb c7, cell_later hb c8, cell_later hb c9, hs, RArgs.later hR ha hb, RItems.later hR hi hb⟩⟩
end
theorem RAnn.later : ∀ (d : Nat) {w w' : World} (hb : Below w.heap.size w w') (A : Option Addr) (n : Nat), RAnn d w A n → RAnn d w' A n
  | 0, _, _, _, _, _, _ => trivial
  | d + 1, w, w', hb, A, n, h => ⟨h.1, fun i h0 h1 => by
    obtain ⟨ad, co, B, nf, cf, e, c0, c1, hf⟩ := h.2 i h0 h1
    exact ⟨ad, co, B, nf, cf, e, cell_later hb c0, cell_later hb c1, RFac.later (RAnn.later d hb) hf hb⟩⟩
theorem box10 {W : World} {g : Nat} {T : TypeId} {a0 a1 a2 a3 a4 a5 a6 a7 a8 a9 : Value} (h : W.heap[g]? = some (.cells #[a0, a1, a2, a3, a4, a5, a6, a7, a8, a9] T (0, 0))) :
    W.cell? ⟨g, 3, none⟩ = some a3 ∧ W.cell? ⟨g, 5, none⟩ = some a5 ∧ W.cell? ⟨g, 9, none⟩ = some a9 :=
  ⟨(blk_cell h 3).trans rfl, (blk_cell h 5).trans rfl, (blk_cell h 9).trans rfl⟩
def IntPost (w : World) (e : Ending) (w' : World) : Prop := ∃ n : Int, e = .returned (.int .i64 n) ∧ Below w.heap.size w w'
abbrev WeightOk (d : Nat) : Prop := ∀ (A : Option Addr) (n c : Nat) (limit D : Int) (w : World), D = (d : Int) → RAnn d w A n → Calls Tryz.prog 23 #[.slice A n c, .int .i64 limit, .int .i64 D] w (IntPost w)
set_option maxRecDepth 100000 in
theorem weight_zero : WeightOk 0 := by
  intro A n c limit D w hD _
  have h0 : (D == 0) = true := by rw [hD]; rfl
  clear hD
  go_enter Tryz.func23, Tryz.ntmps23
  go_wp2
  go_ret
  exact ⟨_, rfl, Below.refl _ _⟩
end Go.Proofs.YtcpngmclhicciaaGreatDoor
/- 'weight' of the reference returns for every annotation; 'Few' of lineageref05. -/
namespace Go.Proofs.YtcpngmclhicciaaGreatDoor
open Go.RowKit Go.Proofs.YtcpngmclhicciaaGreatDoorW.PrintWords PMergejoinGroups
set_option linter.unusedVariables false
set_option linter.unusedSimpArgs false
set_option maxRecDepth 100000 in
set_option maxHeartbeats 16000000 in
theorem weight_step (d : Nat) (hd : d ≤ 1000) (IH : Aside0 (WeightOk d)) : WeightOk (d + 1) := by
  intro A n c limit D w hD hR
  have hn : n ≤ 9223372036854775807 := hR.1
  have HR := Aside0.mk hR
  have hd0 : (D == 0) = false := by rw [hD]; simp; omega
  have hD0 : 0 ≤ D := by omega
  have hD1 : D ≤ 1001 := by omega
  have HD := Aside0.mk (show D - 1 = (d : Int) by omega)
  have HD2 := Aside0.mk (show IntKind.i64.wrap (D - 1) = (d : Int) by rw [IntWalk.i64_in _ (by omega)]; omega)
  clear hR hD hd
  go_enter Tryz.func23, Tryz.ntmps23
  go_wp2
  go_loopg [7, 8, 9, 10, 11, 12] (n + 1) (fun kq v7 v8 v9 v10 v11 v12 wr => ∃ (m i : Int), v7 = .int .i64 m ∧ v8 = .int .i64 i ∧ Aside0 (0 ≤ i ∧ i ≤ n ∧ kq = n + 1 - i.toNat) ∧ Aside0 (Below w.heap.size w wr))
  case atStart => exact ⟨0, 0, rfl, rfl, ⟨by omega, by omega, by omega⟩, ⟨Below.refl _ _⟩⟩
  case round =>
    obtain ⟨m, i, rfl, rfl, HI, HW⟩ := hrel
    obtain ⟨w1, rfl⟩ : ∃ w1 : World, w1 = wr := ⟨_, rfl⟩
    obtain ⟨i0, i1, i2⟩ := HI.out
    by_cases hlt : i < n
    · have hb : decide (i < (n : Int)) = true := decide_eq_true hlt
      by_cases hml : m ≤ limit
      · have hb2 : decide (m ≤ limit) = true := decide_eq_true hml
        obtain ⟨ad, co, B, nf, cf, e1, x0, x1, hf⟩ := HR.out.2 i i0 hlt
        subst e1
        have HF := Aside0.mk (RFac.later (RAnn.later d HW.out) hf HW.out)
        have hnf := hf.1
        replace x1 := cell_later HW.out x1
        clear i1 i2 hf x0 hml
        replace hlt := eq_true hlt
        replace i0 := eq_true i0
        go_wp2
        clear hb2
        go_loopg [7, 9, 10, 11, 12] (nf + 1) (fun kq v7 v9 v10 v11 v12 wi => ∃ (m2 j : Int), v7 = .int .i64 m2 ∧ v9 = .int .i64 j ∧ Aside0 (0 ≤ j ∧ j ≤ nf ∧ kq = nf + 1 - j.toNat) ∧ Aside0 (Below w1.heap.size w1 wi))
        case atStart => exact ⟨_, 0, rfl, rfl, ⟨by omega, by omega, by omega⟩, ⟨Below.refl _ _⟩⟩
        case round =>
          obtain ⟨m2, j, rfl, rfl, HJ, HV⟩ := hrel
          obtain ⟨wi, rfl⟩ : ∃ wi : World, wi = wr := ⟨_, rfl⟩
          obtain ⟨j0, j1, j2⟩ := HJ.out
          have X1 := Aside0.mk x1
          replace x1 := cell_later HV.out x1
          by_cases hlj : j < nf
          · have hbj : decide (j < (nf : Int)) = true := decide_eq_true hlj
            by_cases hmj : m2 ≤ limit
            · have hbj2 : decide (m2 ≤ limit) = true := decide_eq_true hmj
              obtain ⟨bd, k0, t0, s0, fn, op, bk, bi, bt, C, D', na, ca, ni, ci, e2, y0, y1, y2, y3, y4, y5, y6, y7, y8, y9, hs, ha, hi⟩ := HF.out.2 j j0 hlj
              subst e2
              have HA := Aside0.mk (RArgs.later (RAnn.later d HV.out) ha HV.out)
              have HQ := Aside0.mk (RItems.later (RAnn.later d HV.out) hi HV.out)
              have hna := ha.1
              have hni := hi.1
              replace y0 := cell_later HV.out y0
              replace y1 := cell_later HV.out y1
              replace y2 := cell_later HV.out y2
              replace y3 := cell_later HV.out y3
              replace y4 := cell_later HV.out y4
              replace y5 := cell_later HV.out y5
              replace y6 := cell_later HV.out y6
              replace y7 := cell_later HV.out y7
              replace y8 := cell_later HV.out y8
              replace y9 := cell_later HV.out y9
              clear j1 j2 ha hi hmj
              replace hlj := eq_true hlj
              replace j0 := eq_true j0
              go_upto_region 14 with (fail)
              clear y0 y1 y2 y3 y4 y5 y6 y7 y8 y9 hbj2
              have HX := Aside0.mk (blk_new wi (.cells #[.int .i64 k0, .int .i64 t0, .int .i64 s0, .slice C na ca, .int .i64 fn, .slice D' ni ci, .int .i64 op, .int .i64 bk, .int .i64 bi, .string bt] 76))
              have HB2 := Aside0.mk (below_alloc (Below.refl wi.heap.size wi) (.cells #[.int .i64 k0, .int .i64 t0, .int .i64 s0, .slice C na ca, .int .i64 fn, .slice D' ni ci, .int .i64 op, .int .i64 bk, .int .i64 bi, .string bt] 76))
              obtain ⟨g, hg⟩ : ∃ g, wi.heap.size = g := ⟨_, rfl⟩
              obtain ⟨W2, hW2⟩ : ∃ W2 : World, wi.alloc (.cells #[.int .i64 k0, .int .i64 t0, .int .i64 s0, .slice C na ca, .int .i64 fn, .slice D' ni ci, .int .i64 op, .int .i64 bk, .int .i64 bi, .string bt] 76) = W2 := ⟨_, rfl⟩
              rw [hW2] at HX HB2 ⊢
              rw [hg] at HX ⊢
              have HA2 := Aside0.mk (RArgs.later (RAnn.later d HB2.out) HA.out HB2.out)
              have HQ2 := Aside0.mk (RItems.later (RAnn.later d HB2.out) HQ.out HB2.out)
              have HV2 := Aside0.mk (below_then HV.out HV.out.size HB2.out)
              clear hW2 hg HA HQ HB2 x1
              go_loopg [7, 11] (na + 1) (fun kq v7 v11 wk => ∃ (m3 k : Int), v7 = .int .i64 m3 ∧ v11 = .int .i64 k ∧ Aside0 (0 ≤ k ∧ k ≤ na ∧ kq = na + 1 - k.toNat) ∧ Aside0 (Below W2.heap.size W2 wk))
              case atStart => exact ⟨_, 0, rfl, rfl, ⟨by omega, by omega, by omega⟩, ⟨Below.refl _ _⟩⟩
              case round =>
                obtain ⟨m3, k, rfl, rfl, HK, HU⟩ := hrel
                obtain ⟨wk, rfl⟩ : ∃ wk : World, wk = wr := ⟨_, rfl⟩
                obtain ⟨q0, q1, q2⟩ := HK.out
                obtain ⟨b3, b5, b9⟩ := box10 (blk_below HX.out HU.out)
                by_cases hlk : k < na
                · have hbk : decide (k < (na : Int)) = true := decide_eq_true hlk
                  by_cases hmk : m3 ≤ limit
                  · have hbk2 : decide (m3 ≤ limit) = true := decide_eq_true hmk
                    obtain ⟨cd, A', n', c', e3, z0, hr⟩ := HA2.out.2 k q0 hlk
                    subst e3
                    have HR3 := Aside0.mk (RAnn.later d HU.out _ _ hr)
                    replace z0 := cell_later HU.out z0
                    clear q1 q2 hr hmk
                    replace hlk := eq_true hlk
                    replace q0 := eq_true q0
                    go_wp2_with (first | (go_at_call 23; (with_reducible refine (IH.out A' n' c' _ _ _ HD.out HR3.out).mono ?_); rintro e w2 ⟨m4, rfl, hb4⟩; have HU2 := Aside0.mk (below_then HU.out HU.out.size hb4); clear hb4 b3 b5 b9 z0) | fail)
                    have hlk' := of_eq_true hlk
                    have q0' := of_eq_true q0
                    go_roundg (na + 1 - (k + 1).toNat)
                    case measure => have := HK.out.2.2; omega
                    case rel => exact ⟨_, k + 1, rfl, congrArg (Value.int .i64) (wrap_succ q0' hlk' hna), ⟨by omega, by omega, rfl⟩, HU2⟩
                  · have hbk2 : decide (m3 ≤ limit) = false := decide_eq_false hmk
                    clear q0 q1 q2 hlk HK hmk b9
                    go_upto_region 18 with (fail)
                    clear hbk hbk2 b3 b5
                    have HX3 := Aside0.mk (blk_below HX.out HU.out)
                    have HQ3 := Aside0.mk (RItems.later (RAnn.later d HU.out) HQ2.out HU.out)
                    have HV3 := Aside0.mk (below_then HV2.out HV2.out.size HU.out)
                    go_loopg [7, 12] (ni + 1) (fun kq v7 v12 wm => ∃ (m5 l : Int), v7 = .int .i64 m5 ∧ v12 = .int .i64 l ∧ Aside0 (0 ≤ l ∧ l ≤ ni ∧ kq = ni + 1 - l.toNat) ∧ Aside0 (Below wk.heap.size wk wm))
                    case atStart => exact ⟨_, 0, rfl, rfl, ⟨by omega, by omega, by omega⟩, ⟨Below.refl _ _⟩⟩
                    case round =>
                      obtain ⟨m5, l, rfl, rfl, HL, HT⟩ := hrel
                      obtain ⟨wm, rfl⟩ : ∃ wm : World, wm = wr := ⟨_, rfl⟩
                      obtain ⟨l0, l1, l2⟩ := HL.out
                      obtain ⟨b3, b5, b9⟩ := box10 (blk_below HX3.out HT.out)
                      by_cases hll : l < ni
                      · have hbl : decide (l < (ni : Int)) = true := decide_eq_true hll
                        by_cases hmm : m5 ≤ limit
                        · have hbl2 : decide (m5 ≤ limit) = true := decide_eq_true hmm
                          obtain ⟨id, a1, a2, ts, A', n', c', e3, z0, z1, z2, z3, hts, hr⟩ := HQ3.out.2 l l0 hll
                          subst e3
                          have HR3 := Aside0.mk (RAnn.later d HT.out _ _ hr)
                          replace z0 := cell_later HT.out z0
                          replace z1 := cell_later HT.out z1
                          replace z2 := cell_later HT.out z2
                          replace z3 := cell_later HT.out z3
                          have hba := Aside0.mk (below_drew (Below.refl wm.heap.size wm))
                          clear l1 l2 hr hmm b3 b9
                          replace hll := eq_true hll
                          replace l0 := eq_true l0
                          go_wp2_with fail
                          go_region_held3 (fun w' => w'.cell? ⟨g, 5, none⟩ = some (.slice (some id) ni ci) ∧ w'.cell? ⟨(id.add (l.toNat * 4)).block, (id.add (l.toNat * 4)).off + 2, none⟩ = some (.string ts) ∧ w'.cell? ⟨(id.add (l.toNat * 4)).block, (id.add (l.toNat * 4)).off + 3, none⟩ = some (.slice A' n' c')) (refine ⟨?_, ?_, ?_⟩ <;> (repeat (first | (with_reducible refine cell_dr ?_) | with_reducible exact b5 | with_reducible exact z2 | with_reducible exact z3 | with_reducible exact cell_later hb5 b5 | with_reducible exact cell_later hb5 z2 | with_reducible exact cell_later hb5 z3))) (first | (go_at_call 23; (with_reducible refine (IH.out A' n' c' _ _ _ HD2.out (RAnn.later d hba.out _ _ HR3.out)).mono ?_); rintro e w5 ⟨m6, rfl, hb4⟩; have hb5 := below_then hba.out hba.out.size hb4) | fail)
                          have HT2 := Aside0.mk (below_then HT.out HT.out.size hb5)
                          clear hb5 hb4 b5 z0 z1 z2 z3
                          go_wp2
                          have hll' := of_eq_true hll
                          have l0' := of_eq_true l0
                          go_roundg (ni + 1 - (l + 1).toNat)
                          case measure => have := HL.out.2.2; omega
                          case rel => exact ⟨_, l + 1, rfl, congrArg (Value.int .i64) (wrap_succ l0' hll' hni), ⟨by omega, by omega, rfl⟩, HT2⟩
                        · have hbl2 : decide (m5 ≤ limit) = false := decide_eq_false hmm
                          clear l0 l1 l2 hll HL hmm b3 b9
                          go_wp2
                          have hlj' := of_eq_true hlj
                          have j0' := of_eq_true j0
                          go_roundg (nf + 1 - (j + 1).toNat)
                          case measure => have := HJ.out.2.2; omega
                          case rel => exact ⟨m5, j + 1, rfl, congrArg (Value.int .i64) (wrap_succ j0' hlj' hnf), ⟨by omega, by omega, rfl⟩, ⟨below_then HV3.out HV3.out.size HT.out⟩⟩
                      · have hbl : decide (l < (ni : Int)) = false := decide_eq_false hll
                        clear l0 l1 l2 hll HL b3 b9
                        go_wp2
                        have hlj' := of_eq_true hlj
                        have j0' := of_eq_true j0
                        go_roundg (nf + 1 - (j + 1).toNat)
                        case measure => have := HJ.out.2.2; omega
                        case rel => exact ⟨m5, j + 1, rfl, congrArg (Value.int .i64) (wrap_succ j0' hlj' hnf), ⟨by omega, by omega, rfl⟩, ⟨below_then HV3.out HV3.out.size HT.out⟩⟩
                · have hbk : decide (k < (na : Int)) = false := decide_eq_false hlk
                  clear q0 q1 q2 hlk HK b9
                  go_upto_region 18 with (fail)
                  clear hbk b3 b5
                  have HX3 := Aside0.mk (blk_below HX.out HU.out)
                  have HQ3 := Aside0.mk (RItems.later (RAnn.later d HU.out) HQ2.out HU.out)
                  have HV3 := Aside0.mk (below_then HV2.out HV2.out.size HU.out)
                  go_loopg [7, 12] (ni + 1) (fun kq v7 v12 wm => ∃ (m5 l : Int), v7 = .int .i64 m5 ∧ v12 = .int .i64 l ∧ Aside0 (0 ≤ l ∧ l ≤ ni ∧ kq = ni + 1 - l.toNat) ∧ Aside0 (Below wk.heap.size wk wm))
                  case atStart => exact ⟨_, 0, rfl, rfl, ⟨by omega, by omega, by omega⟩, ⟨Below.refl _ _⟩⟩
                  case round =>
                    obtain ⟨m5, l, rfl, rfl, HL, HT⟩ := hrel
                    obtain ⟨wm, rfl⟩ : ∃ wm : World, wm = wr := ⟨_, rfl⟩
                    obtain ⟨l0, l1, l2⟩ := HL.out
                    obtain ⟨b3, b5, b9⟩ := box10 (blk_below HX3.out HT.out)
                    by_cases hll : l < ni
                    · have hbl : decide (l < (ni : Int)) = true := decide_eq_true hll
                      by_cases hmm : m5 ≤ limit
                      · have hbl2 : decide (m5 ≤ limit) = true := decide_eq_true hmm
                        obtain ⟨id, a1, a2, ts, A', n', c', e3, z0, z1, z2, z3, hts, hr⟩ := HQ3.out.2 l l0 hll
                        subst e3
                        have HR3 := Aside0.mk (RAnn.later d HT.out _ _ hr)
                        replace z0 := cell_later HT.out z0
                        replace z1 := cell_later HT.out z1
                        replace z2 := cell_later HT.out z2
                        replace z3 := cell_later HT.out z3
                        have hba := Aside0.mk (below_drew (Below.refl wm.heap.size wm))
                        clear l1 l2 hr hmm b3 b9
                        replace hll := eq_true hll
                        replace l0 := eq_true l0
                        go_wp2_with fail
                        go_region_held3 (fun w' => w'.cell? ⟨g, 5, none⟩ = some (.slice (some id) ni ci) ∧ w'.cell? ⟨(id.add (l.toNat * 4)).block, (id.add (l.toNat * 4)).off + 2, none⟩ = some (.string ts) ∧ w'.cell? ⟨(id.add (l.toNat * 4)).block, (id.add (l.toNat * 4)).off + 3, none⟩ = some (.slice A' n' c')) (refine ⟨?_, ?_, ?_⟩ <;> (repeat (first | (with_reducible refine cell_dr ?_) | with_reducible exact b5 | with_reducible exact z2 | with_reducible exact z3 | with_reducible exact cell_later hb5 b5 | with_reducible exact cell_later hb5 z2 | with_reducible exact cell_later hb5 z3))) (first | (go_at_call 23; (with_reducible refine (IH.out A' n' c' _ _ _ HD2.out (RAnn.later d hba.out _ _ HR3.out)).mono ?_); rintro e w5 ⟨m6, rfl, hb4⟩; have hb5 := below_then hba.out hba.out.size hb4) | fail)
                        have HT2 := Aside0.mk (below_then HT.out HT.out.size hb5)
                        clear hb5 hb4 b5 z0 z1 z2 z3
                        go_wp2
                        have hll' := of_eq_true hll
                        have l0' := of_eq_true l0
                        go_roundg (ni + 1 - (l + 1).toNat)
                        case measure => have := HL.out.2.2; omega
                        case rel => exact ⟨_, l + 1, rfl, congrArg (Value.int .i64) (wrap_succ l0' hll' hni), ⟨by omega, by omega, rfl⟩, HT2⟩
                      · have hbl2 : decide (m5 ≤ limit) = false := decide_eq_false hmm
                        clear l0 l1 l2 hll HL hmm b3 b9
                        go_wp2
                        have hlj' := of_eq_true hlj
                        have j0' := of_eq_true j0
                        go_roundg (nf + 1 - (j + 1).toNat)
                        case measure => have := HJ.out.2.2; omega
                        case rel => exact ⟨m5, j + 1, rfl, congrArg (Value.int .i64) (wrap_succ j0' hlj' hnf), ⟨by omega, by omega, rfl⟩, ⟨below_then HV3.out HV3.out.size HT.out⟩⟩
                    · have hbl : decide (l < (ni : Int)) = false := decide_eq_false hll
                      clear l0 l1 l2 hll HL b3 b9
                      go_wp2
                      have hlj' := of_eq_true hlj
                      have j0' := of_eq_true j0
                      go_roundg (nf + 1 - (j + 1).toNat)
                      case measure => have := HJ.out.2.2; omega
                      case rel => exact ⟨m5, j + 1, rfl, congrArg (Value.int .i64) (wrap_succ j0' hlj' hnf), ⟨by omega, by omega, rfl⟩, ⟨below_then HV3.out HV3.out.size HT.out⟩⟩
            · have hbj2 : decide (m2 ≤ limit) = false := decide_eq_false hmj
              clear j0 j1 j2 hlj HJ hmj
              go_wp2
              have hlt' := of_eq_true hlt
              have i0' := of_eq_true i0
              go_roundg (n + 1 - (i + 1).toNat)
              case measure => have := HI.out.2.2; omega
              case rel => exact ⟨m2, i + 1, rfl, congrArg (Value.int .i64) (wrap_succ i0' hlt' hn), ⟨by omega, by omega, rfl⟩, ⟨below_then HW.out HW.out.size HV.out⟩⟩
          · have hbj : decide (j < (nf : Int)) = false := decide_eq_false hlj
            clear j0 j1 j2 hlj HJ
            go_wp2
            have hlt' := of_eq_true hlt
            have i0' := of_eq_true i0
            go_roundg (n + 1 - (i + 1).toNat)
            case measure => have := HI.out.2.2; omega
            case rel => exact ⟨m2, i + 1, rfl, congrArg (Value.int .i64) (wrap_succ i0' hlt' hn), ⟨by omega, by omega, rfl⟩, ⟨below_then HW.out HW.out.size HV.out⟩⟩
      · have hb2 : decide (m ≤ limit) = false := decide_eq_false hml
        clear i0 i1 i2 hlt HI hml
        go_wp2
        go_ret
        exact ⟨m, rfl, HW.out⟩
    · have hb : decide (i < (n : Int)) = false := decide_eq_false hlt
      clear i0 i1 i2 hlt HI
      go_wp2
      go_ret
      exact ⟨m, rfl, HW.out⟩
end Go.Proofs.YtcpngmclhicciaaGreatDoor
/- 'Few' of the references: it returns; where it says yes, rows and indices are few. -/
namespace Go.Proofs.YtcpngmclhicciaaGreatDoor
open Go.RowKit Go.Proofs.YtcpngmclhicciaaGreatDoorW.PrintWords PMergejoinGroups
set_option linter.unusedVariables false
set_option linter.unusedSimpArgs false
theorem weight_calls : ∀ d : Nat, d ≤ 1000 → WeightOk d
  | 0, _ => weight_zero
  | d + 1, h => weight_step d (by omega) ⟨weight_calls d (by omega)⟩
def BoolPost (w : World) (e : Ending) (w' : World) : Prop := ∃ b : Bool, e = .returned (.bool b) ∧ Below w.heap.size w w'
set_option maxRecDepth 100000 in
set_option maxHeartbeats 2000000 in
theorem few05_calls (limit : Int) (g n c : Nat) (A : Option Addr) (w : World) (hg : w.heap[g]? = some (.cells #[.slice A n c] 31 (0, 0))) (hR : RAnn 12 w A n) :
    Calls Tryz.prog 12 #[.int .i64 limit, .slice (some ⟨g, 0, none⟩) 1 1] w (BoolPost w) := by
  have HR := Aside0.mk hR
  have HG := Aside0.mk hg
  clear hR hg
  go_enter Tryz.func12, Tryz.ntmps12
  go_wp2
  go_loopg [5] 2 (fun kq v5 wr => ∃ i : Int, v5 = .int .i64 i ∧ Aside0 ((i = 0 ∨ i = 1) ∧ kq = 2 - i.toNat) ∧ Aside0 (Below w.heap.size w wr))
  case atStart => exact ⟨0, rfl, ⟨by omega, by omega⟩, ⟨Below.refl _ _⟩⟩
  case round =>
    obtain ⟨i, rfl, HI, HW⟩ := hrel
    obtain ⟨i0, i1⟩ := HI.out
    rcases i0 with rfl | rfl
    · have x0 := box1 (blk_below HG.out HW.out)
      have HR2 := Aside0.mk (RAnn.later 12 HW.out _ _ HR.out)
      clear i1
      go_wp2_with (first | (go_at_call 23; (with_reducible refine (weight_calls 12 (by omega) A n c limit 12 _ rfl HR2.out).mono ?_); rintro e w2 ⟨m, rfl, hb2⟩; have HW2 := Aside0.mk (below_then HW.out HW.out.size hb2); clear hb2) | fail)
      · go_ret
        exact ⟨false, rfl, HW2.out⟩
      · go_roundg 1
        case measure => have := HI.out.2; omega
        case rel => exact ⟨1, rfl, ⟨.inr rfl, rfl⟩, HW2⟩
    · clear i1
      go_wp2
      go_ret
      exact ⟨true, rfl, HW.out⟩
set_option maxRecDepth 100000 in
set_option maxHeartbeats 2000000 in
theorem short_calls (xs : List S42) (A : Option Addr) (c : Nat) (lim : Int) (w : World) (hA : Kd.C k42 w A xs.length xs) :
    Calls Tryz.prog 11 #[.slice A xs.length c, .int .i64 lim] w (BoolPost w) := by
  have hm : xs.length ≤ 9223372036854775807 := hA.2.1
  have HA := Aside0.mk hA
  clear hA
  go_enter Tryz.func11, Tryz.ntmps11
  go_wp2
  go_loopg [5] (xs.length + 1) (fun kq v5 wr => ∃ i : Int, v5 = .int .i64 i ∧ Aside0 (0 ≤ i ∧ i ≤ xs.length ∧ kq = xs.length + 1 - i.toNat) ∧ Aside0 (Below w.heap.size w wr))
  case atStart => exact ⟨0, rfl, ⟨by omega, by omega, by omega⟩, ⟨Below.refl _ _⟩⟩
  case round =>
    obtain ⟨i, rfl, HI, HW⟩ := hrel
    obtain ⟨i0, i1, i2⟩ := HI.out
    by_cases hlt : i < xs.length
    · have hb : decide (i < (xs.length : Int)) = true := decide_eq_true hlt
      obtain ⟨ad, e1, x0, x1, x2⟩ := at_T42 HA.out i i0 hlt
      replace x0 := cell_later HW.out x0
      replace x1 := cell_later HW.out x1
      replace x2 := cell_later HW.out x2
      subst e1
      clear i1 i2
      replace hlt := eq_true hlt
      replace i0 := eq_true i0
      go_wp2
      · go_ret
        exact ⟨false, rfl, HW.out⟩
      · have i0' := of_eq_true i0
        have hlt' := of_eq_true hlt
        go_roundg (xs.length + 1 - (i + 1).toNat)
        case measure => have := HI.out.2.2; omega
        case rel => exact ⟨i + 1, congrArg (Value.int .i64) (wrap_succ i0' hlt' hm), ⟨by omega, by omega, rfl⟩, HW⟩
    · have hb : decide (i < (xs.length : Int)) = false := decide_eq_false hlt
      clear i0 i1 i2 hlt HI
      go_wp2
      go_ret
      exact ⟨_, rfl, HW.out⟩
def FewPost (rows : List R33) (ks : List Int) (w : World) (e : Ending) (w' : World) : Prop := ∃ b : Bool, e = .returned (.bool b) ∧ (b = true → rows.length ≤ 10 ∧ ks.length ≤ 6) ∧ Below w.heap.size w w'
def AnnsOk (w : World) (rows : List R33) : Prop := ∀ r ∈ rows, RAnn 12 w r.ann.1 r.ann.2.1
set_option maxRecDepth 100000 in
set_option maxHeartbeats 4000000 in
theorem few44_calls (rows : List R33) (ks : List Int) (A B : Option Addr) (c d : Nat) (w : World) (hA : Kd.C kR w A rows.length rows) (hR : AnnsOk w rows) (hB : Kd.C (Kd.int .i64) w B ks.length ks) :
    Calls Tryz.prog 4 #[.slice A rows.length c, .slice B ks.length d] w (FewPost rows ks w) := by
  have hm : rows.length ≤ 9223372036854775807 := hA.2.1
  have hn : ks.length ≤ 9223372036854775807 := hB.2.1
  have HA := Aside0.mk (And.intro hA hR)
  clear hA hR hB
  go_enter Tryz.func4, Tryz.ntmps4
  go_wp2
  go_loopg [5] (rows.length + 1) (fun kq v5 wr => ∃ i : Int, v5 = .int .i64 i ∧ Aside0 (0 ≤ i ∧ i ≤ rows.length ∧ kq = rows.length + 1 - i.toNat) ∧ Aside0 (Below w.heap.size w wr))
  case atStart => exact ⟨0, rfl, ⟨by omega, by omega, by omega⟩, ⟨Below.refl _ _⟩⟩
  case round =>
    obtain ⟨i, rfl, HI, HW⟩ := hrel
    obtain ⟨i0, i1, i2⟩ := HI.out
    by_cases hlt : i < rows.length
    · have hb : decide (i < (rows.length : Int)) = true := decide_eq_true hlt
      obtain ⟨ad, A0, c0, e1, x0, x1, l0, g0⟩ := at_R HA.out.1 i i0 hlt
      have hr := HA.out.2 _ (rdR_mem i0 hlt)
      obtain ⟨r, hre⟩ : ∃ r, rdR rows i = r := ⟨_, rfl⟩
      rw [hre] at x0 x1 l0 g0 hr
      subst e1
      have HR := Aside0.mk (And.intro (Kd.C_below g0 HW.out) (RAnn.later 12 HW.out _ _ hr))
      replace x0 := cell_later HW.out x0
      replace x1 := cell_later HW.out x1
      clear hre g0 hr l0 i1 i2
      replace hlt := eq_true hlt
      replace i0 := eq_true i0
      go_wp2_with fail
      refine (short_calls r.vals A0 c0 8 _ HR.out.1).mono ?_
      rintro e w2 ⟨b, rfl, hb2⟩
      have HW2 := Aside0.mk (below_then HW.out HW.out.size hb2)
      have HR2 := Aside0.mk (RAnn.later 12 hb2 _ _ HR.out.2)
      replace x0 := cell_later hb2 x0
      replace x1 := cell_later hb2 x1
      clear hb2 HR
      cases b
      · go_wp2
        go_ret
        exact ⟨false, rfl, fun h => by simp at h, HW2.out⟩
      · have HX := Aside0.mk (blk_new w2 (.cells #[.slice r.ann.1 r.ann.2.1 r.ann.2.2] 31))
        have hba := Aside0.mk (below_alloc (Below.refl w2.heap.size w2) (.cells #[.slice r.ann.1 r.ann.2.1 r.ann.2.2] 31))
        go_wp2_with (first | (go_at_call 12; (with_reducible refine (few05_calls 20 _ _ _ _ _ HX.out (RAnn.later 12 hba.out _ _ HR2.out)).mono ?_); rintro e w3 ⟨b, rfl, hb3⟩; have HW3 := Aside0.mk (below_then (below_then HW2.out HW2.out.size hba.out) (Nat.le_trans HW2.out.size hba.out.size) hb3); clear hb3) | fail)
        · go_ret
          exact ⟨false, rfl, fun h => by simp at h, HW3.out⟩
        · have i0' := of_eq_true i0
          have hlt' := of_eq_true hlt
          go_roundg (rows.length + 1 - (i + 1).toNat)
          case measure => have := HI.out.2.2; omega
          case rel => exact ⟨i + 1, congrArg (Value.int .i64) (wrap_succ i0' hlt' hm), ⟨by omega, by omega, rfl⟩, HW3⟩
    · have hb : decide (i < (rows.length : Int)) = false := decide_eq_false hlt
      clear i0 i1 i2 hlt HI
      by_cases hr10 : (rows.length : Int) ≤ 10
      · have h1 : decide ((rows.length : Int) ≤ 10) = true := decide_eq_true hr10
        by_cases hk6 : (ks.length : Int) ≤ 6
        · have h2 : decide ((ks.length : Int) ≤ 6) = true := decide_eq_true hk6
          have HQ := Aside0.mk (show rows.length ≤ 10 ∧ ks.length ≤ 6 by omega)
          clear hr10 hk6
          go_wp2
          go_ret
          exact ⟨true, rfl, fun _ => HQ.out, HW.out⟩
        · have h2 : decide ((ks.length : Int) ≤ 6) = false := decide_eq_false hk6
          clear hr10 hk6
          go_wp2
          go_ret
          exact ⟨false, rfl, fun h => by simp at h, HW.out⟩
      · have h1 : decide ((rows.length : Int) ≤ 10) = false := decide_eq_false hr10
        clear hr10
        go_wp2
        go_ret
        exact ⟨false, rfl, fun h => by simp at h, HW.out⟩
end Go.Proofs.YtcpngmclhicciaaGreatDoor
/- 'groups' of package mergejoin and its closure: the contract of the iterator. -/
namespace Go.Proofs.YtcpngmclhicciaaGreatDoor
open Go.RowKit Go.Proofs.YtcpngmclhicciaaGreatDoorW.PrintWords PMergejoinGroups
set_option linter.unusedVariables false
set_option linter.unusedSimpArgs false
attribute [local go_sem] Oper.semAt_some
/-- The first row from t on whose key is not that of row f. -/
def run_ (rows : List R33) (ks : List Int) (f : Int) : Nat → Int → Int
  | 0, t => t
  | n + 1, t => if cmpR (keyAt rows ks f) (keyAt rows ks t) = 0 then run_ rows ks f n (t + 1) else t
theorem run_step {rows : List R33} {ks : List Int} {f t : Int} (h : t < rows.length) : run_ rows ks f (rows.length - t).toNat t = if cmpR (keyAt rows ks f) (keyAt rows ks t) = 0 then run_ rows ks f (rows.length - (t + 1)).toNat (t + 1) else t := by
  obtain ⟨n, hn⟩ : ∃ n : Nat, (rows.length - t).toNat = n + 1 := ⟨(rows.length - t).toNat - 1, by omega⟩
  rw [hn, run_, show (rows.length - (t + 1)).toNat = n by omega]
theorem run_bd (rows : List R33) (ks : List Int) (f : Int) : ∀ (n : Nat) (t : Int), t ≤ run_ rows ks f n t ∧ run_ rows ks f n t ≤ t + n
  | 0, t => ⟨Int.le_refl _, by simp [run_]⟩
  | n + 1, t => by
    have := run_bd rows ks f n (t + 1)
    rw [run_]
    split <;> omega
/-- Where the group that begins at f ends. -/
def rend (rows : List R33) (ks : List Int) (f : Int) : Int := run_ rows ks f (rows.length - (f + 1)).toNat (f + 1)
theorem rend_bd {rows : List R33} {ks : List Int} {f : Int} (h : f < rows.length) : f + 1 ≤ rend rows ks f ∧ rend rows ks f ≤ rows.length := by
  have := run_bd rows ks f (rows.length - (f + 1)).toNat (f + 1)
  unfold rend
  omega
def grps (rows : List R33) (ks : List Int) : Nat → Int → List (Int × Int)
  | 0, _ => []
  | n + 1, i => if i < rows.length then (i, rend rows ks i) :: grps rows ks n (rend rows ks i) else []
theorem grps_end {rows : List R33} {ks : List Int} {i : Int} (h : ¬ i < rows.length) : ∀ n, grps rows ks n i = []
  | 0 => rfl
  | n + 1 => by rw [grps, if_neg h]
theorem lt_of_heap {w : World} {k : Nat} {o : Obj} (h : w.heap[k]? = some o) : k < w.heap.size := (Array.getElem?_eq_some_iff.1 h).1
theorem grps_one {rows : List R33} {ks : List Int} {i : Int} {m : Nat} {pre L : List (Int × Int)} (h : i < rows.length) (hm : rows.length - i ≤ m) (hL : L = pre ++ grps rows ks m i) : L = (pre ++ [(i, rend rows ks i)]) ++ grps rows ks (m - 1) (rend rows ks i) := by
  obtain ⟨n, rfl⟩ : ∃ n, m = n + 1 := ⟨m - 1, by omega⟩
  rw [hL, grps, if_pos h]
  simp
/-- What a round of the caller keeps: what lay below n₀, and the iterator's two boxes. -/
def KpG (n₀ g1 g2 : Nat) (W W' : World) : Prop := Below n₀ W W' ∧ W'.heap[g1]? = W.heap[g1]? ∧ W'.heap[g2]? = W.heap[g2]?
theorem KpG.trans {n₀ g1 g2 : Nat} {A B C : World} (h : KpG n₀ g1 g2 A B) (k : KpG n₀ g1 g2 B C) : KpG n₀ g1 g2 A C := ⟨h.1.trans k.1, k.2.1.trans h.2.1, k.2.2.trans h.2.2⟩
theorem KpG.refl (n₀ g1 g2 : Nat) (A : World) : KpG n₀ g1 g2 A A := ⟨Below.refl _ _, rfl, rfl⟩
theorem KpG.of_below {n₀ g1 g2 : Nat} {A B : World} (h : Below A.heap.size A B) (h0 : n₀ ≤ A.heap.size) (h1 : g1 < A.heap.size) (h2 : g2 < A.heap.size) : KpG n₀ g1 g2 A B := ⟨h.mono h0, h.block _ h1, h.block _ h2⟩
theorem grown_of_below {A B : World} (h : Below A.heap.size A B) : A.grownBy B none := ⟨h.os, h.tape, h.output, h.size, fun k hk _ => h.block k hk⟩
theorem abide_below {β : Type} {n : Nat} {J : β → World → Prop} (hJ : AbidesFrom n J) {s : β} {A B : World} (hs : J s A) (h : Below A.heap.size A B) : J s B := hJ s A B none hs (grown_of_below h) (fun r e => by cases e)
set_option maxRecDepth 100000 in
set_option maxHeartbeats 4000000 in
theorem clo28P_calls (rows : List R33) (ks : List Int) (A B : Option Addr) (c d g1 g2 l n : Nat) (w W : World) (J Jx : List (Int × Int) → World → Prop) (n₁ : Nat) (hJ : AbidesFrom n₁ J)
    (hY : ∀ pre x W1, J pre W1 → pre.length < rows.length → (∃ post, grps rows ks rows.length 0 = pre ++ [x] ++ post) → YieldAt Fence.wide (n - 1) Tryz.prog l #[.agg #[.int .i64 x.1, .int .i64 x.2]] W1 fun e W' =>
      (e = .returned (.bool true) ∧ J (pre ++ [x]) W' ∧ KpG w.heap.size g1 g2 W1 W') ∨ (e = .returned (.bool false) ∧ Jx (pre ++ [x]) W'))
    (hW : Below w.heap.size w W) (hg1 : W.heap[g1]? = some (.cells #[.slice A rows.length c] 22 (0, 0))) (hg2 : W.heap[g2]? = some (.cells #[.slice B ks.length d] 23 (0, 0)))
    (hk : ks.length ≤ 6) (hok : ∀ r ∈ rows, keyOkB r.vals ks) (hA : Kd.C kR w A rows.length rows) (hB : Kd.C (Kd.int .i64) w B ks.length ks) (h0 : J [] W) :
    Calls Tryz.prog 28 #[.func (.yield l) #[] #[], .pointer (some ⟨g1, 0, none⟩), .pointer (some ⟨g2, 0, none⟩)] W fun e W' => (∃ v, e = .returned v) ∧ ((∃ ys, ys = grps rows ks rows.length 0 ∧ J ys W') ∨ (∃ pre, True ∧ Jx pre W')) := by
  have hm : rows.length ≤ 9223372036854775807 := hA.2.1
  have HA := Aside0.mk (And.intro hA hB)
  have HG := Aside0.mk (And.intro hg1 hg2)
  have HO := Aside0.mk (And.intro hk hok)
  have HW := Aside0.mk hW
  have HY := Aside0.mk (And.intro hJ hY)
  have HJ0 := Aside0.mk h0
  clear hA hB hg1 hg2 hk hok hW hJ hY h0
  go_enter Tryz.func28, Tryz.ntmps28
  go_wp2
  go_loopg [4, 5] rows.length (fun kq v4 v5 wr => ∃ (i : Int) (pre : List (Int × Int)) (m : Nat), v4 = .int .i64 i ∧ Aside0 (0 ≤ i ∧ i ≤ rows.length ∧ rows.length - i ≤ m ∧ pre.length + m = rows.length ∧ grps rows ks rows.length 0 = pre ++ grps rows ks m i ∧ kq = (rows.length - i).toNat) ∧ Aside0 (KpG w.heap.size g1 g2 W wr) ∧ Aside0 (J pre wr))
  case atStart => exact ⟨0, [], rows.length, rfl, ⟨by omega, by omega, by omega, by simp, rfl, by omega⟩, ⟨KpG.refl _ _ _ _⟩, HJ0⟩
  case round =>
    obtain ⟨i, pre, m, rfl, HI, HV, HJ⟩ := hrel
    obtain ⟨i0, i1, i2, i3, i4, i5⟩ := HI.out
    obtain ⟨wo, rfl⟩ : ∃ wo : World, wo = wr := ⟨_, rfl⟩
    have x0 := box1 (HV.out.2.1.trans HG.out.1)
    have y0 := box1 (HV.out.2.2.trans HG.out.2)
    by_cases hlt : i < rows.length
    · have hb : decide (i < (rows.length : Int)) = true := decide_eq_true hlt
      obtain ⟨ad, A0, c0, e1, u0, u1, l0, g0⟩ := at_R HA.out.1 i i0 hlt
      subst e1
      have HK1 := Aside0.mk (HO.out.2 _ (rdR_mem i0 hlt))
      obtain ⟨r, hre⟩ : ∃ r, rdR rows i = r := ⟨_, rfl⟩
      have HRE := Aside0.mk hre
      rw [hre] at u0 u1 g0 HK1
      have HR := Aside0.mk (And.intro g0 (And.intro u0 u1))
      clear u0 u1 l0 g0 hre i1 i2 i3 i4 i5
      replace hlt := eq_true hlt
      replace i0 := eq_true i0
      go_wp2
      go_loopg [5] (rows.length - (i + 1)).toNat (fun kq v5 wi => ∃ t : Int, v5 = .int .i64 t ∧ Aside0 (i + 1 ≤ t ∧ t ≤ rows.length ∧ rend rows ks i = run_ rows ks i (rows.length - t).toNat t ∧ kq = (rows.length - t).toNat) ∧ Aside0 (KpG w.heap.size g1 g2 W wi) ∧ Aside0 (J pre wi))
      case atStart =>
        have i0' := of_eq_true i0
        have hlt' := of_eq_true hlt
        exact ⟨i + 1, congrArg (Value.int .i64) (wrap_succ i0' hlt' hm), ⟨by omega, by omega, rfl, by omega⟩, HV, HJ⟩
      case round =>
        obtain ⟨t, rfl, HT, HV2, HJ2⟩ := hrel
        obtain ⟨t0, t1, t2, t3⟩ := HT.out
        clear x0 y0 HV HJ
        have x0 := box1 (HV2.out.2.1.trans HG.out.1)
        have y0 := box1 (HV2.out.2.2.trans HG.out.2)
        have hbw := HW.out.trans HV2.out.1
        by_cases hlj : t < rows.length
        · have hb2 : decide (t < (rows.length : Int)) = true := decide_eq_true hlj
          have i0' := of_eq_true i0
          have j0 : 0 ≤ t := by omega
          obtain ⟨ad', A1, c1, e2, v0, v1, l1, g1'⟩ := at_R HA.out.1 t j0 hlj
          injection e2 with e2
          subst e2
          have HK2 := Aside0.mk (HO.out.2 _ (rdR_mem j0 hlj))
          rw [run_step hlj] at t2
          unfold keyAt at t2
          obtain ⟨s, hse⟩ : ∃ s, rdR rows t = s := ⟨_, rfl⟩
          rw [HRE.out, hse] at t2
          rw [hse] at v0 v1 g1' HK2
          have HS := Aside0.mk t2
          have HQ := Aside0.mk (And.intro (Kd.C_below HR.out.1 hbw) (And.intro (Kd.C_below g1' hbw) (Kd.C_below HA.out.2 hbw)))
          have u0 := cell_later hbw HR.out.2.1
          have u1 := cell_later hbw HR.out.2.2
          replace v0 := cell_later hbw v0
          replace v1 := cell_later hbw v1
          have hba := Aside0.mk (below_drew (Below.refl wr.heap.size wr))
          clear hse g1' l1 t2 t3 hbw i0' t0 t1
          replace hlj := eq_true hlj
          replace j0 := eq_true j0
          by_cases hz : cmpR (keyF r.vals ks) (keyF s.vals ks) = 0
          · have hz2 : decide (cmpR (keyF r.vals ks) (keyF s.vals ks) = 0) = true := decide_eq_true hz
            have HE := Aside0.mk (show rend rows ks i = run_ rows ks i (rows.length - (t + 1)).toNat (t + 1) by rw [HS.out, if_pos hz])
            clear HS
            go_wp2_with fail
            go_region_held3 (fun w' => w'.cell? ⟨g1, 0, none⟩ = some (.slice (some ad) rows.length c) ∧ w'.cell? ⟨g2, 0, none⟩ = some (.slice B ks.length d) ∧ w'.cell? (ad.add (i.toNat * 2)) = some (.slice A0 r.vals.length c0) ∧ w'.cell? ⟨(ad.add (i.toNat * 2)).block, (ad.add (i.toNat * 2)).off + 1, none⟩ = some (.slice r.ann.1 r.ann.2.1 r.ann.2.2) ∧ w'.cell? (ad.add (t.toNat * 2)) = some (.slice A1 s.vals.length c1) ∧ w'.cell? ⟨(ad.add (t.toNat * 2)).block, (ad.add (t.toNat * 2)).off + 1, none⟩ = some (.slice s.ann.1 s.ann.2.1 s.ann.2.2)) (refine ⟨?_, ?_, ?_, ?_, ?_, ?_⟩ <;> (repeat (first | (with_reducible refine cell_dr ?_) | with_reducible exact x0 | with_reducible exact y0 | with_reducible exact u0 | with_reducible exact u1 | with_reducible exact v0 | with_reducible exact v1 | with_reducible exact cell_later hc1 x0 | with_reducible exact cell_later hc1 y0 | with_reducible exact cell_later hc1 u0 | with_reducible exact cell_later hc1 u1 | with_reducible exact cell_later hc1 v0 | with_reducible exact cell_later hc1 v1))) (first | (go_at_call 16; (with_reducible refine (compare_calls r s A0 A1 B c0 c1 d ks _ HO.out.1 HK1.out HK2.out (Kd.C_below HQ.out.1 hba.out) (Kd.C_below HQ.out.2.1 hba.out) (Kd.C_below HQ.out.2.2 hba.out)).mono ?_); rintro e w1 ⟨rfl, hb1⟩; have hc1 := below_then hba.out hba.out.size hb1) | fail)
            have HV3 := Aside0.mk (HV2.out.trans (KpG.of_below hc1 (Nat.le_trans (HW.out.size) (Nat.le_trans HV2.out.1.size (Nat.le_refl _))) (lt_of_heap (HV2.out.2.1.trans HG.out.1)) (lt_of_heap (HV2.out.2.2.trans HG.out.2))))
            have HJ3 := Aside0.mk (abide_below HY.out.1 HJ2.out hc1)
            clear hc1 hb1 x0 y0 u0 u1 v0 v1
            go_wp2
            have hlj' := of_eq_true hlj
            have j0' := of_eq_true j0
            go_roundg (rows.length - (t + 1)).toNat
            case measure => have := HT.out.2.2.2; omega
            case rel => exact ⟨t + 1, congrArg (Value.int .i64) (wrap_succ j0' hlj' hm), ⟨by have := HT.out.1; omega, by omega, HE.out, rfl⟩, HV3, HJ3⟩
          · have hz2 : decide (cmpR (keyF r.vals ks) (keyF s.vals ks) = 0) = false := decide_eq_false hz
            have HE := Aside0.mk (show rend rows ks i = t by rw [HS.out, if_neg hz])
            clear HS
            go_wp2_with fail
            go_region_held3 (fun w' => w'.cell? ⟨g1, 0, none⟩ = some (.slice (some ad) rows.length c) ∧ w'.cell? ⟨g2, 0, none⟩ = some (.slice B ks.length d) ∧ w'.cell? (ad.add (i.toNat * 2)) = some (.slice A0 r.vals.length c0) ∧ w'.cell? ⟨(ad.add (i.toNat * 2)).block, (ad.add (i.toNat * 2)).off + 1, none⟩ = some (.slice r.ann.1 r.ann.2.1 r.ann.2.2) ∧ w'.cell? (ad.add (t.toNat * 2)) = some (.slice A1 s.vals.length c1) ∧ w'.cell? ⟨(ad.add (t.toNat * 2)).block, (ad.add (t.toNat * 2)).off + 1, none⟩ = some (.slice s.ann.1 s.ann.2.1 s.ann.2.2)) (refine ⟨?_, ?_, ?_, ?_, ?_, ?_⟩ <;> (repeat (first | (with_reducible refine cell_dr ?_) | with_reducible exact x0 | with_reducible exact y0 | with_reducible exact u0 | with_reducible exact u1 | with_reducible exact v0 | with_reducible exact v1 | with_reducible exact cell_later hc1 x0 | with_reducible exact cell_later hc1 y0 | with_reducible exact cell_later hc1 u0 | with_reducible exact cell_later hc1 u1 | with_reducible exact cell_later hc1 v0 | with_reducible exact cell_later hc1 v1))) (first | (go_at_call 16; (with_reducible refine (compare_calls r s A0 A1 B c0 c1 d ks _ HO.out.1 HK1.out HK2.out (Kd.C_below HQ.out.1 hba.out) (Kd.C_below HQ.out.2.1 hba.out) (Kd.C_below HQ.out.2.2 hba.out)).mono ?_); rintro e w1 ⟨rfl, hb1⟩; have hc1 := below_then hba.out hba.out.size hb1) | fail)
            have HV3 := Aside0.mk (HV2.out.trans (KpG.of_below hc1 (Nat.le_trans (HW.out.size) (Nat.le_trans HV2.out.1.size (Nat.le_refl _))) (lt_of_heap (HV2.out.2.1.trans HG.out.1)) (lt_of_heap (HV2.out.2.2.trans HG.out.2))))
            have HJ3 := Aside0.mk (abide_below HY.out.1 HJ2.out hc1)
            clear hc1 hb1 x0 y0 u0 u1 v0 v1
            go_upto_region 5 with (fail)
            have hln : pre.length < rows.length := by
              have h1 := of_eq_true hlt
              have h2 := HI.out.2.2.1
              have h3 := HI.out.2.2.2.1
              omega
            have hgx := grps_one (of_eq_true hlt) HI.out.2.2.1 HI.out.2.2.2.2.1
            rw [HE.out] at hgx
            obtain ⟨fn, tmps, assign, body, hy, hR⟩ := HY.out.2 pre (i, t) _ HJ3.out hln ⟨_, hgx⟩
            clear hgx
            dsimp only at hy
            refine (wpIn_wide (n := n)).1 ?_
            gi_wp2
            refine ⟨fun h => (by cases h), hR.mono ?_⟩
            rintro e W5 (⟨rfl, hJ4, hk4⟩ | ⟨rfl, hJx4⟩)
            · have HV5 := Aside0.mk (HV3.out.trans hk4)
              clear hk4
              gi_wp2
              go_wp2
              have h1 := of_eq_true hlt
              have h2 := of_eq_true i0
              have hbd := rend_bd (ks := ks) h1
              rw [HE.out] at hbd
              have hgr := grps_one h1 HI.out.2.2.1 HI.out.2.2.2.2.1
              rw [HE.out] at hgr
              go_roundg (rows.length - t).toNat
              case measure => have := HI.out.2.2.2.2.2; omega
              case rel => exact ⟨t, pre ++ [(i, t)], m - 1, rfl, ⟨by omega, by omega, by have := HI.out.2.2.1; omega, by have := HI.out.2.2.1; have := HI.out.2.2.2.1; simp only [List.length_append, List.length_cons, List.length_nil]; omega, hgr, rfl⟩, HV5, ⟨hJ4⟩⟩
            · gi_wp2
              go_wp2
              refine bodyPost_ret (results_none rfl _ _ _) rfl ?_
              exact ⟨⟨_, rfl⟩, .inr ⟨_, trivial, hJx4⟩⟩
        · have hb2 : decide (t < (rows.length : Int)) = false := decide_eq_false hlj
          have HE := Aside0.mk (show rend rows ks i = t by rw [t2, show (rows.length - t).toNat = 0 by omega]; rfl)
          have htt := Aside0.mk (And.intro t0 t1)
          clear t0 t1 t2 t3 hbw hlj
          go_wp2_with fail
          go_quiet (fail)
          go_upto_region 5 with (fail)
          have hba := pw_below_drewN (Below.refl wr.heap.size wr) nq
          obtain ⟨W2, hW2⟩ : ∃ W2 : World, wr.drewN nq = W2 := ⟨_, rfl⟩
          rw [hW2] at hba ⊢
          clear hW2 x0 y0
          have HV3 := Aside0.mk (HV2.out.trans (KpG.of_below hba (Nat.le_trans (HW.out.size) HV2.out.1.size) (lt_of_heap (HV2.out.2.1.trans HG.out.1)) (lt_of_heap (HV2.out.2.2.trans HG.out.2))))
          have HJ3 := Aside0.mk (abide_below HY.out.1 HJ2.out hba)
          clear hba
          have hln : pre.length < rows.length := by
            have h1 := of_eq_true hlt
            have h2 := HI.out.2.2.1
            have h3 := HI.out.2.2.2.1
            omega
          have hgx := grps_one (of_eq_true hlt) HI.out.2.2.1 HI.out.2.2.2.2.1
          rw [HE.out] at hgx
          obtain ⟨fn, tmps, assign, body, hy, hR⟩ := HY.out.2 pre (i, t) _ HJ3.out hln ⟨_, hgx⟩
          clear hgx
          dsimp only at hy
          refine (wpIn_wide (n := n)).1 ?_
          gi_wp2
          refine ⟨fun h => (by cases h), hR.mono ?_⟩
          rintro e W5 (⟨rfl, hJ4, hk4⟩ | ⟨rfl, hJx4⟩)
          · have HV5 := Aside0.mk (HV3.out.trans hk4)
            clear hk4
            gi_wp2
            go_wp2
            have h1 := of_eq_true hlt
            have h2 := of_eq_true i0
            have hbd := rend_bd (ks := ks) h1
            rw [HE.out] at hbd
            have hgr := grps_one h1 HI.out.2.2.1 HI.out.2.2.2.2.1
            rw [HE.out] at hgr
            go_roundg (rows.length - t).toNat
            case measure => have := HI.out.2.2.2.2.2; omega
            case rel => exact ⟨t, pre ++ [(i, t)], m - 1, rfl, ⟨by omega, by omega, by have := HI.out.2.2.1; omega, by have := HI.out.2.2.1; have := HI.out.2.2.2.1; simp only [List.length_append, List.length_cons, List.length_nil]; omega, hgr, rfl⟩, HV5, ⟨hJ4⟩⟩
          · gi_wp2
            go_wp2
            refine bodyPost_ret (results_none rfl _ _ _) rfl ?_
            exact ⟨⟨_, rfl⟩, .inr ⟨_, trivial, hJx4⟩⟩
    · have hb : decide (i < (rows.length : Int)) = false := decide_eq_false hlt
      have HE := Aside0.mk (show grps rows ks rows.length 0 = pre by rw [i4, grps_end hlt]; simp)
      clear i1 i2 i3 i4 i5 i0 hlt
      go_wp2
      go_end0
      exact ⟨⟨_, rfl⟩, .inl ⟨_, HE.out.symm, HJ.out⟩⟩
theorem clo28_calls (rows : List R33) (ks : List Int) (A B : Option Addr) (c d g1 g2 l n : Nat) (w W : World) (J Jx : List (Int × Int) → World → Prop) (n₁ : Nat) (hJ : AbidesFrom n₁ J)
    (hY : ∀ pre x W1, J pre W1 → pre.length < rows.length → YieldAt Fence.wide (n - 1) Tryz.prog l #[.agg #[.int .i64 x.1, .int .i64 x.2]] W1 fun e W' =>
      (e = .returned (.bool true) ∧ J (pre ++ [x]) W' ∧ KpG w.heap.size g1 g2 W1 W') ∨ (e = .returned (.bool false) ∧ Jx (pre ++ [x]) W'))
    (hW : Below w.heap.size w W) (hg1 : W.heap[g1]? = some (.cells #[.slice A rows.length c] 22 (0, 0))) (hg2 : W.heap[g2]? = some (.cells #[.slice B ks.length d] 23 (0, 0)))
    (hk : ks.length ≤ 6) (hok : ∀ r ∈ rows, keyOkB r.vals ks) (hA : Kd.C kR w A rows.length rows) (hB : Kd.C (Kd.int .i64) w B ks.length ks) (h0 : J [] W) :
    Calls Tryz.prog 28 #[.func (.yield l) #[] #[], .pointer (some ⟨g1, 0, none⟩), .pointer (some ⟨g2, 0, none⟩)] W fun e W' => (∃ v, e = .returned v) ∧ ((∃ ys, ys = grps rows ks rows.length 0 ∧ J ys W') ∨ (∃ pre, True ∧ Jx pre W')) :=
  clo28P_calls rows ks A B c d g1 g2 l n w W J Jx n₁ hJ (fun pre x W1 h1 h2 _ => hY pre x W1 h1 h2) hW hg1 hg2 hk hok hA hB h0
end Go.Proofs.YtcpngmclhicciaaGreatDoor
