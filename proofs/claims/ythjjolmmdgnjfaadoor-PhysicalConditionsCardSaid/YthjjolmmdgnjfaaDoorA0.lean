/- Words for the walks of 'PhysicalConditions': own blocks read and written as events, trees of scalar expressions and their plain functions. -/
import Derived.Test.YthjjolmmdgnjfaaDoorPPhysicalConditionsx0
import Derived.WalkLawsBesides
import Derived.WalkSpells
namespace Go.Proofs.YthjjolmmdgnjfaaDoor
open Go.RowKit Go.Proofs.YthjjolmmdgnjfaaDoorW.PrintWords PPhysicalConditions
set_option linter.unusedVariables false

abbrev Ag23 (v : S23) : Value := .agg #[.int .i64 v.f0, .int .i64 v.f1, .string v.f2]
abbrev Ag (x : S26) (A : Option Addr) (c : Nat) : Value := .agg #[.int .i64 x.f0, .int .i64 x.f1, .int .i64 x.f2.f0, .int .i64 x.f2.f1, .string x.f2.f2, .int .i64 x.f3, .slice A x.f4.length c]
abbrev Cs (x : S26) (A : Option Addr) (c : Nat) : Array Value := #[.int .i64 x.f0, .int .i64 x.f1, .int .i64 x.f2.f0, .int .i64 x.f2.f1, .string x.f2.f2, .int .i64 x.f3, .slice A x.f4.length c]

theorem k23_heap : Kd.Heap k23 := Kd.heap_iso _ (Kd.heap_pair (Kd.heap_int .i64) (Kd.heap_pair (Kd.heap_int .i64) Kd.heap_string))
theorem k26_heap : Kd.Heap k26 := Kd.heap_fix (fun _ h => Kd.heap_iso _ (Kd.heap_pair (Kd.heap_int .i64) (Kd.heap_pair (Kd.heap_int .i64) (Kd.heap_pair k23_heap (Kd.heap_pair (Kd.heap_int .i64) (Kd.heap_slice 26 h))))))

/-- The cells of a block of seven. -/
theorem box7 {W : World} {g : Nat} {T : TypeId} {a0 a1 a2 a3 a4 a5 a6 : Value} (h : W.heap[g]? = some (.cells #[a0, a1, a2, a3, a4, a5, a6] T (0, 0))) :
    (W.cell? ⟨g, 0, none⟩ = some a0 ∧ W.cell? ⟨g, 1, none⟩ = some a1 ∧ W.cell? ⟨g, 2, none⟩ = some a2 ∧ W.cell? ⟨g, 3, none⟩ = some a3 ∧ W.cell? ⟨g, 4, none⟩ = some a4 ∧ W.cell? ⟨g, 5, none⟩ = some a5 ∧ W.cell? ⟨g, 6, none⟩ = some a6) :=
  ⟨(blk_cell h 0).trans rfl, (blk_cell h 1).trans rfl, (blk_cell h 2).trans rfl, (blk_cell h 3).trans rfl, (blk_cell h 4).trans rfl, (blk_cell h 5).trans rfl, (blk_cell h 6).trans rfl⟩

/-- Block g of W was written, nothing else. -/
structure Put (W : World) (g : Nat) (W1 : World) : Prop where
  os : W1.os = W.os
  tape : W1.tape = W.tape
  output : W1.output = W.output
  size : W1.heap.size = W.heap.size
  block : ∀ i, i ≠ g → W1.heap[i]? = W.heap[i]?
theorem Put.grown {W W1 : World} {g : Nat} (h : Put W g W1) : W.grownBy W1 (some g) := ⟨h.os, h.tape, h.output, Nat.le_of_eq h.size.symm, fun i _ hne => h.block i (fun e => hne (by rw [e]))⟩
theorem Put.below {W W1 w0 : World} {g B : Nat} (h : Put W g W1) (hb : Below B w0 W) (hg : B ≤ g) : Below B w0 W1 :=
  ⟨h.os.trans hb.os, h.tape.trans hb.tape, h.output.trans hb.output, by rw [h.size]; exact hb.size, fun i hi => (h.block i (by omega)).trans (hb.block i hi)⟩
theorem Put.blk {W W1 : World} {g i : Nat} {o : Obj} (h : Put W g W1) (hb : W.heap[i]? = some o) (hne : i ≠ g) : W1.heap[i]? = some o := (h.block i hne).trans hb
theorem Put.F {α : Type} {d : Kd α} {W W1 : World} {g n : Nat} {ok : Nat → Prop} {A : Option Addr} {xs : List α} (h : Put W g W1) (hf : Kd.F d W ok A n xs) (hok : ∀ k, ok k → k ≠ g) : Kd.F d W1 ok A n xs :=
  Kd.F_step hf (fun k hk _ => h.block k (hok k hk))
theorem put_setCells {W : World} {g : Nat} {vs : List Value} {cs : Array Value} {T : TypeId} (hb : W.heap[g]? = some (.cells cs T (0, 0))) (hs : vs.length = cs.size) :
    (W.setCells g 0 vs).heap[g]? = some (.cells vs.toArray T (0, 0)) ∧ Put W g (W.setCells g 0 vs) := by
  obtain ⟨cur', h1, h2, h3⟩ := setCells_row (g := g) (e := T) vs 0 W cs hb (by omega)
  obtain ⟨h4, h5, h6, h7⟩ := setCells_same g vs 0 W
  have h8 : cur' = vs.toArray := by
    apply Array.toList_inj.1
    rw [h3]
    have : cs.toList.drop (0 + vs.length) = [] := List.drop_eq_nil_of_le (by rw [Array.length_toList]; omega)
    rw [this]
    simp
  subst h8
  exact ⟨h1, h4, h5, h6, h7, fun i hi => setCells_far vs 0 i hi⟩
section
variable {P : Program} {ops : Array Oper} {rest : List Oper} {o : Oper} {a : Act} {Q : Exit → Act → World → Prop}
/-- A whole block of one's own is written. -/
theorem put_event {W : World} (hgd : o.guard = none) (hN : o.dst = none) {t : TypeId} {p v : Operand} (ho : o.op = .store t p v) {g : Nat} {cs : Array Value} {vs : List Value} {T : TypeId}
    (hb : W.heap[g]? = some (.cells cs T (0, 0))) (hp : a.eval p = .pointer (some ⟨g, 0, none⟩)) (hv : (a.eval v).cells.toList = vs) (hs : vs.length = cs.size) (ht : (P.info? t).map (·.size) = some vs.length) (h1 : ∀ q ∈ vs, q.oneCell' = true)
    (h : ∀ W1, W1.heap[g]? = some (.cells vs.toArray T (0, 0)) → Put W g W1 → wpList P ops Q rest a W1) : wpList P ops Q (o :: rest) a W := by
  obtain ⟨h2, h3⟩ := put_setCells hb hs
  have hrun := run_store_run (P := P) (o := 0) t (a.eval v) vs hb hv ht (by omega) h1
  refine wpList_plain hgd fun K hK => ?_
  unfold Oper.wp execOp
  simp only [ho, hp, Sem.run_bind, Sem.run_pure, Result.andThen_ok, hrun]
  show K (a.put o.dst undef) _
  rw [hN]
  exact hK a _ (h _ h2 h3)
end
/-- The nodes of a tree. -/
def sz : S26 → Nat
  | ⟨_, _, _, _, l⟩ => szs l + 1
  where szs : List S26 → Nat
  | [] => 0
  | x :: r => sz x + szs r
theorem cell_later {w wr : World} (hb : Below w.heap.size w wr) {a : Addr} {v : Value} (h : w.cell? a = some v) : wr.cell? a = some v := (hb.cell (World.block_lt_of_cell? w a h)).trans h
theorem cell_al {w : World} {a : Addr} {v : Value} (h : w.cell? a = some v) (o : Obj) : (w.alloc o).cell? a = some v := cell_later (below_alloc (Below.refl _ _) o) h
/-- Element i of a row of trees that was there in w, read in a later world. -/
theorem at26 {w wr : World} {A : Option Addr} {n : Nat} {xs : List S26} (hb : Below w.heap.size w wr) (h : k26.C w A n xs) (i : Int) (h0 : 0 ≤ i) (h1 : i < n) :
    ∃ ad A6 c6, A = some ad ∧ (wr.cell? (ad.add (i.toNat * 7)) = some (.int .i64 (rd_T26 xs i).f0)) ∧ (wr.cell? ⟨(ad.add (i.toNat * 7)).block, (ad.add (i.toNat * 7)).off + 1, none⟩ = some (.int .i64 (rd_T26 xs i).f1)) ∧ (wr.cell? ⟨(ad.add (i.toNat * 7)).block, (ad.add (i.toNat * 7)).off + 2, none⟩ = some (.int .i64 (rd_T26 xs i).f2.f0)) ∧ (wr.cell? ⟨(ad.add (i.toNat * 7)).block, (ad.add (i.toNat * 7)).off + 3, none⟩ = some (.int .i64 (rd_T26 xs i).f2.f1)) ∧ (wr.cell? ⟨(ad.add (i.toNat * 7)).block, (ad.add (i.toNat * 7)).off + 4, none⟩ = some (.string (rd_T26 xs i).f2.f2)) ∧ (wr.cell? ⟨(ad.add (i.toNat * 7)).block, (ad.add (i.toNat * 7)).off + 5, none⟩ = some (.int .i64 (rd_T26 xs i).f3)) ∧ (wr.cell? ⟨(ad.add (i.toNat * 7)).block, (ad.add (i.toNat * 7)).off + 6, none⟩ = some (.slice A6 (rd_T26 xs i).f4.length c6)) ∧ (rd_T26 xs i).f4.length ≤ c6 ∧ k26.C w A6 (rd_T26 xs i).f4.length (rd_T26 xs i).f4 := by
  obtain ⟨ad, A6, c6, e, x0, x1, x2, x3, x4, x5, x6, l6, g6⟩ := at_T26 h i h0 h1
  exact ⟨ad, A6, c6, e, cell_later hb x0, cell_later hb x1, cell_later hb x2, cell_later hb x3, cell_later hb x4, cell_later hb x5, cell_later hb x6, l6, g6⟩
/-- The same behind one new block. -/
theorem at26a {w wr : World} {A : Option Addr} {n : Nat} {xs : List S26} (hb : Below w.heap.size w wr) (h : k26.C w A n xs) (i : Int) (h0 : 0 ≤ i) (h1 : i < n) :
    ∃ ad A6 c6, A = some ad ∧ (∀ o : Obj, (wr.alloc o).cell? (ad.add (i.toNat * 7)) = some (.int .i64 (rd_T26 xs i).f0)) ∧ (∀ o : Obj, (wr.alloc o).cell? ⟨(ad.add (i.toNat * 7)).block, (ad.add (i.toNat * 7)).off + 1, none⟩ = some (.int .i64 (rd_T26 xs i).f1)) ∧ (∀ o : Obj, (wr.alloc o).cell? ⟨(ad.add (i.toNat * 7)).block, (ad.add (i.toNat * 7)).off + 2, none⟩ = some (.int .i64 (rd_T26 xs i).f2.f0)) ∧ (∀ o : Obj, (wr.alloc o).cell? ⟨(ad.add (i.toNat * 7)).block, (ad.add (i.toNat * 7)).off + 3, none⟩ = some (.int .i64 (rd_T26 xs i).f2.f1)) ∧ (∀ o : Obj, (wr.alloc o).cell? ⟨(ad.add (i.toNat * 7)).block, (ad.add (i.toNat * 7)).off + 4, none⟩ = some (.string (rd_T26 xs i).f2.f2)) ∧ (∀ o : Obj, (wr.alloc o).cell? ⟨(ad.add (i.toNat * 7)).block, (ad.add (i.toNat * 7)).off + 5, none⟩ = some (.int .i64 (rd_T26 xs i).f3)) ∧ (∀ o : Obj, (wr.alloc o).cell? ⟨(ad.add (i.toNat * 7)).block, (ad.add (i.toNat * 7)).off + 6, none⟩ = some (.slice A6 (rd_T26 xs i).f4.length c6)) ∧ (rd_T26 xs i).f4.length ≤ c6 ∧ k26.C w A6 (rd_T26 xs i).f4.length (rd_T26 xs i).f4 := by
  obtain ⟨ad, A6, c6, e, x0, x1, x2, x3, x4, x5, x6, l6, g6⟩ := at26 hb h i h0 h1
  exact ⟨ad, A6, c6, e, cell_al x0, cell_al x1, cell_al x2, cell_al x3, cell_al x4, cell_al x5, cell_al x6, l6, g6⟩
theorem rd_mem {xs : List S26} {i : Int} (h0 : 0 ≤ i) (h1 : i < xs.length) : rd_T26 xs i ∈ xs := by
  unfold rd_T26
  rw [List.getD_eq_getElem?_getD, List.getElem?_eq_getElem (show i.toNat < xs.length by omega)]
  exact List.getElem_mem _
theorem rd_get {xs : List S26} {i : Int} (h0 : 0 ≤ i) (h1 : i < xs.length) : rd_T26 xs i = xs[i.toNat]'(by omega) := by
  unfold rd_T26
  rw [List.getD_eq_getElem?_getD, List.getElem?_eq_getElem (show i.toNat < xs.length by omega)]
  rfl
theorem take_rd {xs : List S26} {i : Int} (h0 : 0 ≤ i) (h1 : i < xs.length) : xs.take (i.toNat + 1) = xs.take i.toNat ++ [rd_T26 xs i] := by
  rw [List.take_succ_eq_append_getElem (show i.toNat < xs.length by omega), rd_get h0 h1]
theorem succ_toNat {i : Int} (h0 : 0 ≤ i) : (i + 1).toNat = i.toNat + 1 := by omega
theorem sz_mem {x : S26} {y : S26} (h : y ∈ x.f4) : sz y + 1 ≤ sz x := by
  obtain ⟨f0, f1, f2, f3, l⟩ := x
  simp only [sz] at *
  have : ∀ l : List S26, y ∈ l → sz y ≤ sz.szs l := by
    intro l
    induction l with
    | nil => intro h; cases h
    | cons a r ih =>
      intro h
      simp only [sz.szs]
      rcases List.mem_cons.1 h with rfl | h
      · omega
      · have := ih h; omega
  have := this l h
  omega
theorem sz_len (x : S26) : x.f4.length + 1 ≤ sz x := by
  obtain ⟨f0, f1, f2, f3, l⟩ := x
  simp only [sz]
  have : ∀ l : List S26, l.length ≤ sz.szs l := by
    intro l
    induction l with
    | nil => simp [sz.szs]
    | cons a r ih =>
      simp only [sz.szs, List.length_cons]
      have : 1 ≤ sz a := by cases a; simp only [sz]; omega
      omega
  have := this l
  omega
end Go.Proofs.YthjjolmmdgnjfaaDoor
