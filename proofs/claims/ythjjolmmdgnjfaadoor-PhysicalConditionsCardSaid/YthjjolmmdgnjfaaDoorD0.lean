/- How the data of the arguments read: trees and index definitions, for the walks. -/
import Derived.Test.YthjjolmmdgnjfaaDoorC9
namespace Go.Proofs.YthjjolmmdgnjfaaDoor
open Go.ChangeShapes Go.WideShapes Go.ChangeAt Go.WideElems Go.RowKit Go.Proofs.YthjjolmmdgnjfaaDoorW.PrintWords PPhysicalConditions
set_option linter.unusedVariables false
section
variable {H : Type} {enc : TypeId × Value → H} {W : World} {base : Nat} {sp : Nat → Bool} {held : Bool}
theorem co3 : Tryd.prog.cellsOf 3 = 1 := by kernel_rfl
theorem co2 : Tryd.prog.cellsOf 2 = 1 := by kernel_rfl
theorem co9 : Tryd.prog.cellsOf 9 = 1 := by kernel_rfl
theorem co23 : Tryd.prog.cellsOf 23 = 3 := by kernel_rfl
theorem co24 : Tryd.prog.cellsOf 24 = 1 := by kernel_rfl
theorem co26 : Tryd.prog.cellsOf 26 = 7 := by kernel_rfl
theorem co27 : Tryd.prog.cellsOf 27 = 1 := by kernel_rfl
theorem co29 : Tryd.prog.cellsOf 29 = 3 := by kernel_rfl
/-- A row whose elements read one by one, as one row. -/
theorem row_of {α : Type} (d : Kd α) (Good : α → Prop) (a : Addr) (len : Nat) (hm : len ≤ 9223372036854775807) (h : ∀ i, i < len → ∃ x c, Good x ∧ c.length = d.sz ∧ d.K W x c ∧ ∀ k u, c[k]? = some u → W.cell? (a.add (i * d.sz + k)) = some u) :
    ∃ xs : List α, xs.length = len ∧ (∀ x ∈ xs, Good x) ∧ Kd.C d W (some a) len xs := by
  have key : ∀ m, m ≤ len → ∃ xs : List α, xs.length = m ∧ ∀ j x, xs[j]? = some x → Good x ∧ ∃ c, c.length = d.sz ∧ d.K W x c ∧ ∀ k u, c[k]? = some u → W.cell? (a.add (j * d.sz + k)) = some u := by
    intro m
    induction m with
    | zero => intro _; exact ⟨[], rfl, fun j x hj => by simp at hj⟩
    | succ m ih =>
      intro hle
      obtain ⟨xs, hl, hx⟩ := ih (by omega)
      obtain ⟨x, c, hg, hc, hk, hu⟩ := h m (by omega)
      refine ⟨xs ++ [x], by rw [List.length_append, hl]; rfl, fun j y hj => ?_⟩
      rcases Nat.lt_or_ge j xs.length with hlt | hge
      · rw [List.getElem?_append_left hlt] at hj
        exact hx j y hj
      · rw [List.getElem?_append_right hge] at hj
        obtain ⟨h0, rfl⟩ : j - xs.length = 0 ∧ x = y := by
          rcases hq : j - xs.length with _ | q
          · rw [hq] at hj
            exact ⟨rfl, by simpa using hj⟩
          · rw [hq] at hj
            simp at hj
        obtain rfl : j = m := by omega
        exact ⟨hg, c, hc, hk, hu⟩
  obtain ⟨xs, hl, hx⟩ := key len (Nat.le_refl _)
  refine ⟨xs, hl, fun x hm => ?_, hl, hm, fun _ => ⟨a, rfl, fun j p hj => (hx j p hj).2⟩⟩
  obtain ⟨j, hj⟩ := List.getElem?_of_mem hm
  exact (hx j x hj).1
theorem open23 {fuel : Nat} {cs : List Value} {y : DataW H × List MemPlace} (h : DataW.trod enc Tryd.prog W base sp held fuel 23 cs = some y) : ∃ x : S23, cs = [.int .i64 x.f0, .int .i64 x.f1, .string x.f2] := by
  obtain ⟨xs, n, rfl, _, hl, hn, hf⟩ := DataW.trod_struct Tryd.underlying23 h
  have h0 : DataW.trod enc Tryd.prog W base sp held n 3 (List.take (Tryd.prog.cellsOf 3) (List.drop 0 cs)) = xs[0]? := hf 0 _ rfl
  rw [co3] at h0
  have h1 : DataW.trod enc Tryd.prog W base sp held n 2 (List.take (Tryd.prog.cellsOf 2) (List.drop 1 cs)) = xs[1]? := hf 1 _ rfl
  rw [co2] at h1
  have h2 : DataW.trod enc Tryd.prog W base sp held n 9 (List.take (Tryd.prog.cellsOf 9) (List.drop 2 cs)) = xs[2]? := hf 2 _ rfl
  rw [co9] at h2
  rw [co23] at hl
  match cs, hl, xs, hn with
  | [c0, c1, c2], _, [x0, x1, x2], _ =>
    obtain ⟨f0, e0, _⟩ := DataW.trod_int Tryd.underlying3 h0
    obtain ⟨f1, e1, _⟩ := DataW.trod_int Tryd.underlying2 h1
    obtain ⟨f2, e2, _⟩ := DataW.trod_string Tryd.underlying9 h2
    simp only [List.drop_zero, List.drop_succ_cons, List.take_succ_cons, List.take_zero, List.cons.injEq, and_true] at e0 e1 e2
    subst e0 e1 e2
    exact ⟨⟨f0, f1, f2⟩, rfl⟩
theorem okL_of {l : List S26} (h : ∀ x ∈ l, okT x) : okT.okL l := by
  induction l with
  | nil => exact trivial
  | cons x r ih => exact ⟨h x (by simp), ih (fun y hy => h y (by simp [hy]))⟩
theorem wf_range {n : Int} (h : (Lit.int .i64 n).wf = true) : -9223372036854775808 ≤ n ∧ n ≤ 9223372036854775807 := by
  exact bounds_i64 h
theorem open26 : ∀ (fuel : Nat) {cs : List Value} {y : DataW H × List MemPlace}, DataW.trod enc Tryd.prog W base sp held fuel 26 cs = some y →
    ∃ (x : S26) (A : Option Addr) (c : Nat), cs = (Cs x A c).toList ∧ x.f4.length ≤ c ∧ k26.C W A x.f4.length x.f4 ∧ okT x := by
  intro fuel
  induction fuel using Nat.strongRecOn with
  | _ fuel ih =>
    intro cs y h
    obtain ⟨xs, n, rfl, _, hl, hn, hf⟩ := DataW.trod_struct Tryd.underlying26 h
    have h0 : DataW.trod enc Tryd.prog W base sp held n 3 (List.take (Tryd.prog.cellsOf 3) (List.drop 0 cs)) = xs[0]? := hf 0 _ rfl
    rw [co3] at h0
    have h1 : DataW.trod enc Tryd.prog W base sp held n 3 (List.take (Tryd.prog.cellsOf 3) (List.drop 1 cs)) = xs[1]? := hf 1 _ rfl
    rw [co3] at h1
    have h2 : DataW.trod enc Tryd.prog W base sp held n 23 (List.take (Tryd.prog.cellsOf 23) (List.drop 2 cs)) = xs[2]? := hf 2 _ rfl
    rw [co23] at h2
    have h3 : DataW.trod enc Tryd.prog W base sp held n 3 (List.take (Tryd.prog.cellsOf 3) (List.drop 5 cs)) = xs[3]? := hf 3 _ rfl
    rw [co3] at h3
    have h4 : DataW.trod enc Tryd.prog W base sp held n 24 (List.take (Tryd.prog.cellsOf 24) (List.drop 6 cs)) = xs[4]? := hf 4 _ rfl
    rw [co24] at h4
    clear hf h
    rw [co26] at hl
    match cs, hl, xs, hn with
    | [c0, c1, c2, c3, c4, c5, c6], _, [x0, x1, x2, x3, x4], _ =>
      obtain ⟨f0, e0, _⟩ := DataW.trod_int Tryd.underlying3 h0
      obtain ⟨f1, e1, _⟩ := DataW.trod_int Tryd.underlying3 h1
      obtain ⟨f2, e2⟩ := open23 h2
      obtain ⟨f3, e3, _, w3⟩ := DataW.trod_int Tryd.underlying3 h3
      have r3 := wf_range w3
      simp only [List.drop_zero, List.drop_succ_cons, List.take_succ_cons, List.take_zero, List.cons.injEq, and_true] at e0 e1 e2 e3
      obtain ⟨e20, e21, e22⟩ := e2
      subst e0 e1 e20 e21 e22 e3
      rcases DataW.trod_slice Tryd.underlying24 h4 with ⟨e4, _⟩ | ⟨a, len, cap, elems, rest, n2, rfl, e4, _, _, hle, hcap, hel, hi, _, _⟩
      · simp only [List.drop_succ_cons, List.drop_zero, List.take_succ_cons, List.take_zero, List.cons.injEq, and_true] at e4
        subst e4
        exact ⟨⟨f0, f1, f2, f3, []⟩, none, 0, rfl, Nat.le_refl _, Kd.C_nil _ _, r3, trivial⟩
      · simp only [List.drop_succ_cons, List.drop_zero, List.take_succ_cons, List.take_zero, List.cons.injEq, and_true] at e4
        subst e4
        obtain ⟨l, h1, h2, h3⟩ := row_of (W := W) k26 okT a len (by unfold maxLen at hcap; omega) (fun i hlt => by
          have hb := hi i hlt
          rw [List.getElem?_eq_getElem (by omega)] at hb
          obtain ⟨cs', hc, ht⟩ := Option.bind_eq_some_iff.1 hb
          obtain ⟨x, A, c, rfl, hl, hC, hok⟩ := ih n2 (by omega) ht
          obtain ⟨_, hsz, hcell⟩ := World.cells?_some hc
          refine ⟨x, _, hok, rfl, k26_mk W x hl hC, fun k u hu => ?_⟩
          rw [co26] at hcell
          have hk : k < 7 := by have := (List.getElem?_eq_some_iff.1 hu).1; simpa using this
          have := hcell k hk
          rw [Addr.add_add] at this
          exact this.trans hu)
        exact ⟨⟨f0, f1, f2, f3, l⟩, some a, cap, by rw [← h1], by simpa [h1] using hle, by simpa [h1] using h3, r3, okL_of h2⟩
theorem open27 {fuel : Nat} {cs : List Value} {y : DataW H × List MemPlace} (h : DataW.trod enc Tryd.prog W base sp held fuel 27 cs = some y) : ∃ (A : Option Addr) (c : Nat) (l : List Int), cs = [.slice A l.length c] ∧ Kd.C (Kd.int .i64) W A l.length l := by
  rcases DataW.trod_slice Tryd.underlying27 h with ⟨e4, _⟩ | ⟨a, len, cap, elems, rest, n2, rfl, e4, _, _, hle, hcap, hel, hi, _, _⟩
  · exact ⟨none, 0, [], e4, Kd.C_nil _ _⟩
  · obtain ⟨l, h1, _, h3⟩ := row_of (W := W) (Kd.int .i64) (fun _ => True) a len (by unfold maxLen at hcap; omega) (fun i hlt => by
      have hb := hi i hlt
      rw [List.getElem?_eq_getElem (by omega)] at hb
      obtain ⟨cs', hc, ht⟩ := Option.bind_eq_some_iff.1 hb
      obtain ⟨x, rfl, _⟩ := DataW.trod_int Tryd.underlying3 ht
      obtain ⟨_, hsz, hcell⟩ := World.cells?_some hc
      refine ⟨x, [.int .i64 x], trivial, rfl, rfl, fun k u hu => ?_⟩
      rw [co3] at hcell
      have hk : k < 1 := by have := (List.getElem?_eq_some_iff.1 hu).1; simpa using this
      have := hcell k hk
      rw [Addr.add_add] at this
      exact this.trans hu)
    exact ⟨some a, cap, l, by rw [h1]; exact e4, by rw [h1]; exact h3⟩
theorem open29 {fuel : Nat} {cs : List Value} {y : DataW H × List MemPlace} (h : DataW.trod enc Tryd.prog W base sp held fuel 29 cs = some y) : ∃ (id : Int) (nm : ByteArray) (A : Option Addr) (c : Nat) (l : List Int), cs = [.int .i64 id, .string nm, .slice A l.length c] ∧ Kd.C (Kd.int .i64) W A l.length l := by
  obtain ⟨xs, n, rfl, _, hl, hn, hf⟩ := DataW.trod_struct Tryd.underlying29 h
  have h0 : DataW.trod enc Tryd.prog W base sp held n 3 (List.take (Tryd.prog.cellsOf 3) (List.drop 0 cs)) = xs[0]? := hf 0 _ rfl
  rw [co3] at h0
  have h1 : DataW.trod enc Tryd.prog W base sp held n 9 (List.take (Tryd.prog.cellsOf 9) (List.drop 1 cs)) = xs[1]? := hf 1 _ rfl
  rw [co9] at h1
  have h2 : DataW.trod enc Tryd.prog W base sp held n 27 (List.take (Tryd.prog.cellsOf 27) (List.drop 2 cs)) = xs[2]? := hf 2 _ rfl
  rw [co27] at h2
  rw [co29] at hl
  match cs, hl, xs, hn with
  | [c0, c1, c2], _, [x0, x1, x2], _ =>
    obtain ⟨id, e0, _⟩ := DataW.trod_int Tryd.underlying3 h0
    obtain ⟨nm, e1, _⟩ := DataW.trod_string Tryd.underlying9 h1
    obtain ⟨A, c, l, e2, hC⟩ := open27 h2
    simp only [List.drop_zero, List.drop_succ_cons, List.take_succ_cons, List.take_zero, List.cons.injEq, and_true] at e0 e1 e2
    subst e0 e1 e2
    exact ⟨id, nm, A, c, l, rfl, hC⟩
end
end Go.Proofs.YthjjolmmdgnjfaaDoor
