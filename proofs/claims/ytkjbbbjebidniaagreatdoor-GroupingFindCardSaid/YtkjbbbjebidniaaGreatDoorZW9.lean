/- The row of 'GroupingFind'. -/
import Derived.Test.YtkjbbbjebidniaaGreatDoorZW8
import Derived.OpenShut
import Derived.Stop.Joined
import Derived.Lay
import Derived.ShutString
import Derived.ChangeOld
import Derived.Clock
namespace Go.Proofs.YtkjbbbjebidniaaGreatDoor
open Go Go.ChangeShapes Go.WideShapes Go.ChangeAt Go.WideElems Go.RowKit
set_option linter.unusedVariables false
set_option maxRecDepth 100000
theorem own : ownKnob Tryz.prog.godebug = none := by kernel_rfl
theorem laidOut : laidOutB Tryz.prog = true := by kernel_rfl
abbrev laidL : List (String × DataW Unit) := [("math/bits.deBruijn32tab", Rows.laid_math_bits_deBruijn32tab), ("math/bits.deBruijn64tab", Rows.laid_math_bits_deBruijn64tab), ("internal/strconv.uint64pow10", Rows.laid_internal_strconv_uint64pow10), ("unicode/utf8.acceptRanges", Rows.laid_unicode_utf8_acceptRanges), ("unicode/utf8.first", Rows.laid_unicode_utf8_first)]

/-- A world in which a variable is laid has a block of cells. -/
theorem laid_cells {W : World} {n : String} {d : DataW Unit} {r : List (String × DataW Unit)} (h : laidMet Tryz.prog ((n, d) :: r) W) : ∃ (b : Nat) (c : Array Value) (t : TypeId) (fz : Nat × Nat), W.heap[b]? = some (Obj.cells c t fz) := by
  obtain ⟨ps, ⟨g, t, cs, _, _, _, _, _, hv, _⟩, _⟩ := h
  unfold World.var? at hv
  obtain ⟨g', _, h2⟩ := Option.bind_eq_some_iff.1 hv
  split at h2
  · rename_i c t fz hb; exact ⟨_, _, _, _, hb⟩
  · cases h2

section
variable {H : Type} {enc : TypeId × Value → H} {W : World}
theorem law_args (hcb : ∃ (b : Nat) (c : Array Value) (t : TypeId) (fz : Nat × Nat), W.heap[b]? = some (Obj.cells c t fz)) {cs0 : Array Value} {v1 : Value} (hv1 : v1.cells.toList = [v1]) {d0 d1 : DataW H} {p0 p1 : List MemPlace}
    (h0 : DataW.Trod enc Tryz.prog W 0 (fun _ => true) true 25 (.agg cs0) d0 p0) (h1 : DataW.Trod enc Tryz.prog W 0 (fun _ => true) true 26 v1 d1 p1)
    (w0 : ∀ n ∈ d0.weights Tryz.prog 25, n ≤ reachBytes) (w1 : ∀ n ∈ d1.weights Tryz.prog 26, n ≤ reachBytes) :
    Calls Tryz.prog 3 #[.agg cs0, v1] W fun e W' => e = .returned (.bool true) ∧ Below W.heap.size W W' := by
  obtain ⟨m0, hm0⟩ := h0
  obtain ⟨m1, hm1⟩ := h1
  rw [hv1] at hm1
  have t0 : Tells enc W m0 25 cs0.toList := ⟨_, hm0, w0⟩
  have t1 : Tells enc W m1 26 [v1] := ⟨_, hm1, w1⟩
  obtain ⟨k, rfl, hl, hf⟩ := t0.struct Tryz.underlying25
  have f0 : Tells enc W k 22 (List.take (Tryz.prog.cellsOf 22) (List.drop 0 cs0.toList)) := hf 0 _ rfl
  have f1 : Tells enc W k 23 (List.take (Tryz.prog.cellsOf 23) (List.drop 1 cs0.toList)) := hf 1 _ rfl
  have f2 : Tells enc W k 4 (List.take (Tryz.prog.cellsOf 4) (List.drop 2 cs0.toList)) := hf 2 _ rfl
  rw [ce22] at f0; rw [ce23] at f1; rw [ce4] at f2; rw [ce25] at hl
  clear hm0 t0 hf
  obtain ⟨l0⟩ := cs0
  simp only at f0 f1 f2 hl
  match l0, hl with
  | [c0, c1, c2], _ =>
    obtain ⟨yb, hyb, _⟩ := f2
    obtain ⟨ab, eb, _⟩ := DataW.trod_bool Tryz.underlying4 hyb
    simp only [List.drop_zero, List.drop_succ_cons, List.take_succ_cons, List.take_zero, List.cons.injEq, and_true] at eb
    subst eb
    exact law_any hcb ab f0 f1 t1
end

set_option maxHeartbeats 1600000 in
theorem lifted (os : Os) (started : os.Started) (H : Type) (enc : TypeId × Value → H) (F : Stop.Interp) :
    ReturnsInHanded { calm := true } Tryz.checked os 3 .any (fun w args => (Rows.groupingFindSpec.pre enc Tryz.prog Tryz.f3 [] false w args ∧ laidMetH Tryz.prog laidL w) ∧ sizedMet enc Tryz.prog Tryz.f3 (OpenSpec.ofChange Rows.groupingFindSpec) false w args)
      ((OpenSpec.ofChange Rows.groupingFindSpec).postWith enc Tryz.prog Tryz.f3 F (outsideKept [.timePasses]) false true false) := by
  refine Clock.returns_of_change (C := Tryz.checked) (X := fun w _ => laidMetH Tryz.prog laidL w) (fun _ _ _ hh h => h.of_heap hh) own started (by kernel_rfl) Tryz.func3
    (Clock.witness_at (enc := enc) (C := Tryz.checked) (X := fun w _ => laidMetH Tryz.prog laidL w) (World.laidAll Tryz.prog os laidL) #[.agg #[.slice none 0 0, .slice none 0 0, .bool false], .slice none 0 0] 8 (World.laidAll_os _ _ _)
      (World.shaped_of_ZipB (by kernel_rfl) (by kernel_rfl)) (by kernel_rfl) (by kernel_rfl) (by kernel_rfl)
      (by rw [MakeChecks.laidMetH_plain _ _ _ (by kernel_rfl)]; exact laidMet_laidAll _ (by kernel_rfl) (by kernel_rfl))) ?_
  intro W base args ds gs before hval0 hW _ hwt hL _
  have hval : ∀ (j : Nat) t v, Tryz.f3.params[j]? = some t → args[j]? = some v → Value.okWide Tryz.prog W .any base t v := hval0
  have hcb := laid_cells ((MakeChecks.laidMetH_plain Tryz.prog laidL W (by kernel_rfl)).mp hL)
  have hW' := hW
  obtain ⟨p, q, hA0, hV, rfl, hfz, hnd⟩ := hW
  have hA : DataW.TrodAll enc Tryz.prog W 0 (fun _ => true) true Tryz.f3.params.toList args.toList ds p := hA0
  have hwt' : (DataW.weightsEach Tryz.prog (Tryz.f3.params.toList ++ Rows.groupingFindSpec.plain.varTypes Tryz.prog) (ds ++ gs)).all (· ≤ reachBytes) = true := hwt
  clear hA0 hwt hval0 hL
  rw [Tryz.params3] at hA hval hwt'
  obtain ⟨v0, vs0, d0, ds0, p0, q0, hargs, rfl, rfl, h0, r0⟩ := trodAll_cons hA
  obtain ⟨v1, vs1, d1, ds1, p1, q1, rfl, rfl, rfl, h1, r1⟩ := trodAll_cons r0
  obtain ⟨rfl, rfl, rfl⟩ := trodAll_nil r1
  obtain rfl : args = #[v0, v1] := by cases args; simp_all
  obtain ⟨rfl, rfl⟩ := trodVars_none hV
  obtain ⟨cs0, rfl, hcs0⟩ := okWide_struct Tryz.underlying25 (hval 0 25 v0 rfl rfl)
  obtain ⟨B, n1, d, rfl⟩ := okWide_slice Tryz.underlying26 (hval 1 26 v1 rfl rfl)
  have lt0 : ∀ x ∈ p0, x.block < W.heap.size := by obtain ⟨m, hm⟩ := h0; exact DataW.trod_lt m _ _ _ hm
  have lt1 : ∀ x ∈ p1, x.block < W.heap.size := by obtain ⟨m, hm⟩ := h1; exact DataW.trod_lt m _ _ _ hm
  have w0 : ∀ n ∈ d0.weights Tryz.prog 25, n ≤ reachBytes := fun n hn => by
    have := List.all_eq_true.1 hwt' n (DataW.weights_mem_each (j := 0) (t := 25) (d := d0) rfl rfl n hn)
    simpa using this
  have w1 : ∀ n ∈ d1.weights Tryz.prog 26, n ≤ reachBytes := fun n hn => by
    have := List.all_eq_true.1 hwt' n (DataW.weights_mem_each (j := 1) (t := 26) (d := d1) rfl rfl n hn)
    simpa using this
  refine (law_args hcb rfl h0 h1 w0 w1).mono fun e W' ⟨he, bel0⟩ => ?_
  have hsince := Clock.Since.of_below bel0
  have bel := hsince.2
  subst he
  exact ⟨_, rfl, ⟨_, _, _, [], _, [], hW', trodAll_mk1 (shut_bool Tryz.underlying4 _), (trodAll_cons_mk (Below.trod laidOut (by kernel_rfl) (of_decide_eq_true (by kernel_rfl)) h0 bel lt0) (trodAll_cons_mk (Below.trod laidOut (by kernel_rfl) (of_decide_eq_true (by kernel_rfl)) h1 bel lt1) trodAll_mk0)), rfl, bel.frame _, fun h => by cases h⟩, hsince.1⟩
end Go.Proofs.YtkjbbbjebidniaaGreatDoor
