/- What the tie says of 'mirrored' is what the walks ask of it. -/
import Derived.Test.YthjjolmmdgnjfaaDoorC8
import Derived.Test.YthjjolmmdgnjfaaDoorRows
import Derived.ProofKit
import Derived.LaidMore
import Derived.OpenShut
import Derived.Maps.OwnSet
import Derived.WideKeyElems2
import Derived.Stop.Joined
namespace Go.Proofs.YthjjolmmdgnjfaaDoor
open Go.ChangeShapes Go.WideShapes Go.ChangeAt Go.WideMaps Go.WideElems Go.RowKit Go.Maps Go.Proofs.YthjjolmmdgnjfaaDoorW.PrintWords PPhysicalConditions
set_option linter.unusedVariables false
theorem gMir : Tryd.prog.globalNamed "lineage/physical.mirrored" = some 0 := by kernel_rfl
theorem tMir : (Tryd.prog.globals[0]?).map (·.type) = some 69 := by kernel_rfl
theorem u69 : Tryd.prog.underlying 69 = some (.map 3 3) := by kernel_rfl
theorem keyed3 : Keyed Tryd.prog 3 := int_keyed Tryd.underlying3
abbrev laidL : List (String × DataW Unit) := [("lineage/physical.mirrored", Rows.laid_lineage_physical_mirrored)]
theorem beq_dec (a k : Int) : (k == a) = decide (a = k) := by rw [Bool.eq_iff_iff, beq_iff_eq, decide_eq_true_iff]; exact eq_comm
theorem mir_has (k : Int) : has (Rows.laid_lineage_physical_mirrored (H := Unit)) (.int .i64 k) = mirOk k := by
  simp only [has, Rows.laid_lineage_physical_mirrored, List.any_cons, List.any_nil, Lit.sameKey, mirOk, true_and, Bool.or_false]
  rw [beq_dec 5 k, beq_dec 7 k, beq_dec 8 k, beq_dec 9 k, beq_dec 10 k]
theorem mir_at (k : Int) : (Rows.laid_lineage_physical_mirrored (H := Unit)).atKey (.int .i64 k) (.lit (.int .i64 0)) = .lit (.int .i64 (mirD k)) := by
  unfold mirD
  by_cases h5 : k = 5
  · subst h5; rfl
  by_cases h7 : k = 7
  · subst h7; rfl
  by_cases h8 : k = 8
  · subst h8; rfl
  by_cases h9 : k = 9
  · subst h9; rfl
  by_cases h10 : k = 10
  · subst h10; rfl
  rw [if_neg h5, if_neg h7, if_neg h8, if_neg h9, if_neg h10]
  have e5 : ¬ (5 : Int) = k := fun e => h5 e.symm
  have e7 : ¬ (7 : Int) = k := fun e => h7 e.symm
  have e8 : ¬ (8 : Int) = k := fun e => h8 e.symm
  have e9 : ¬ (9 : Int) = k := fun e => h9 e.symm
  have e10 : ¬ (10 : Int) = k := fun e => h10 e.symm
  simp [DataW.atKey, Rows.laid_lineage_physical_mirrored, Lit.sameKey, e5, e7, e8, e9, e10]
theorem mir_of_laid {W : World} (h : laidMetH Tryd.prog laidL W) : Mir W := by
  rw [MakeChecks.laidMetH_plain _ _ _ (by kernel_rfl)] at h
  obtain ⟨ps, ⟨g0, t0, cs0, f0, p0, q0, hg0, ht0, hv0, hd0, _, _⟩, _, _⟩ := h
  obtain rfl := Option.some.inj (gMir.symm.trans hg0)
  obtain rfl := Option.some.inj (tMir.symm.trans ht0)
  rcases open_map u69 hd0 with ⟨_, hx⟩ | ⟨bm, es, clock, m, rfl, hcs, hb, _, F, hx⟩
  · simp [Rows.laid_lineage_physical_mirrored] at hx
  simp only [Prod.mk.injEq] at hx
  have hcell : W.cell? ⟨0, 0, none⟩ = some (.map (some bm)) := by
    have := World.var?_cell hg0 hv0 0
    rw [Array.eq_one_of_toList hcs] at this
    simpa using this
  have hown := World.ownsMap_of_fit (R := plainElem Tryd.prog 3) hb F (fun x _ z hz => elemAt_plainElem_int Tryd.underlying3 hz)
  rw [← hx.1] at hown
  refine ⟨.map (some bm), hcell, fun wr hB k k0 k1 => ?_⟩
  obtain ⟨es', clock', hb', F', hle, hDD⟩ := hown
  have hlt : bm < W.heap.size := lt_of_block hb'
  have hown' : wr.ownsMap Tryd.prog 3 (plainElem Tryd.prog 3) bm es.size (Rows.laid_lineage_physical_mirrored (H := Unit)) := ⟨es', clock', by rw [hB.block bm hlt]; exact hb', F', hle, hDD⟩
  have wf : (Lit.int .i64 k).wf = true := WalkArith.wf_i64 ⟨by omega, by omega⟩
  have zero : (zeroValue 3).run Tryd.prog wr = .ok (.int .i64 0) wr := by kernel_rfl
  obtain ⟨v, ps', hrun, hR⟩ := hown'.look_ok keyed3 u69 zero (plainElem_int Tryd.underlying3 (by decide)) (keyOf_int_mk Tryd.underlying3 wf)
  rw [mir_has] at hrun
  rw [mir_at] at hR
  obtain ⟨a, rfl, hz, _⟩ := plainElem_int_inv Tryd.underlying3 hR
  simp only [Prod.mk.injEq, DataW.lit.injEq, Lit.int.injEq, true_and] at hz
  rw [hz.1]
  exact hrun
end Go.Proofs.YthjjolmmdgnjfaaDoor
