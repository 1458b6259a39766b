/- The row of 'GroupingFind': its closed facts, each by itself (all at once they want more memory than a process may take). -/
import Derived.Test.YtkjbbbjebidniaaGreatDoorZW9
namespace Go.Proofs.YtkjbbbjebidniaaGreatDoor
open Go Go.ChangeShapes Go.WideShapes Go.ChangeAt Go.WideElems Go.RowKit
set_option linter.unusedVariables false
set_option maxRecDepth 100000
theorem fact_inPlace : (Rows.groupingFindRow.inPlace == Tryz.prog.inPlace 3) = true := by kernel_rfl
theorem fact_unfollowed : (Rows.groupingFindRow.unfollowed == Tryz.prog.unfollowed 3) = true := by kernel_rfl
theorem fact_recurses : (Rows.groupingFindRow.recurses == Tryz.prog.recurses 3) = true := by kernel_rfl
theorem fact_named : (Rows.groupingFindRow.named == Tryz.prog.varsNamed 3) = true := by kernel_rfl
theorem closed : joinedFacts Tryz.prog 3 Tryz.f3 Rows.groupingFindSpec Rows.groupingFindRow = true := by
  unfold joinedFacts
  rw [fact_inPlace, fact_unfollowed, fact_recurses, fact_named]
  kernel_rfl
theorem fact_name : Tryz.prog.funcNamed Rows.groupingFindRow.func = some 3 := by kernel_rfl
theorem fact_instance : Tryz.f3.isInstance Tryz.prog Rows.groupingFindRow.origin Rows.groupingFindRow.targs := (of_decide_eq_true (by kernel_rfl))
theorem fact_wrapper : Tryz.f3.isWrapper Tryz.prog Rows.groupingFindRow.wrapper Rows.groupingFindRow.mainSum := (by unfold Func.isWrapper; first | (rw [if_pos (by decide +kernel)]; kernel_rfl) | (rw [if_neg (by decide +kernel)]; exact ⟨rfl, rfl⟩))
theorem find_row : Rows.GroupingFindSaid :=
  Clock.holds_of_wide_time 3 Tryz.f3 rfl rfl rfl rfl rfl rfl rfl ⟨rfl, rfl, rfl, rfl, rfl⟩ rfl rfl rfl rfl rfl fact_name Tryz.func3 closed
    fact_instance fact_wrapper
    (fun os started H enc _ F => lifted os started H enc F)
end Go.Proofs.YtkjbbbjebidniaaGreatDoor
