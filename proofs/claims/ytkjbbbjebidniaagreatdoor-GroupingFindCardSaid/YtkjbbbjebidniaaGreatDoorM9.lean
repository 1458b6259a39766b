/- GroupingFind, a law of the package lineagelaw31, returns true for every answer and every list of values, and each argument reads afterwards as it read before. Its conditions are those of the given row and card: the five listed tables of the library begin as the text of the program lays them (tied; one of them pinned), the package variables lineage/scalar.operators and internal/bytealg.MaxLen are left open (every value of their types), the run is calm and of the outside the clocks alone may move on, and the tie speaks of the pruned copy that the seat gives. -/
import Derived.Test.YtkjbbbjebidniaaGreatDoorZWA
import Derived.Test.YtkjbbbjebidniaaGreatDoorTie
import Derived.Test.YtkjbbbjebidniaaGreatDoorCards
import Derived.SevenTiedAt
namespace Go.Proofs.YtkjbbbjebidniaaGreatDoor
open Go
theorem stand_ins : ([25, 26].all fun u => !Tryz.prog.wantsStandIn u) = true := by kernel_rfl
theorem find_card_holds : Rows.GroupingFindCardSaid :=
  Claim7.holds_tied_plain_at .later [] [.data, .data, .data, .data, .pinned] true (true, "26f91f597af2c3f8babb8475c2265cb24b08b321d80ef570d43a408070e3f537") false
    find_row (fun _ h => by cases h) (by as_aux_lemma => kernel_rfl) (fun _ h => by cases h) groupingFind_row_tie rfl ⟨rfl, rfl⟩ (by as_aux_lemma => kernel_rfl) rfl
    (fun f fn hf hfn => by
      obtain rfl : f = 3 := Option.some.inj (fact_name.symm.trans hf) |>.symm
      obtain rfl : fn = Tryz.f3 := (Option.some.inj (Tryz.func3.symm.trans hfn)).symm
      exact ⟨by as_aux_lemma => kernel_rfl, fun j t ht => by
        rw [Tryz.params3] at ht
        have hm : t ∈ [25, 26] := by simpa using Array.mem_of_getElem? ht
        exact (show Tryz.prog.wantsStandIn t = false by simpa using List.all_eq_true.1 stand_ins t hm)⟩)
    (by as_aux_lemma => kernel_rfl)
end Go.Proofs.YtkjbbbjebidniaaGreatDoor
