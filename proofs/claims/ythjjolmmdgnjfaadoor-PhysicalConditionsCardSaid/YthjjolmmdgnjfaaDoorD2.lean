/- 'PhysicalConditions' returns true for every condition, number of columns and index; the listed variable 'lineage/physical.mirrored' is tied to the program's text. -/
import Derived.Test.YthjjolmmdgnjfaaDoorD1
import Derived.Test.YthjjolmmdgnjfaaDoorTie
import Derived.Test.YthjjolmmdgnjfaaDoorCards
import Derived.SevenTiedAt
namespace Go.Proofs.YthjjolmmdgnjfaaDoor
open Go
theorem conditions_card_holds : Rows.PhysicalConditionsCardSaid :=
  Claim7.holds_tied_plain_at .later [] [.mapped] true (true, "0b09105b4a2246f4b104ce72e515d48fc16549c5b6388b65118e8ee3e1fa027b") false
    conditions_row (fun _ h => by cases h) (by kernel_rfl) (fun _ h => by cases h) physicalConditions_row_tie rfl ⟨rfl, rfl⟩ (by kernel_rfl) rfl
    (fun f fn hf hfn => by
      obtain rfl : f = 3 := Option.some.inj ((show Tryd.prog.funcNamed "lineage/lineagelaw40.PhysicalConditions" = some 3 by kernel_rfl).symm.trans hf) |>.symm
      obtain rfl : fn = Tryd.f3 := (Option.some.inj (Tryd.func3.symm.trans hfn)).symm
      exact ⟨by kernel_rfl, fun j t ht => by
        rw [Tryd.params3] at ht
        have hm : t ∈ [26, 3, 29] := by simpa using Array.mem_of_getElem? ht
        have hall : ([26, 3, 29].all fun u => !Tryd.prog.wantsStandIn u) = true := by kernel_rfl
        exact (show Tryd.prog.wantsStandIn t = false by simpa using List.all_eq_true.1 hall t hm)⟩)
    (by kernel_rfl)
#print axioms conditions_card_holds
end Go.Proofs.YthjjolmmdgnjfaaDoor
