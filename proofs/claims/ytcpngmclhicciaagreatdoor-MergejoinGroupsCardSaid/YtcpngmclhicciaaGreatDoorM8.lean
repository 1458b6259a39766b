/- MergejoinGroups, a law of the package lineagelaw44, returns true for every list of rows and every list of keys, and each argument reads afterwards as it read before. Its conditions are those of the given row and card: the five listed tables of the library begin as the text of the program lays them (tied; one of them pinned), the package variable lineage/scalar.operators is left open (every value of its type), and the tie speaks of the pruned copy that the seat gives. -/
import Derived.Test.YtcpngmclhicciaaGreatDoorM7
import Derived.Test.YtcpngmclhicciaaGreatDoorTie
import Derived.Test.YtcpngmclhicciaaGreatDoorCards
import Derived.SevenTiedAt
namespace Go.Proofs.YtcpngmclhicciaaGreatDoor
open Go
theorem groups_card_holds : Rows.MergejoinGroupsCardSaid :=
  Claim7.holds_tied_plain_at .later [] [.data, .data, .data, .data, .pinned] true (true, "838e70ac3b7bf2b6d0eac6bd45d6ef060263db99da08b8ddaa1e4af2a40c002e") false
    groups_row (fun _ h => by cases h) (by kernel_rfl) (fun _ h => by cases h) mergejoinGroups_row_tie rfl ⟨rfl, rfl⟩ (by kernel_rfl) rfl
    (fun f fn hf hfn => by
      obtain rfl : f = 3 := Option.some.inj ((show Tryz.prog.funcNamed "lineage/lineagelaw44.MergejoinGroups" = some 3 by kernel_rfl).symm.trans hf) |>.symm
      obtain rfl : fn = Tryz.f3 := (Option.some.inj (Tryz.func3.symm.trans hfn)).symm
      exact ⟨by kernel_rfl, fun j t ht => by
        rw [Tryz.params3] at ht
        have hm : t ∈ [22, 23] := by simpa using Array.mem_of_getElem? ht
        have hall : ([22, 23].all fun u => !Tryz.prog.wantsStandIn u) = true := by kernel_rfl
        exact (show Tryz.prog.wantsStandIn t = false by simpa using List.all_eq_true.1 hall t hm)⟩)
    (by kernel_rfl)
end Go.Proofs.YtcpngmclhicciaaGreatDoor
