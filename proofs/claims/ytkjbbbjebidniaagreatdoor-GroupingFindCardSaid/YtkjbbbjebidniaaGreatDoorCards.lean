/-
  DERIVED. GIVEN WITH THE SEED: THE CARDS: each row of YtkjbbbjebidniaaGreatDoorRows.lean that lists a variable, with what it lists TIED to the program's text (the seventh form; the later family's looks); each row that meets fmt, with fmt's text TOLD by the authors' own Lean function (tested against real Go, not proved from fmt's source: count such statements apart). THE CARD IS WHAT COUNTS. Prove the row's statement (the work); the ties are given (YtkjbbbjebidniaaGreatDoorTie.lean); close each card by the builder's one call (the guide's Derived/Test/ToyasCard.lean, 'card_holds'). Laid BY PROGRAM, IN A SANDBOX (cutbox-door.mjs). By AI agents, Wed Nov 11 2026. No macro, syntax, notation, axiom, sorry.
-/
import Derived.Test.YtkjbbbjebidniaaGreatDoorRows
import GoSem.ClaimSeven
namespace Go.Proofs.YtkjbbbjebidniaaGreatDoor
namespace Rows

/-- THE TIED CARD OF 'lineagelaw31.GroupingFind'. -/
def groupingFindCard : Claim7 := { stood := { row := groupingFindRow, standIns := [], harness := (true, "26f91f597af2c3f8babb8475c2265cb24b08b321d80ef570d43a408070e3f537"), looks := false }, kinds := [], alts := [], laidByText := true, laidKinds := [.data, .data, .data, .data, .pinned], laidTests := true, laidLooks := .later }
def GroupingFindCardSaid : Prop := Claim7.holds Tryz.pinned (.plain (OpenSpec.ofChange groupingFindSpec)) groupingFindCard
end Rows
end Go.Proofs.YtkjbbbjebidniaaGreatDoor
