/-
  DERIVED. GIVEN WITH THE SEED: THE CARDS: each row of YtcpngmclhicciaaGreatDoorRows.lean that lists a variable, with what it lists TIED to the program's text (the seventh form; the later family's looks); each row that meets fmt, with fmt's text TOLD by the authors' own Lean function (tested against real Go, not proved from fmt's source: count such statements apart). THE CARD IS WHAT COUNTS. Prove the row's statement (the work); the ties are given (YtcpngmclhicciaaGreatDoorTie.lean); close each card by the builder's one call (the guide's Derived/Test/ToyasCard.lean, 'card_holds'). Laid BY PROGRAM, IN A SANDBOX (cutbox-door.mjs). By AI agents, Wed Nov 11 2026. No macro, syntax, notation, axiom, sorry.
-/
import Derived.Test.YtcpngmclhicciaaGreatDoorRows
import GoSem.ClaimSeven
namespace Go.Proofs.YtcpngmclhicciaaGreatDoor
namespace Rows

/-- THE TIED CARD OF 'lineagelaw44.MergejoinGroups'. -/
def mergejoinGroupsCard : Claim7 := { stood := { row := mergejoinGroupsRow, standIns := [], harness := (true, "838e70ac3b7bf2b6d0eac6bd45d6ef060263db99da08b8ddaa1e4af2a40c002e"), looks := false }, kinds := [], alts := [], laidByText := true, laidKinds := [.data, .data, .data, .data, .pinned], laidTests := true, laidLooks := .later }
def MergejoinGroupsCardSaid : Prop := Claim7.holds Tryz.pinned (.plain (OpenSpec.ofChange mergejoinGroupsSpec)) mergejoinGroupsCard

/-- THE SECOND FORM's CARD OF 'lineagelaw44.MergejoinGroups'. -/
def mergejoinGroupsUptoCard : Claim7 := { stood := { row := mergejoinGroupsUptoRow, standIns := [], harness := (true, "838e70ac3b7bf2b6d0eac6bd45d6ef060263db99da08b8ddaa1e4af2a40c002e"), looks := false }, kinds := [], alts := [], laidByText := true, laidKinds := [.data, .data, .data, .data, .pinned], laidTests := true, laidLooks := .later }
def MergejoinGroupsUptoCardSaid : Prop := Claim7.holds Tryz.pinned (.plain (OpenSpec.upto mergejoinGroupsSpec)) mergejoinGroupsUptoCard
end Rows
end Go.Proofs.YtcpngmclhicciaaGreatDoor
