/-
  DERIVED. GIVEN WITH THE SEED: THE CARDS: each row of YthjjolmmdgnjfaaDoorRows.lean that lists a variable, with what it lists TIED to the program's text (the seventh form; the later family's looks); each row that meets fmt, with fmt's text TOLD by the authors' own Lean function (tested against real Go, not proved from fmt's source: count such statements apart). THE CARD IS WHAT COUNTS. Prove the row's statement (the work); the ties are given (YthjjolmmdgnjfaaDoorTie.lean); close each card by the builder's one call (the guide's Derived/Test/ToyasCard.lean, 'card_holds'). Laid BY PROGRAM, IN A SANDBOX (cutbox-door.mjs). By AI agents, Wed Nov 11 2026. No macro, syntax, notation, axiom, sorry.
-/
import Derived.Test.YthjjolmmdgnjfaaDoorRows
import GoSem.ClaimSeven
namespace Go.Proofs.YthjjolmmdgnjfaaDoor
namespace Rows

/-- THE TIED CARD OF 'lineagelaw40.PhysicalConditions'. -/
def physicalConditionsCard : Claim7 := { stood := { row := physicalConditionsRow, standIns := [], harness := (true, "0b09105b4a2246f4b104ce72e515d48fc16549c5b6388b65118e8ee3e1fa027b"), looks := false }, kinds := [], alts := [], laidByText := true, laidKinds := [.mapped], laidTests := true, laidLooks := .later }
def PhysicalConditionsCardSaid : Prop := Claim7.holds Tryd.pinned (.plain (OpenSpec.ofChange physicalConditionsSpec)) physicalConditionsCard

/-- THE SECOND FORM's CARD OF 'lineagelaw40.PhysicalConditions'. -/
def physicalConditionsUptoCard : Claim7 := { stood := { row := physicalConditionsUptoRow, standIns := [], harness := (true, "0b09105b4a2246f4b104ce72e515d48fc16549c5b6388b65118e8ee3e1fa027b"), looks := false }, kinds := [], alts := [], laidByText := true, laidKinds := [.mapped], laidTests := true, laidLooks := .later }
def PhysicalConditionsUptoCardSaid : Prop := Claim7.holds Tryd.pinned (.plain (OpenSpec.upto physicalConditionsSpec)) physicalConditionsUptoCard
end Rows
end Go.Proofs.YthjjolmmdgnjfaaDoor
