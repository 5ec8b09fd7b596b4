/-
  DERIVED. GIVEN WITH THE SEED: THE CARDS: each row of YtnhogklhegmjhaaGreatDoorRows.lean that lists a variable, with what it lists TIED to the program's text (the seventh form; the later family's looks); each row that meets fmt, with fmt's text TOLD by the authors' own Lean function (tested against real Go, not proved from fmt's source: count such statements apart). THE CARD IS WHAT COUNTS. Prove the row's statement (the work); the ties are given (YtnhogklhegmjhaaGreatDoorTie.lean); close each card by the builder's one call (the guide's Derived/Test/ToyasCard.lean, 'card_holds'). Laid BY PROGRAM, IN A SANDBOX (cutbox-door.mjs). By AI agents, Wed Nov 11 2026. No macro, syntax, notation, axiom, sorry.
-/
import Derived.Test.YtnhogklhegmjhaaGreatDoorRows
import GoSem.ClaimSeven
namespace Go.Proofs.YtnhogklhegmjhaaGreatDoor
namespace Rows

/-- THE TIED CARD OF 'trclaw21.PageColours'. -/
def pageColoursCard : Claim7 := { stood := { row := pageColoursRow, standIns := [], harness := (true, "87c085a635224814190db98f7a75841680de300a100620ece8c18cc4eb475b6e"), looks := true }, kinds := [], alts := [], laidByText := true, laidKinds := [.pinned, .data, .data, .data, .data, .sentinel, .sentinel], laidTests := true, laidLooks := .later }
def PageColoursCardSaid : Prop := Claim7.holds Tryz.pinned (.plain (OpenSpec.ofChange pageColoursSpec)) pageColoursCard

/-- THE SECOND FORM's CARD OF 'trclaw21.PageColours'. -/
def pageColoursUptoCard : Claim7 := { stood := { row := pageColoursUptoRow, standIns := [], harness := (true, "87c085a635224814190db98f7a75841680de300a100620ece8c18cc4eb475b6e"), looks := true }, kinds := [], alts := [], laidByText := true, laidKinds := [.pinned, .data, .data, .data, .data, .sentinel, .sentinel], laidTests := true, laidLooks := .later }
def PageColoursUptoCardSaid : Prop := Claim7.holds Tryz.pinned (.plain (OpenSpec.upto pageColoursSpec)) pageColoursUptoCard
end Rows
end Go.Proofs.YtnhogklhegmjhaaGreatDoor
