/-
  DERIVED. GIVEN WITH THE SEED: THE CARDS: each row of YtpcpmplkblbpbaaGreatDoorRows.lean that lists a variable, with what it lists TIED to the program's text (the seventh form; the later family's looks); each row that meets fmt, with fmt's text TOLD by the authors' own Lean function (tested against real Go, not proved from fmt's source: count such statements apart). THE CARD IS WHAT COUNTS. Prove the row's statement (the work); the ties are given (YtpcpmplkblbpbaaGreatDoorTie.lean); close each card by the builder's one call (the guide's Derived/Test/ToyasCard.lean, 'card_holds'). Laid BY PROGRAM, IN A SANDBOX (cutbox-door.mjs). By AI agents, Wed Nov 11 2026. No macro, syntax, notation, axiom, sorry.
-/
import Derived.Test.YtpcpmplkblbpbaaGreatDoorRows
import GoSem.ClaimSeven
namespace Go.Proofs.YtpcpmplkblbpbaaGreatDoor
namespace Rows

/-- THE TIED CARD OF 'trctop.TopMerges'. -/
def topMergesCard : Claim7 := { stood := { row := topMergesRow, standIns := [], harness := (true, "bddddb4e1cabd2dd8ffc20ee6b9541f79cfe1ade5e59d6567cb5f94f8058fd75"), looks := true }, kinds := [], alts := [], laidByText := true, laidKinds := [.pinned, .data, .data, .data, .data, .sentinel, .sentinel], laidTests := true, laidLooks := .later }
def TopMergesCardSaid : Prop := Claim7.holds Tryz.pinned (.plain (OpenSpec.ofChange topMergesSpec)) topMergesCard

/-- THE SECOND FORM's CARD OF 'trctop.TopMerges'. -/
def topMergesUptoCard : Claim7 := { stood := { row := topMergesUptoRow, standIns := [], harness := (true, "bddddb4e1cabd2dd8ffc20ee6b9541f79cfe1ade5e59d6567cb5f94f8058fd75"), looks := true }, kinds := [], alts := [], laidByText := true, laidKinds := [.pinned, .data, .data, .data, .data, .sentinel, .sentinel], laidTests := true, laidLooks := .later }
def TopMergesUptoCardSaid : Prop := Claim7.holds Tryz.pinned (.plain (OpenSpec.upto topMergesSpec)) topMergesUptoCard
end Rows
end Go.Proofs.YtpcpmplkblbpbaaGreatDoor
