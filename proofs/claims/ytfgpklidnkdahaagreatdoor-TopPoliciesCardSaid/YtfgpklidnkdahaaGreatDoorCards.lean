/-
  DERIVED. GIVEN WITH THE SEED: THE CARDS: each row of YtfgpklidnkdahaaGreatDoorRows.lean that lists a variable, with what it lists TIED to the program's text (the seventh form; the later family's looks); each row that meets fmt, with fmt's text TOLD by the authors' own Lean function (tested against real Go, not proved from fmt's source: count such statements apart). THE CARD IS WHAT COUNTS. Prove the row's statement (the work); the ties are given (YtfgpklidnkdahaaGreatDoorTie.lean); close each card by the builder's one call (the guide's Derived/Test/ToyasCard.lean, 'card_holds'). Laid BY PROGRAM, IN A SANDBOX (cutbox-door.mjs). By AI agents, Wed Nov 11 2026. No macro, syntax, notation, axiom, sorry.
-/
import Derived.Test.YtfgpklidnkdahaaGreatDoorRows
import GoSem.ClaimSeven
namespace Go.Proofs.YtfgpklidnkdahaaGreatDoor
namespace Rows

/-- THE TIED CARD OF 'trctop.TopPolicies'. -/
def topPoliciesCard : Claim7 := { stood := { row := topPoliciesRow, standIns := [], harness := (true, "6ff448ec7edcdc5658f08b22e75ddf9a352d57576ada28ecc915313caecef0a1"), looks := true }, kinds := [], alts := [], laidByText := true, laidKinds := [.pinned, .data, .data, .data, .data, .sentinel, .sentinel], laidTests := true, laidLooks := .later }
def TopPoliciesCardSaid : Prop := Claim7.holds Tryz.pinned (.plain (OpenSpec.ofChange topPoliciesSpec)) topPoliciesCard

/-- THE SECOND FORM's CARD OF 'trctop.TopPolicies'. -/
def topPoliciesUptoCard : Claim7 := { stood := { row := topPoliciesUptoRow, standIns := [], harness := (true, "6ff448ec7edcdc5658f08b22e75ddf9a352d57576ada28ecc915313caecef0a1"), looks := true }, kinds := [], alts := [], laidByText := true, laidKinds := [.pinned, .data, .data, .data, .data, .sentinel, .sentinel], laidTests := true, laidLooks := .later }
def TopPoliciesUptoCardSaid : Prop := Claim7.holds Tryz.pinned (.plain (OpenSpec.upto topPoliciesSpec)) topPoliciesUptoCard
end Rows
end Go.Proofs.YtfgpklidnkdahaaGreatDoor
