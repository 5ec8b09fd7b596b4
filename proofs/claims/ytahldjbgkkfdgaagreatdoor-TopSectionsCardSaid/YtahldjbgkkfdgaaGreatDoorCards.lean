/-
  DERIVED. GIVEN WITH THE SEED: THE CARDS: each row of YtahldjbgkkfdgaaGreatDoorRows.lean that lists a variable, with what it lists TIED to the program's text (the seventh form; the later family's looks); each row that meets fmt, with fmt's text TOLD by the authors' own Lean function (tested against real Go, not proved from fmt's source: count such statements apart). THE CARD IS WHAT COUNTS. Prove the row's statement (the work); the ties are given (YtahldjbgkkfdgaaGreatDoorTie.lean); close each card by the builder's one call (the guide's Derived/Test/ToyasCard.lean, 'card_holds'). Laid BY PROGRAM, IN A SANDBOX (cutbox-door.mjs). By AI agents, Wed Nov 11 2026. No macro, syntax, notation, axiom, sorry.
-/
import Derived.Test.YtahldjbgkkfdgaaGreatDoorRows
import GoSem.ClaimSeven
namespace Go.Proofs.YtahldjbgkkfdgaaGreatDoor
namespace Rows

/-- THE TIED CARD OF 'trctop.TopSections'. -/
def topSectionsCard : Claim7 := { stood := { row := topSectionsRow, standIns := [], harness := (true, "c210baed6653924101391f8d0c559b7c62c954d39f71bc85072d9c2a413726f7"), looks := true }, kinds := [], alts := [], laidByText := true, laidKinds := [.pinned, .data, .data, .data, .data, .sentinel, .sentinel], laidTests := true, laidLooks := .later }
def TopSectionsCardSaid : Prop := Claim7.holds Tryz.pinned (.plain (OpenSpec.ofChange topSectionsSpec)) topSectionsCard

/-- THE SECOND FORM's CARD OF 'trctop.TopSections'. -/
def topSectionsUptoCard : Claim7 := { stood := { row := topSectionsUptoRow, standIns := [], harness := (true, "c210baed6653924101391f8d0c559b7c62c954d39f71bc85072d9c2a413726f7"), looks := true }, kinds := [], alts := [], laidByText := true, laidKinds := [.pinned, .data, .data, .data, .data, .sentinel, .sentinel], laidTests := true, laidLooks := .later }
def TopSectionsUptoCardSaid : Prop := Claim7.holds Tryz.pinned (.plain (OpenSpec.upto topSectionsSpec)) topSectionsUptoCard
end Rows
end Go.Proofs.YtahldjbgkkfdgaaGreatDoor
