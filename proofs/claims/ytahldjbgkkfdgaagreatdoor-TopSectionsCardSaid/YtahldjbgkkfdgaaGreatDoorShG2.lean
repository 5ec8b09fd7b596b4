/-
  The tied card of TopSections: it answers true, whatever is handed in.
  Conditions: none beyond the card's own (the listed variables are tied to the text of the program).
-/
import Derived.Test.YtahldjbgkkfdgaaGreatDoorShF1
import Derived.Test.YtahldjbgkkfdgaaGreatDoorShG0
import Derived.Test.YtahldjbgkkfdgaaGreatDoorShG1
import Derived.Test.YtahldjbgkkfdgaaGreatDoorCards
import Derived.SevenTiedAt
namespace Go.Proofs.YtahldjbgkkfdgaaGreatDoor
open Go

theorem top_card : Rows.TopSectionsCardSaid :=
  Claim7.holds_tied_plain_at .later [] [.pinned, .data, .data, .data, .data, .sentinel, .sentinel] true (true, "c210baed6653924101391f8d0c559b7c62c954d39f71bc85072d9c2a413726f7") true
    top_holds (fun _ h => by cases h) card_wf (fun _ h => by cases h) topSections_row_tie rfl ⟨rfl, rfl⟩ card_main rfl
    (fun f fn hf hfn => by
      obtain rfl : f = 3 := Option.some.inj (card_fn.symm.trans hf) |>.symm
      obtain rfl : fn = Tryz.f3 := (Option.some.inj (Tryz.func3.symm.trans hfn)).symm
      exact ⟨card_looks, fun j t ht => by
        rw [Tryz.params3] at ht
        have hm : t ∈ [22, 3, 9] := by simpa using Array.mem_of_getElem? ht
        exact (show Tryz.prog.wantsStandIn t = false by simpa using List.all_eq_true.1 card_stand t hm)⟩)
    card_goes
end Go.Proofs.YtahldjbgkkfdgaaGreatDoor
