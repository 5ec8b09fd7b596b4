/-
  The tied card of PageColours: it answers true, whatever is handed in.
  Conditions: none beyond the card's own (the listed variables are tied to the text of the program).
-/
import Derived.Test.YtnhogklhegmjhaaGreatDoorShF1
import Derived.Test.YtnhogklhegmjhaaGreatDoorShG0
import Derived.Test.YtnhogklhegmjhaaGreatDoorShG1
import Derived.Test.YtnhogklhegmjhaaGreatDoorCards
import Derived.SevenTiedAt
namespace Go.Proofs.YtnhogklhegmjhaaGreatDoor
open Go

theorem top_card : Rows.PageColoursCardSaid :=
  Claim7.holds_tied_plain_at .later [] [.pinned, .data, .data, .data, .data, .sentinel, .sentinel] true (true, "87c085a635224814190db98f7a75841680de300a100620ece8c18cc4eb475b6e") true
    top_holds (fun _ h => by cases h) card_wf (fun _ h => by cases h) pageColours_row_tie rfl ⟨rfl, rfl⟩ card_main rfl
    (fun f fn hf hfn => by
      obtain rfl : f = 3 := Option.some.inj (card_fn.symm.trans hf) |>.symm
      obtain rfl : fn = Tryz.f3 := (Option.some.inj (Tryz.func3.symm.trans hfn)).symm
      exact ⟨card_looks, fun j t ht => by
        rw [Tryz.params3] at ht
        have hm : t ∈ [22] := by simpa using Array.mem_of_getElem? ht
        exact (show Tryz.prog.wantsStandIn t = false by simpa using List.all_eq_true.1 card_stand t hm)⟩)
    card_goes
end Go.Proofs.YtnhogklhegmjhaaGreatDoor
