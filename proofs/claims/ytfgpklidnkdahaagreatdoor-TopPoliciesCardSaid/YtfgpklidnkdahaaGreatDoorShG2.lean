/-
  The tied card of TopPolicies: it answers true, whatever is handed in.
  Conditions: none beyond the card's own (the listed variables are tied to the text of the program).
-/
import Derived.Test.YtfgpklidnkdahaaGreatDoorShF1
import Derived.Test.YtfgpklidnkdahaaGreatDoorShG0
import Derived.Test.YtfgpklidnkdahaaGreatDoorShG1
import Derived.Test.YtfgpklidnkdahaaGreatDoorCards
import Derived.SevenTiedAt
namespace Go.Proofs.YtfgpklidnkdahaaGreatDoor
open Go

theorem top_card : Rows.TopPoliciesCardSaid :=
  Claim7.holds_tied_plain_at .later [] [.pinned, .data, .data, .data, .data, .sentinel, .sentinel] true (true, "6ff448ec7edcdc5658f08b22e75ddf9a352d57576ada28ecc915313caecef0a1") true
    top_holds (fun _ h => by cases h) card_wf (fun _ h => by cases h) topPolicies_row_tie rfl ⟨rfl, rfl⟩ card_main rfl
    (fun f fn hf hfn => by
      obtain rfl : f = 3 := Option.some.inj (card_fn.symm.trans hf) |>.symm
      obtain rfl : fn = Tryz.f3 := (Option.some.inj (Tryz.func3.symm.trans hfn)).symm
      exact ⟨card_looks, fun j t ht => by
        rw [Tryz.params3] at ht
        have hm : t ∈ [22] := by simpa using Array.mem_of_getElem? ht
        exact (show Tryz.prog.wantsStandIn t = false by simpa using List.all_eq_true.1 card_stand t hm)⟩)
    card_goes
end Go.Proofs.YtfgpklidnkdahaaGreatDoor
