/-
  The last call of every law, reckoned; and what TopSections answers.
-/
import Derived.Test.YtahldjbgkkfdgaaGreatDoorShA8
import Derived.Test.YtahldjbgkkfdgaaGreatDoorShE2
import Derived.Test.YtahldjbgkkfdgaaGreatDoorShD2
import Derived.KernelRfl
set_option linter.all false
section
namespace Go.Sh
open Go.Proofs
open Go.RowKit (Below)

/-- Does a call answer true? -/
def saysTrue (r : Option (SV × Heap)) : Bool := match r with
  | some (.bool b, _) => b
  | _ => false

theorem runs_said : saysTrue (callF tabT 100 20 8 [] h0) = true := by kernel_rfl

theorem runs_true : ∃ H1, callS tabT 100 20 8 [] h0 = some (.bool true, H1) := by
  have h := runs_said
  rw [callF_eq] at h
  cases hc : callS tabT 100 20 8 [] h0 with
  | none => rw [hc] at h; exact (by cases h)
  | some p =>
    obtain ⟨v, H1⟩ := p
    rw [hc] at h
    cases v with
    | bool b =>
      change b = true at h
      rw [h]
      exact ⟨H1, rfl⟩
    | _ => exact (by cases h)

theorem mixed_ok : Tryz.prog.follows .mixedOrders = true := by kernel_rfl

theorem call2_ok (lf n : Nat) : CallOK ground Tryz.prog (call2 lf n) := by
  intro f args H r H' h
  unfold call2 at h
  split at h
  · rename_i hf
    split at h
    · cases h
      obtain ⟨H1, h1⟩ := runs_true
      have hk := restart ground_up (shadow_ok mixed_ok tab_ok 100 20) h1 (fun φ u hu ψ => by cases hu; exact .bool _)
      have hf8 : f = 8 := Nat.eq_of_beq_eq_true hf
      subst hf8
      exact ⟨hk.1, fun φ B w args' => hk.2 φ B H w args'⟩
    · cases h
  · exact shadow_ok mixed_ok tab_ok lf n f args H r H' h

/-- TopSections answers true. -/
theorem top_true {v : SV} {iv : Int} {t : List Nat} {H : Heap} (hd : DataOK H v) (hb : Bts t) : ∀ φ B w (args' : Array Value), VRL φ [v, .int .i64 iv, .str t] args'.toList → HG ground φ B H w →
    Calls Tryz.prog 3 args' w fun e w' => e = .returned (.bool true) ∧ Below B w w' := by
  intro φ B w args' ha hh
  have hw := top_walk (lf := 30001) (n := 13) (H := H) (iv := iv) hd hb (by omega) (by omega)
  refine (outer_ok tab_ok (call2_ok 30001 13) (draw_ok mixed_ok (call2_ok 30001 13)) tab3 hw φ B w args' ha hh).mono ?_
  rintro e w' ⟨r, H', rfl, _, φ', u, _, rfl, hu, _, hbl⟩
  cases hu
  exact ⟨rfl, hbl⟩
end Go.Sh
end
