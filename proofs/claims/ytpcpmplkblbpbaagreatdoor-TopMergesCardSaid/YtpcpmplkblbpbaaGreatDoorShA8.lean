/-
  A call that is made in the middle of another one, reckoned from an empty heap; and the outermost call, reckoned with such calls.
-/
import Derived.Test.YtpcpmplkblbpbaaGreatDoorShA6
import Derived.Test.YtpcpmplkblbpbaaGreatDoorShA7
set_option linter.all false
section
namespace Go.Sh
open Go.RowKit (Below)
section
variable {G : Ground} {P : Program} {call : CallS}
theorem restart (hG : ∀ B B' w, B ≤ B' → B' ≤ w.heap.size → G.p B w → G.p B' w) (hc : CallOK G P call) {f : FuncId} {v : SV} {H0 H1 : Heap} (h8 : call f [] H0 = some (v, H1)) (hv : ∀ φ u, VR φ v u → ∀ ψ, VR ψ v u) :
    enterable P f = true ∧ ∀ φ B H w (args' : Array Value), VRL φ [] args'.toList → HG G φ B H w → Calls P f args' w (CPost φ B H w v H) := by
  obtain ⟨he, hk⟩ := hc f [] H0 v H1 h8
  refine ⟨he, fun φ B H w args' ha hh => ?_⟩
  have ha0 : VRL (fun _ => none) [] args'.toList := by
    generalize args'.toList = l at ha
    cases ha
    exact .nil
  have hr : HR (fun _ => none) w.heap.size H0 w := ⟨(fun _ _ e => (by cases e)), (fun _ _ _ _ e => (by cases e)), (fun _ _ e => (by cases e)), Nat.le_refl _⟩
  refine (hk (fun _ => none) w.heap.size w args' ha0 ⟨hr, hG _ _ _ hh.1.sz (Nat.le_refl _) hh.2⟩).mono ?_
  rintro e w' ⟨_, φ', u, _, rfl, hu, _, hb⟩
  exact ⟨Nat.le_refl _, φ, u, Emb.ext.refl φ _, rfl, hv _ _ hu _, hh.1.world hb.size fun k hk => hb.block k hk, hb.mono hh.1.sz⟩
theorem outer_ok {tab : FuncId → Option SFun} (htab : TabOK G P tab) (hcall : CallOK G P call) (hdraw : DrawOK G P call) {lf : Nat} {f : FuncId} {sf : SFunc} {args : List SV} {H : Heap} {R : SV → Heap → Prop} (ht : tab f = some (.code sf))
    (h : EC call lf sf.body (args ++ List.replicate (sf.ntmps - args.length) SV.undef) [] H (funR sf.results R)) :
    ∀ φ B w (args' : Array Value), VRL φ args args'.toList → HG G φ B H w → Calls P f args' w fun e w' => ∃ v H', R v H' ∧ CPost φ B H w v H' e w' := by
  intro φ B w args' hargs hh
  obtain ⟨fn, hfn, hcf, hname⟩ := htab.code f sf ht
  unfold compF at hcf
  split at hcf
  · cases hcf
  · rename_i c hbody
    split at hcf
    · rename_i rs hrs
      cases hcf
      have fin : ∀ (x : SExit) (ts' : T) (r : SV) (H1 : Heap), (x = .normal ∨ x = .ret) → evalC call lf (compC P c) (args ++ List.replicate (fn.ntmps - args.length) SV.undef) [] H = some (x, ts', [], H1) → resS rs ts' H1 = some r → R r H1 →
          Calls P f args' w fun e w' => ∃ v H', R v H' ∧ CPost φ B H w v H' e w' := by
        intro x ts' r H1 hx hev hrun hR
        refine (calls_of_wp_defers (R := CPost φ B H w r H1) hfn hbody ?_).mono fun e w' hp => ⟨r, H1, hR, hp⟩
        refine code_ok hcall hdraw c φ H w _ [] ⟨args' ++ Array.replicate (fn.ntmps - args'.size) Go.undef, []⟩ x ts' [] H1 _ hev (args_ok hargs) hh .nil fun φ1 a1 w1 n1 g1 g2 g3 g4 g5 => ?_
        have hcd : CDOK G P (fun _ _ _ => none) := fun f args H H' h => by cases h
        have : Leaves P fn a1.tmps (CPost φ B H w r H1) a1.defers .returning w1 :=
          leaves_ok hcd hrs [] a1.defers φ1 H1 w1 r H1 (by simp only [runD, hrun]) g3 g2 g4 fun φ2 u w2 n2 k1 k2 k3 k4 => ⟨Nat.le_trans n1 n2, φ2, u, g1.trans k1 n1, rfl, k2, k3, g5.trans k4⟩
        rcases hx with rfl | rfl <;> exact this
      unfold EC at h
      obtain ⟨x, ts', D', H', hev, hf⟩ := h
      unfold funR at hf
      cases x with
      | normal => obtain ⟨rfl, v, h1, h2⟩ := hf; exact fin _ _ _ _ (.inl rfl) hev h1 h2
      | exit id => exact hf.elim
      | ret => obtain ⟨rfl, v, h1, h2⟩ := hf; exact fin _ _ _ _ (.inr rfl) hev h1 h2
    · cases hcf
end
end Go.Sh
end
