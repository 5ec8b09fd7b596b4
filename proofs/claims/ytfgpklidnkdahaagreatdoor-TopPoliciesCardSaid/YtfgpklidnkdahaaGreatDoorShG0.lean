/-
  The closed facts of the card, one by one.
-/
import Derived.Test.YtfgpklidnkdahaaGreatDoorRows
import Derived.SevenTiedAt
import Derived.KernelRfl
namespace Go.Proofs.YtfgpklidnkdahaaGreatDoor
open Go

theorem card_wf : Rows.topPoliciesRow.wfByText (OpenSpec.ofChange Rows.topPoliciesSpec) = true := by kernel_rfl
theorem card_main : Tryz.prog.mainIs = some (true, "6ff448ec7edcdc5658f08b22e75ddf9a352d57576ada28ecc915313caecef0a1".toList) := by kernel_rfl
theorem card_fn : Tryz.prog.funcNamed "transclude/trctop.TopPolicies" = some 3 := by kernel_rfl
theorem card_looks : true = Tryz.prog.looks [] := by kernel_rfl
theorem card_stand : ([22].all fun u => !Tryz.prog.wantsStandIn u) = true := by kernel_rfl
/-- No function of the program bears a go statement. -/
theorem quiet_all : (Tryz.prog.funcs.toList.all fun fn => !fn.goes) = true := by kernel_rfl
theorem quiet_at (g : Nat) : (Tryz.prog.funcs[g]?).any Func.goes = false := by
  cases h : Tryz.prog.funcs[g]? with
  | none => rfl
  | some fn =>
    have hm : fn ∈ Tryz.prog.funcs.toList := Array.mem_toList_iff.2 (Array.mem_of_getElem? h)
    have := List.all_eq_true.1 quiet_all fn hm
    simpa using this
theorem quiet_any : Tryz.prog.funcs.any Func.goes = false := by
  rw [← Array.any_toList, List.any_eq_false]
  intro fn hm
  have := List.all_eq_true.1 quiet_all fn hm
  simpa using this
theorem quiet_goes (f : FuncId) : Tryz.prog.goes f = false := by
  unfold Program.goes
  rw [quiet_any, Bool.and_false, Bool.or_false, List.any_eq_false]
  intro g _
  rw [quiet_at]
  simp
theorem card_goes : false = Rows.topPoliciesRow.goesBy Tryz.prog := by
  have h : Tryz.prog.goesFrom Rows.topPoliciesRow.func = false := by
    unfold Program.goesFrom
    rw [show Rows.topPoliciesRow.func = "transclude/trctop.TopPolicies" from rfl, card_fn]
    rw [Option.any_some]
    exact quiet_goes 3
  unfold OpenClaim.goesBy Program.goesAt
  rw [h]
  rfl
end Go.Proofs.YtfgpklidnkdahaaGreatDoor
