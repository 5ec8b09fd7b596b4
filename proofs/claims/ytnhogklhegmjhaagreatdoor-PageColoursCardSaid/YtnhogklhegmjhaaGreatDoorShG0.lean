/-
  The closed facts of the card, one by one.
-/
import Derived.Test.YtnhogklhegmjhaaGreatDoorRows
import Derived.SevenTiedAt
import Derived.KernelRfl
namespace Go.Proofs.YtnhogklhegmjhaaGreatDoor
open Go

theorem card_wf : Rows.pageColoursRow.wfByText (OpenSpec.ofChange Rows.pageColoursSpec) = true := by kernel_rfl
theorem card_main : Tryz.prog.mainIs = some (true, "87c085a635224814190db98f7a75841680de300a100620ece8c18cc4eb475b6e".toList) := by kernel_rfl
theorem card_fn : Tryz.prog.funcNamed "transclude/trclaw21.PageColours" = some 3 := by kernel_rfl
theorem card_looks : true = Tryz.prog.looks [] := by kernel_rfl
theorem card_stand : ([22].all fun u => !Tryz.prog.wantsStandIn u) = true := by kernel_rfl
/-- No function of the program bears a go statement. -/
theorem quiet_all : (Tryz.prog.funcs.toList.all fun fn => !fn.goes) = true := by kernel_rfl
theorem quiet_at (g : Nat) : (Tryz.prog.funcs[g]?).any Func.goes = false := by
  cases h : Tryz.prog.funcs[g]? with
  | none => rfl
  | some fn =>
    have hm : fn ∈ Tryz.prog.funcs.toList := Array.mem_toList_iff.2 (Array.mem_of_getElem? h)
    have := List.all_eq_true.1 quiet_all fn hm
    simpa using this
theorem quiet_any : Tryz.prog.funcs.any Func.goes = false := by
  rw [← Array.any_toList, List.any_eq_false]
  intro fn hm
  have := List.all_eq_true.1 quiet_all fn hm
  simpa using this
theorem quiet_goes (f : FuncId) : Tryz.prog.goes f = false := by
  unfold Program.goes
  rw [quiet_any, Bool.and_false, Bool.or_false, List.any_eq_false]
  intro g _
  rw [quiet_at]
  simp
theorem card_goes : false = Rows.pageColoursRow.goesBy Tryz.prog := by
  have h : Tryz.prog.goesFrom Rows.pageColoursRow.func = false := by
    unfold Program.goesFrom
    rw [show Rows.pageColoursRow.func = "transclude/trclaw21.PageColours" from rfl, card_fn]
    rw [Option.any_some]
    exact quiet_goes 3
  unfold OpenClaim.goesBy Program.goesAt
  rw [h]
  rfl
end Go.Proofs.YtnhogklhegmjhaaGreatDoor
