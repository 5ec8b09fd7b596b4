/-
  Closed renderings of page Q, space 0.
-/
import Derived.Test.YtnhogklhegmjhaaGreatDoorShD3
set_option linter.all false
section
namespace Go.Sh
set_option maxRecDepth 10000
set_option linter.all false
theorem k_run0_0 : goodR (0, [65]) = true := by kernel_rfl
theorem k_run0_1 : goodR (0, [66]) = true := by kernel_rfl
theorem k_run0_2 : goodR (0, [65, 47, 66]) = true := by kernel_rfl
theorem k_run0_3 : goodR (0, [67]) = true := by kernel_rfl
theorem k_run0_4 : goodR (0, [84]) = true := by kernel_rfl
theorem k_run0_5 : goodR (0, [85, 47, 120]) = true := by kernel_rfl
theorem k_run0_6 : goodR (0, [65, 47, 66, 47, 99]) = true := by kernel_rfl
theorem k_run0_7 : goodR (0, [76, 111, 110, 103, 32, 110, 97, 109, 101]) = true := by kernel_rfl
theorem k_run0_8 : goodR (0, [49]) = true := by kernel_rfl
theorem k_run0_9 : goodR (0, [88]) = true := by kernel_rfl
theorem k_run0 : namesT.all (fun n => goodR (0, n)) = true := by
  simp only [namesT, List.all_cons, List.all_nil, Bool.and_true, Bool.and_eq_true]
  exact ⟨k_run0_0, k_run0_1, k_run0_2, k_run0_3, k_run0_4, k_run0_5, k_run0_6, k_run0_7, k_run0_8, k_run0_9⟩
end Go.Sh
end
