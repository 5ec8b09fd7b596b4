/-
  Closed renderings of page Q, space 5.
-/
import Derived.Test.YtnhogklhegmjhaaGreatDoorShD3
set_option linter.all false
section
namespace Go.Sh
set_option maxRecDepth 10000
set_option linter.all false
theorem k_run5_0 : goodR (5, [65]) = true := by kernel_rfl
theorem k_run5_1 : goodR (5, [66]) = true := by kernel_rfl
theorem k_run5_2 : goodR (5, [65, 47, 66]) = true := by kernel_rfl
theorem k_run5_3 : goodR (5, [67]) = true := by kernel_rfl
theorem k_run5_4 : goodR (5, [84]) = true := by kernel_rfl
theorem k_run5_5 : goodR (5, [85, 47, 120]) = true := by kernel_rfl
theorem k_run5_6 : goodR (5, [65, 47, 66, 47, 99]) = true := by kernel_rfl
theorem k_run5_7 : goodR (5, [76, 111, 110, 103, 32, 110, 97, 109, 101]) = true := by kernel_rfl
theorem k_run5_8 : goodR (5, [49]) = true := by kernel_rfl
theorem k_run5_9 : goodR (5, [88]) = true := by kernel_rfl
theorem k_run5 : namesT.all (fun n => goodR (5, n)) = true := by
  simp only [namesT, List.all_cons, List.all_nil, Bool.and_true, Bool.and_eq_true]
  exact ⟨k_run5_0, k_run5_1, k_run5_2, k_run5_3, k_run5_4, k_run5_5, k_run5_6, k_run5_7, k_run5_8, k_run5_9⟩
end Go.Sh
end
