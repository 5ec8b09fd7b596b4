/-
  Closed renderings of page Q, space 1.
-/
import Derived.Test.YtnhogklhegmjhaaGreatDoorShD3
set_option linter.all false
section
namespace Go.Sh
set_option maxRecDepth 10000
set_option linter.all false
theorem k_run1_0 : goodR (1, [65]) = true := by kernel_rfl
theorem k_run1_1 : goodR (1, [66]) = true := by kernel_rfl
theorem k_run1_2 : goodR (1, [65, 47, 66]) = true := by kernel_rfl
theorem k_run1_3 : goodR (1, [67]) = true := by kernel_rfl
theorem k_run1_4 : goodR (1, [84]) = true := by kernel_rfl
theorem k_run1_5 : goodR (1, [85, 47, 120]) = true := by kernel_rfl
theorem k_run1_6 : goodR (1, [65, 47, 66, 47, 99]) = true := by kernel_rfl
theorem k_run1_7 : goodR (1, [76, 111, 110, 103, 32, 110, 97, 109, 101]) = true := by kernel_rfl
theorem k_run1_8 : goodR (1, [49]) = true := by kernel_rfl
theorem k_run1_9 : goodR (1, [88]) = true := by kernel_rfl
theorem k_run1 : namesT.all (fun n => goodR (1, n)) = true := by
  simp only [namesT, List.all_cons, List.all_nil, Bool.and_true, Bool.and_eq_true]
  exact ⟨k_run1_0, k_run1_1, k_run1_2, k_run1_3, k_run1_4, k_run1_5, k_run1_6, k_run1_7, k_run1_8, k_run1_9⟩
end Go.Sh
end
