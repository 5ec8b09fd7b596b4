/-
  Closed renderings of page Q, space 2.
-/
import Derived.Test.YtnhogklhegmjhaaGreatDoorShD3
set_option linter.all false
section
namespace Go.Sh
set_option maxRecDepth 10000
set_option linter.all false
theorem k_run2_0 : goodR (2, [65]) = true := by kernel_rfl
theorem k_run2_1 : goodR (2, [66]) = true := by kernel_rfl
theorem k_run2_2 : goodR (2, [65, 47, 66]) = true := by kernel_rfl
theorem k_run2_3 : goodR (2, [67]) = true := by kernel_rfl
theorem k_run2_4 : goodR (2, [84]) = true := by kernel_rfl
theorem k_run2_5 : goodR (2, [85, 47, 120]) = true := by kernel_rfl
theorem k_run2_6 : goodR (2, [65, 47, 66, 47, 99]) = true := by kernel_rfl
theorem k_run2_7 : goodR (2, [76, 111, 110, 103, 32, 110, 97, 109, 101]) = true := by kernel_rfl
theorem k_run2_8 : goodR (2, [49]) = true := by kernel_rfl
theorem k_run2_9 : goodR (2, [88]) = true := by kernel_rfl
theorem k_run2 : namesT.all (fun n => goodR (2, n)) = true := by
  simp only [namesT, List.all_cons, List.all_nil, Bool.and_true, Bool.and_eq_true]
  exact ⟨k_run2_0, k_run2_1, k_run2_2, k_run2_3, k_run2_4, k_run2_5, k_run2_6, k_run2_7, k_run2_8, k_run2_9⟩
end Go.Sh
end
