/-
  Closed renderings of page Q, space 3.
-/
import Derived.Test.YtnhogklhegmjhaaGreatDoorShD3
set_option linter.all false
section
namespace Go.Sh
set_option maxRecDepth 10000
set_option linter.all false
theorem k_run3_0 : goodR (3, [65]) = true := by kernel_rfl
theorem k_run3_1 : goodR (3, [66]) = true := by kernel_rfl
theorem k_run3_2 : goodR (3, [65, 47, 66]) = true := by kernel_rfl
theorem k_run3_3 : goodR (3, [67]) = true := by kernel_rfl
theorem k_run3_4 : goodR (3, [84]) = true := by kernel_rfl
theorem k_run3_5 : goodR (3, [85, 47, 120]) = true := by kernel_rfl
theorem k_run3_6 : goodR (3, [65, 47, 66, 47, 99]) = true := by kernel_rfl
theorem k_run3_7 : goodR (3, [76, 111, 110, 103, 32, 110, 97, 109, 101]) = true := by kernel_rfl
theorem k_run3_8 : goodR (3, [49]) = true := by kernel_rfl
theorem k_run3_9 : goodR (3, [88]) = true := by kernel_rfl
theorem k_run3 : namesT.all (fun n => goodR (3, n)) = true := by
  simp only [namesT, List.all_cons, List.all_nil, Bool.and_true, Bool.and_eq_true]
  exact ⟨k_run3_0, k_run3_1, k_run3_2, k_run3_3, k_run3_4, k_run3_5, k_run3_6, k_run3_7, k_run3_8, k_run3_9⟩
end Go.Sh
end
