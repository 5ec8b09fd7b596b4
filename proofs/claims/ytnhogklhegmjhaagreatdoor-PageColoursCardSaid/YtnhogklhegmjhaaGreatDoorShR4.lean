/-
  Closed renderings of page Q, space 4.
-/
import Derived.Test.YtnhogklhegmjhaaGreatDoorShD3
set_option linter.all false
section
namespace Go.Sh
set_option maxRecDepth 10000
set_option linter.all false
theorem k_run4_0 : goodR (4, [65]) = true := by kernel_rfl
theorem k_run4_1 : goodR (4, [66]) = true := by kernel_rfl
theorem k_run4_2 : goodR (4, [65, 47, 66]) = true := by kernel_rfl
theorem k_run4_3 : goodR (4, [67]) = true := by kernel_rfl
theorem k_run4_4 : goodR (4, [84]) = true := by kernel_rfl
theorem k_run4_5 : goodR (4, [85, 47, 120]) = true := by kernel_rfl
theorem k_run4_6 : goodR (4, [65, 47, 66, 47, 99]) = true := by kernel_rfl
theorem k_run4_7 : goodR (4, [76, 111, 110, 103, 32, 110, 97, 109, 101]) = true := by kernel_rfl
theorem k_run4_8 : goodR (4, [49]) = true := by kernel_rfl
theorem k_run4_9 : goodR (4, [88]) = true := by kernel_rfl
theorem k_run4 : namesT.all (fun n => goodR (4, n)) = true := by
  simp only [namesT, List.all_cons, List.all_nil, Bool.and_true, Bool.and_eq_true]
  exact ⟨k_run4_0, k_run4_1, k_run4_2, k_run4_3, k_run4_4, k_run4_5, k_run4_6, k_run4_7, k_run4_8, k_run4_9⟩
end Go.Sh
end
