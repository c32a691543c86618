/- The document's JacIv: its rounds at 1 variables. -/
import Derived.Test.YtdlinjijccnaeaaJqR
namespace Go.Proofs.Ytdlinjijccnaeaa
open Go
set_option linter.unusedVariables false
set_option linter.unusedSimpArgs false
set_option maxRecDepth 100000

theorem rjCi_1_0 : RjCi 1 0 := fun _ _ _ _ _ _ _ _ _ _ _ _ _ => by kernel_rfl
theorem rjVi_1_0 : RjVi 1 0 := fun _ _ _ _ _ _ _ _ _ _ _ _ _ _ _ _ _ _ => by kernel_rfl
theorem rjCi_1_1 : RjCi 1 1 := fun _ _ _ _ _ _ _ _ _ _ _ _ _ => by kernel_rfl
theorem rjVi_1_1 : RjVi 1 1 := fun _ _ _ _ _ _ _ _ _ _ _ _ _ _ _ _ _ _ => by kernel_rfl
theorem rjOi_1_1_2 : RjOi 1 1 2 := fun _ _ _ _ _ _ _ _ _ _ _ _ _ _ _ _ _ _ _ _ _ _ _ _ _ _ => by kernel_rfl
theorem rjOi_1_1_3 : RjOi 1 1 3 := fun _ _ _ _ _ _ _ _ _ _ _ _ _ _ _ _ _ _ _ _ _ _ _ _ _ _ => by kernel_rfl
theorem rjOi_1_1_4 : RjOi 1 1 4 := fun _ _ _ _ _ _ _ _ _ _ _ _ _ _ _ _ _ _ _ _ _ _ _ _ _ _ => by kernel_rfl
theorem rjOi_1_1_5 : RjOi 1 1 5 := fun _ _ _ _ _ _ _ _ _ _ _ _ _ _ _ _ _ _ _ _ _ _ _ _ _ _ => by kernel_rfl
theorem rjCi_1_2 : RjCi 1 2 := fun _ _ _ _ _ _ _ _ _ _ _ _ _ => by kernel_rfl
theorem rjVi_1_2 : RjVi 1 2 := fun _ _ _ _ _ _ _ _ _ _ _ _ _ _ _ _ _ _ => by kernel_rfl
theorem rjOi_1_2_2 : RjOi 1 2 2 := fun _ _ _ _ _ _ _ _ _ _ _ _ _ _ _ _ _ _ _ _ _ _ _ _ _ _ => by kernel_rfl
theorem rjOi_1_2_3 : RjOi 1 2 3 := fun _ _ _ _ _ _ _ _ _ _ _ _ _ _ _ _ _ _ _ _ _ _ _ _ _ _ => by kernel_rfl
theorem rjOi_1_2_4 : RjOi 1 2 4 := fun _ _ _ _ _ _ _ _ _ _ _ _ _ _ _ _ _ _ _ _ _ _ _ _ _ _ => by kernel_rfl
theorem rjOi_1_2_5 : RjOi 1 2 5 := fun _ _ _ _ _ _ _ _ _ _ _ _ _ _ _ _ _ _ _ _ _ _ _ _ _ _ => by kernel_rfl
theorem rjCi_1_3 : RjCi 1 3 := fun _ _ _ _ _ _ _ _ _ _ _ _ _ => by kernel_rfl
theorem rjVi_1_3 : RjVi 1 3 := fun _ _ _ _ _ _ _ _ _ _ _ _ _ _ _ _ _ _ => by kernel_rfl
theorem rjOi_1_3_2 : RjOi 1 3 2 := fun _ _ _ _ _ _ _ _ _ _ _ _ _ _ _ _ _ _ _ _ _ _ _ _ _ _ => by kernel_rfl
theorem rjOi_1_3_3 : RjOi 1 3 3 := fun _ _ _ _ _ _ _ _ _ _ _ _ _ _ _ _ _ _ _ _ _ _ _ _ _ _ => by kernel_rfl
theorem rjOi_1_3_4 : RjOi 1 3 4 := fun _ _ _ _ _ _ _ _ _ _ _ _ _ _ _ _ _ _ _ _ _ _ _ _ _ _ => by kernel_rfl
theorem rjOi_1_3_5 : RjOi 1 3 5 := fun _ _ _ _ _ _ _ _ _ _ _ _ _ _ _ _ _ _ _ _ _ _ _ _ _ _ => by kernel_rfl
theorem rjCi_1_4 : RjCi 1 4 := fun _ _ _ _ _ _ _ _ _ _ _ _ _ => by kernel_rfl
theorem rjVi_1_4 : RjVi 1 4 := fun _ _ _ _ _ _ _ _ _ _ _ _ _ _ _ _ _ _ => by kernel_rfl
theorem rjOi_1_4_2 : RjOi 1 4 2 := fun _ _ _ _ _ _ _ _ _ _ _ _ _ _ _ _ _ _ _ _ _ _ _ _ _ _ => by kernel_rfl
theorem rjOi_1_4_3 : RjOi 1 4 3 := fun _ _ _ _ _ _ _ _ _ _ _ _ _ _ _ _ _ _ _ _ _ _ _ _ _ _ => by kernel_rfl
theorem rjOi_1_4_4 : RjOi 1 4 4 := fun _ _ _ _ _ _ _ _ _ _ _ _ _ _ _ _ _ _ _ _ _ _ _ _ _ _ => by kernel_rfl
theorem rjOi_1_4_5 : RjOi 1 4 5 := fun _ _ _ _ _ _ _ _ _ _ _ _ _ _ _ _ _ _ _ _ _ _ _ _ _ _ => by kernel_rfl
theorem rjCi_1_5 : RjCi 1 5 := fun _ _ _ _ _ _ _ _ _ _ _ _ _ => by kernel_rfl
theorem rjVi_1_5 : RjVi 1 5 := fun _ _ _ _ _ _ _ _ _ _ _ _ _ _ _ _ _ _ => by kernel_rfl
theorem rjOi_1_5_2 : RjOi 1 5 2 := fun _ _ _ _ _ _ _ _ _ _ _ _ _ _ _ _ _ _ _ _ _ _ _ _ _ _ => by kernel_rfl
theorem rjOi_1_5_3 : RjOi 1 5 3 := fun _ _ _ _ _ _ _ _ _ _ _ _ _ _ _ _ _ _ _ _ _ _ _ _ _ _ => by kernel_rfl
theorem rjOi_1_5_4 : RjOi 1 5 4 := fun _ _ _ _ _ _ _ _ _ _ _ _ _ _ _ _ _ _ _ _ _ _ _ _ _ _ => by kernel_rfl
theorem rjOi_1_5_5 : RjOi 1 5 5 := fun _ _ _ _ _ _ _ _ _ _ _ _ _ _ _ _ _ _ _ _ _ _ _ _ _ _ => by kernel_rfl
theorem rjCi_1_6 : RjCi 1 6 := fun _ _ _ _ _ _ _ _ _ _ _ _ _ => by kernel_rfl
theorem rjVi_1_6 : RjVi 1 6 := fun _ _ _ _ _ _ _ _ _ _ _ _ _ _ _ _ _ _ => by kernel_rfl
theorem rjOi_1_6_2 : RjOi 1 6 2 := fun _ _ _ _ _ _ _ _ _ _ _ _ _ _ _ _ _ _ _ _ _ _ _ _ _ _ => by kernel_rfl
theorem rjOi_1_6_3 : RjOi 1 6 3 := fun _ _ _ _ _ _ _ _ _ _ _ _ _ _ _ _ _ _ _ _ _ _ _ _ _ _ => by kernel_rfl
theorem rjOi_1_6_4 : RjOi 1 6 4 := fun _ _ _ _ _ _ _ _ _ _ _ _ _ _ _ _ _ _ _ _ _ _ _ _ _ _ => by kernel_rfl
theorem rjOi_1_6_5 : RjOi 1 6 5 := fun _ _ _ _ _ _ _ _ _ _ _ _ _ _ _ _ _ _ _ _ _ _ _ _ _ _ => by kernel_rfl
theorem rjCi_1_7 : RjCi 1 7 := fun _ _ _ _ _ _ _ _ _ _ _ _ _ => by kernel_rfl
theorem rjVi_1_7 : RjVi 1 7 := fun _ _ _ _ _ _ _ _ _ _ _ _ _ _ _ _ _ _ => by kernel_rfl
theorem rjOi_1_7_2 : RjOi 1 7 2 := fun _ _ _ _ _ _ _ _ _ _ _ _ _ _ _ _ _ _ _ _ _ _ _ _ _ _ => by kernel_rfl
theorem rjOi_1_7_3 : RjOi 1 7 3 := fun _ _ _ _ _ _ _ _ _ _ _ _ _ _ _ _ _ _ _ _ _ _ _ _ _ _ => by kernel_rfl
theorem rjOi_1_7_4 : RjOi 1 7 4 := fun _ _ _ _ _ _ _ _ _ _ _ _ _ _ _ _ _ _ _ _ _ _ _ _ _ _ => by kernel_rfl
theorem rjOi_1_7_5 : RjOi 1 7 5 := fun _ _ _ _ _ _ _ _ _ _ _ _ _ _ _ _ _ _ _ _ _ _ _ _ _ _ => by kernel_rfl
theorem rjCi_1_8 : RjCi 1 8 := fun _ _ _ _ _ _ _ _ _ _ _ _ _ => by kernel_rfl
theorem rjVi_1_8 : RjVi 1 8 := fun _ _ _ _ _ _ _ _ _ _ _ _ _ _ _ _ _ _ => by kernel_rfl
theorem rjOi_1_8_2 : RjOi 1 8 2 := fun _ _ _ _ _ _ _ _ _ _ _ _ _ _ _ _ _ _ _ _ _ _ _ _ _ _ => by kernel_rfl
theorem rjOi_1_8_3 : RjOi 1 8 3 := fun _ _ _ _ _ _ _ _ _ _ _ _ _ _ _ _ _ _ _ _ _ _ _ _ _ _ => by kernel_rfl
theorem rjOi_1_8_4 : RjOi 1 8 4 := fun _ _ _ _ _ _ _ _ _ _ _ _ _ _ _ _ _ _ _ _ _ _ _ _ _ _ => by kernel_rfl
theorem rjOi_1_8_5 : RjOi 1 8 5 := fun _ _ _ _ _ _ _ _ _ _ _ _ _ _ _ _ _ _ _ _ _ _ _ _ _ _ => by kernel_rfl
theorem rjCi_1_9 : RjCi 1 9 := fun _ _ _ _ _ _ _ _ _ _ _ _ _ => by kernel_rfl
theorem rjVi_1_9 : RjVi 1 9 := fun _ _ _ _ _ _ _ _ _ _ _ _ _ _ _ _ _ _ => by kernel_rfl
theorem rjOi_1_9_2 : RjOi 1 9 2 := fun _ _ _ _ _ _ _ _ _ _ _ _ _ _ _ _ _ _ _ _ _ _ _ _ _ _ => by kernel_rfl
theorem rjOi_1_9_3 : RjOi 1 9 3 := fun _ _ _ _ _ _ _ _ _ _ _ _ _ _ _ _ _ _ _ _ _ _ _ _ _ _ => by kernel_rfl
theorem rjOi_1_9_4 : RjOi 1 9 4 := fun _ _ _ _ _ _ _ _ _ _ _ _ _ _ _ _ _ _ _ _ _ _ _ _ _ _ => by kernel_rfl
theorem rjOi_1_9_5 : RjOi 1 9 5 := fun _ _ _ _ _ _ _ _ _ _ _ _ _ _ _ _ _ _ _ _ _ _ _ _ _ _ => by kernel_rfl
theorem rjCi_1_10 : RjCi 1 10 := fun _ _ _ _ _ _ _ _ _ _ _ _ _ => by kernel_rfl
theorem rjVi_1_10 : RjVi 1 10 := fun _ _ _ _ _ _ _ _ _ _ _ _ _ _ _ _ _ _ => by kernel_rfl
theorem rjOi_1_10_2 : RjOi 1 10 2 := fun _ _ _ _ _ _ _ _ _ _ _ _ _ _ _ _ _ _ _ _ _ _ _ _ _ _ => by kernel_rfl
theorem rjOi_1_10_3 : RjOi 1 10 3 := fun _ _ _ _ _ _ _ _ _ _ _ _ _ _ _ _ _ _ _ _ _ _ _ _ _ _ => by kernel_rfl
theorem rjOi_1_10_4 : RjOi 1 10 4 := fun _ _ _ _ _ _ _ _ _ _ _ _ _ _ _ _ _ _ _ _ _ _ _ _ _ _ => by kernel_rfl
theorem rjOi_1_10_5 : RjOi 1 10 5 := fun _ _ _ _ _ _ _ _ _ _ _ _ _ _ _ _ _ _ _ _ _ _ _ _ _ _ => by kernel_rfl
theorem rjCi_1_11 : RjCi 1 11 := fun _ _ _ _ _ _ _ _ _ _ _ _ _ => by kernel_rfl
theorem rjVi_1_11 : RjVi 1 11 := fun _ _ _ _ _ _ _ _ _ _ _ _ _ _ _ _ _ _ => by kernel_rfl
theorem rjOi_1_11_2 : RjOi 1 11 2 := fun _ _ _ _ _ _ _ _ _ _ _ _ _ _ _ _ _ _ _ _ _ _ _ _ _ _ => by kernel_rfl
theorem rjOi_1_11_3 : RjOi 1 11 3 := fun _ _ _ _ _ _ _ _ _ _ _ _ _ _ _ _ _ _ _ _ _ _ _ _ _ _ => by kernel_rfl
theorem rjOi_1_11_4 : RjOi 1 11 4 := fun _ _ _ _ _ _ _ _ _ _ _ _ _ _ _ _ _ _ _ _ _ _ _ _ _ _ => by kernel_rfl
theorem rjOi_1_11_5 : RjOi 1 11 5 := fun _ _ _ _ _ _ _ _ _ _ _ _ _ _ _ _ _ _ _ _ _ _ _ _ _ _ => by kernel_rfl
theorem rjEi_1_2 : RjEi 1 2 := fun _ _ _ _ _ _ => by kernel_rfl
theorem rjEi_1_3 : RjEi 1 3 := fun _ _ _ _ _ _ => by kernel_rfl
theorem rjEi_1_4 : RjEi 1 4 := fun _ _ _ _ _ _ => by kernel_rfl
theorem rjEi_1_5 : RjEi 1 5 := fun _ _ _ _ _ _ => by kernel_rfl
theorem rjEi_1_6 : RjEi 1 6 := fun _ _ _ _ _ _ => by kernel_rfl
theorem rjEi_1_7 : RjEi 1 7 := fun _ _ _ _ _ _ => by kernel_rfl
theorem rjEi_1_8 : RjEi 1 8 := fun _ _ _ _ _ _ => by kernel_rfl
theorem rjEi_1_9 : RjEi 1 9 := fun _ _ _ _ _ _ => by kernel_rfl
theorem rjEi_1_10 : RjEi 1 10 := fun _ _ _ _ _ _ => by kernel_rfl
theorem rjEi_1_11 : RjEi 1 11 := fun _ _ _ _ _ _ => by kernel_rfl
theorem rjEi_1_12 : RjEi 1 12 := fun _ _ _ _ _ _ => by kernel_rfl
theorem rjCi_1 : ∀ k, k < 12 → RjCi 1 k
  | 0, _ => rjCi_1_0
  | 1, _ => rjCi_1_1
  | 2, _ => rjCi_1_2
  | 3, _ => rjCi_1_3
  | 4, _ => rjCi_1_4
  | 5, _ => rjCi_1_5
  | 6, _ => rjCi_1_6
  | 7, _ => rjCi_1_7
  | 8, _ => rjCi_1_8
  | 9, _ => rjCi_1_9
  | 10, _ => rjCi_1_10
  | 11, _ => rjCi_1_11
  | n + 12, h => absurd h (by omega)
theorem rjVi_1 : ∀ k, k < 12 → RjVi 1 k
  | 0, _ => rjVi_1_0
  | 1, _ => rjVi_1_1
  | 2, _ => rjVi_1_2
  | 3, _ => rjVi_1_3
  | 4, _ => rjVi_1_4
  | 5, _ => rjVi_1_5
  | 6, _ => rjVi_1_6
  | 7, _ => rjVi_1_7
  | 8, _ => rjVi_1_8
  | 9, _ => rjVi_1_9
  | 10, _ => rjVi_1_10
  | 11, _ => rjVi_1_11
  | n + 12, h => absurd h (by omega)
theorem rjOi_1_K2 : ∀ k, 1 ≤ k → k < 12 → RjOi 1 k 2
  | 0, h, _ => absurd h (by omega)
  | 1, _, _ => rjOi_1_1_2
  | 2, _, _ => rjOi_1_2_2
  | 3, _, _ => rjOi_1_3_2
  | 4, _, _ => rjOi_1_4_2
  | 5, _, _ => rjOi_1_5_2
  | 6, _, _ => rjOi_1_6_2
  | 7, _, _ => rjOi_1_7_2
  | 8, _, _ => rjOi_1_8_2
  | 9, _, _ => rjOi_1_9_2
  | 10, _, _ => rjOi_1_10_2
  | 11, _, _ => rjOi_1_11_2
  | n + 12, _, h => absurd h (by omega)
theorem rjOi_1_K3 : ∀ k, 1 ≤ k → k < 12 → RjOi 1 k 3
  | 0, h, _ => absurd h (by omega)
  | 1, _, _ => rjOi_1_1_3
  | 2, _, _ => rjOi_1_2_3
  | 3, _, _ => rjOi_1_3_3
  | 4, _, _ => rjOi_1_4_3
  | 5, _, _ => rjOi_1_5_3
  | 6, _, _ => rjOi_1_6_3
  | 7, _, _ => rjOi_1_7_3
  | 8, _, _ => rjOi_1_8_3
  | 9, _, _ => rjOi_1_9_3
  | 10, _, _ => rjOi_1_10_3
  | 11, _, _ => rjOi_1_11_3
  | n + 12, _, h => absurd h (by omega)
theorem rjOi_1_K4 : ∀ k, 1 ≤ k → k < 12 → RjOi 1 k 4
  | 0, h, _ => absurd h (by omega)
  | 1, _, _ => rjOi_1_1_4
  | 2, _, _ => rjOi_1_2_4
  | 3, _, _ => rjOi_1_3_4
  | 4, _, _ => rjOi_1_4_4
  | 5, _, _ => rjOi_1_5_4
  | 6, _, _ => rjOi_1_6_4
  | 7, _, _ => rjOi_1_7_4
  | 8, _, _ => rjOi_1_8_4
  | 9, _, _ => rjOi_1_9_4
  | 10, _, _ => rjOi_1_10_4
  | 11, _, _ => rjOi_1_11_4
  | n + 12, _, h => absurd h (by omega)
theorem rjOi_1_K5 : ∀ k, 1 ≤ k → k < 12 → RjOi 1 k 5
  | 0, h, _ => absurd h (by omega)
  | 1, _, _ => rjOi_1_1_5
  | 2, _, _ => rjOi_1_2_5
  | 3, _, _ => rjOi_1_3_5
  | 4, _, _ => rjOi_1_4_5
  | 5, _, _ => rjOi_1_5_5
  | 6, _, _ => rjOi_1_6_5
  | 7, _, _ => rjOi_1_7_5
  | 8, _, _ => rjOi_1_8_5
  | 9, _, _ => rjOi_1_9_5
  | 10, _, _ => rjOi_1_10_5
  | 11, _, _ => rjOi_1_11_5
  | n + 12, _, h => absurd h (by omega)
theorem rjEi_1 : ∀ k, 2 ≤ k → k < 13 → RjEi 1 k
  | 0, h, _ => absurd h (by omega)
  | 1, h, _ => absurd h (by omega)
  | 2, _, _ => rjEi_1_2
  | 3, _, _ => rjEi_1_3
  | 4, _, _ => rjEi_1_4
  | 5, _, _ => rjEi_1_5
  | 6, _, _ => rjEi_1_6
  | 7, _, _ => rjEi_1_7
  | 8, _, _ => rjEi_1_8
  | 9, _, _ => rjEi_1_9
  | 10, _, _ => rjEi_1_10
  | 11, _, _ => rjEi_1_11
  | 12, _, _ => rjEi_1_12
  | n + 13, _, h => absurd h (by omega)

end Go.Proofs.Ytdlinjijccnaeaa
