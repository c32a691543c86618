/- The document's JacIv: its rounds at 3 variables. -/
import Derived.Test.YtdlinjijccnaeaaJqR
namespace Go.Proofs.Ytdlinjijccnaeaa
open Go
set_option linter.unusedVariables false
set_option linter.unusedSimpArgs false
set_option maxRecDepth 100000

theorem rjCi_3_0 : RjCi 3 0 := fun _ _ _ _ _ _ _ _ _ _ _ _ _ => by kernel_rfl
theorem rjVi_3_0 : RjVi 3 0 := fun _ _ _ _ _ _ _ _ _ _ _ _ _ _ _ _ _ _ => by kernel_rfl
theorem rjCi_3_1 : RjCi 3 1 := fun _ _ _ _ _ _ _ _ _ _ _ _ _ => by kernel_rfl
theorem rjVi_3_1 : RjVi 3 1 := fun _ _ _ _ _ _ _ _ _ _ _ _ _ _ _ _ _ _ => by kernel_rfl
theorem rjOi_3_1_2 : RjOi 3 1 2 := fun _ _ _ _ _ _ _ _ _ _ _ _ _ _ _ _ _ _ _ _ _ _ _ _ _ _ => by kernel_rfl
theorem rjOi_3_1_3 : RjOi 3 1 3 := fun _ _ _ _ _ _ _ _ _ _ _ _ _ _ _ _ _ _ _ _ _ _ _ _ _ _ => by kernel_rfl
theorem rjOi_3_1_4 : RjOi 3 1 4 := fun _ _ _ _ _ _ _ _ _ _ _ _ _ _ _ _ _ _ _ _ _ _ _ _ _ _ => by kernel_rfl
theorem rjOi_3_1_5 : RjOi 3 1 5 := fun _ _ _ _ _ _ _ _ _ _ _ _ _ _ _ _ _ _ _ _ _ _ _ _ _ _ => by kernel_rfl
theorem rjCi_3_2 : RjCi 3 2 := fun _ _ _ _ _ _ _ _ _ _ _ _ _ => by kernel_rfl
theorem rjVi_3_2 : RjVi 3 2 := fun _ _ _ _ _ _ _ _ _ _ _ _ _ _ _ _ _ _ => by kernel_rfl
theorem rjOi_3_2_2 : RjOi 3 2 2 := fun _ _ _ _ _ _ _ _ _ _ _ _ _ _ _ _ _ _ _ _ _ _ _ _ _ _ => by kernel_rfl
theorem rjOi_3_2_3 : RjOi 3 2 3 := fun _ _ _ _ _ _ _ _ _ _ _ _ _ _ _ _ _ _ _ _ _ _ _ _ _ _ => by kernel_rfl
theorem rjOi_3_2_4 : RjOi 3 2 4 := fun _ _ _ _ _ _ _ _ _ _ _ _ _ _ _ _ _ _ _ _ _ _ _ _ _ _ => by kernel_rfl
theorem rjOi_3_2_5 : RjOi 3 2 5 := fun _ _ _ _ _ _ _ _ _ _ _ _ _ _ _ _ _ _ _ _ _ _ _ _ _ _ => by kernel_rfl
theorem rjCi_3_3 : RjCi 3 3 := fun _ _ _ _ _ _ _ _ _ _ _ _ _ => by kernel_rfl
theorem rjVi_3_3 : RjVi 3 3 := fun _ _ _ _ _ _ _ _ _ _ _ _ _ _ _ _ _ _ => by kernel_rfl
theorem rjOi_3_3_2 : RjOi 3 3 2 := fun _ _ _ _ _ _ _ _ _ _ _ _ _ _ _ _ _ _ _ _ _ _ _ _ _ _ => by kernel_rfl
theorem rjOi_3_3_3 : RjOi 3 3 3 := fun _ _ _ _ _ _ _ _ _ _ _ _ _ _ _ _ _ _ _ _ _ _ _ _ _ _ => by kernel_rfl
theorem rjOi_3_3_4 : RjOi 3 3 4 := fun _ _ _ _ _ _ _ _ _ _ _ _ _ _ _ _ _ _ _ _ _ _ _ _ _ _ => by kernel_rfl
theorem rjOi_3_3_5 : RjOi 3 3 5 := fun _ _ _ _ _ _ _ _ _ _ _ _ _ _ _ _ _ _ _ _ _ _ _ _ _ _ => by kernel_rfl
theorem rjCi_3_4 : RjCi 3 4 := fun _ _ _ _ _ _ _ _ _ _ _ _ _ => by kernel_rfl
theorem rjVi_3_4 : RjVi 3 4 := fun _ _ _ _ _ _ _ _ _ _ _ _ _ _ _ _ _ _ => by kernel_rfl
theorem rjOi_3_4_2 : RjOi 3 4 2 := fun _ _ _ _ _ _ _ _ _ _ _ _ _ _ _ _ _ _ _ _ _ _ _ _ _ _ => by kernel_rfl
theorem rjOi_3_4_3 : RjOi 3 4 3 := fun _ _ _ _ _ _ _ _ _ _ _ _ _ _ _ _ _ _ _ _ _ _ _ _ _ _ => by kernel_rfl
theorem rjOi_3_4_4 : RjOi 3 4 4 := fun _ _ _ _ _ _ _ _ _ _ _ _ _ _ _ _ _ _ _ _ _ _ _ _ _ _ => by kernel_rfl
theorem rjOi_3_4_5 : RjOi 3 4 5 := fun _ _ _ _ _ _ _ _ _ _ _ _ _ _ _ _ _ _ _ _ _ _ _ _ _ _ => by kernel_rfl
theorem rjCi_3_5 : RjCi 3 5 := fun _ _ _ _ _ _ _ _ _ _ _ _ _ => by kernel_rfl
theorem rjVi_3_5 : RjVi 3 5 := fun _ _ _ _ _ _ _ _ _ _ _ _ _ _ _ _ _ _ => by kernel_rfl
theorem rjOi_3_5_2 : RjOi 3 5 2 := fun _ _ _ _ _ _ _ _ _ _ _ _ _ _ _ _ _ _ _ _ _ _ _ _ _ _ => by kernel_rfl
theorem rjOi_3_5_3 : RjOi 3 5 3 := fun _ _ _ _ _ _ _ _ _ _ _ _ _ _ _ _ _ _ _ _ _ _ _ _ _ _ => by kernel_rfl
theorem rjOi_3_5_4 : RjOi 3 5 4 := fun _ _ _ _ _ _ _ _ _ _ _ _ _ _ _ _ _ _ _ _ _ _ _ _ _ _ => by kernel_rfl
theorem rjOi_3_5_5 : RjOi 3 5 5 := fun _ _ _ _ _ _ _ _ _ _ _ _ _ _ _ _ _ _ _ _ _ _ _ _ _ _ => by kernel_rfl
theorem rjCi_3_6 : RjCi 3 6 := fun _ _ _ _ _ _ _ _ _ _ _ _ _ => by kernel_rfl
theorem rjVi_3_6 : RjVi 3 6 := fun _ _ _ _ _ _ _ _ _ _ _ _ _ _ _ _ _ _ => by kernel_rfl
theorem rjOi_3_6_2 : RjOi 3 6 2 := fun _ _ _ _ _ _ _ _ _ _ _ _ _ _ _ _ _ _ _ _ _ _ _ _ _ _ => by kernel_rfl
theorem rjOi_3_6_3 : RjOi 3 6 3 := fun _ _ _ _ _ _ _ _ _ _ _ _ _ _ _ _ _ _ _ _ _ _ _ _ _ _ => by kernel_rfl
theorem rjOi_3_6_4 : RjOi 3 6 4 := fun _ _ _ _ _ _ _ _ _ _ _ _ _ _ _ _ _ _ _ _ _ _ _ _ _ _ => by kernel_rfl
theorem rjOi_3_6_5 : RjOi 3 6 5 := fun _ _ _ _ _ _ _ _ _ _ _ _ _ _ _ _ _ _ _ _ _ _ _ _ _ _ => by kernel_rfl
theorem rjCi_3_7 : RjCi 3 7 := fun _ _ _ _ _ _ _ _ _ _ _ _ _ => by kernel_rfl
theorem rjVi_3_7 : RjVi 3 7 := fun _ _ _ _ _ _ _ _ _ _ _ _ _ _ _ _ _ _ => by kernel_rfl
theorem rjOi_3_7_2 : RjOi 3 7 2 := fun _ _ _ _ _ _ _ _ _ _ _ _ _ _ _ _ _ _ _ _ _ _ _ _ _ _ => by kernel_rfl
theorem rjOi_3_7_3 : RjOi 3 7 3 := fun _ _ _ _ _ _ _ _ _ _ _ _ _ _ _ _ _ _ _ _ _ _ _ _ _ _ => by kernel_rfl
theorem rjOi_3_7_4 : RjOi 3 7 4 := fun _ _ _ _ _ _ _ _ _ _ _ _ _ _ _ _ _ _ _ _ _ _ _ _ _ _ => by kernel_rfl
theorem rjOi_3_7_5 : RjOi 3 7 5 := fun _ _ _ _ _ _ _ _ _ _ _ _ _ _ _ _ _ _ _ _ _ _ _ _ _ _ => by kernel_rfl
theorem rjCi_3_8 : RjCi 3 8 := fun _ _ _ _ _ _ _ _ _ _ _ _ _ => by kernel_rfl
theorem rjVi_3_8 : RjVi 3 8 := fun _ _ _ _ _ _ _ _ _ _ _ _ _ _ _ _ _ _ => by kernel_rfl
theorem rjOi_3_8_2 : RjOi 3 8 2 := fun _ _ _ _ _ _ _ _ _ _ _ _ _ _ _ _ _ _ _ _ _ _ _ _ _ _ => by kernel_rfl
theorem rjOi_3_8_3 : RjOi 3 8 3 := fun _ _ _ _ _ _ _ _ _ _ _ _ _ _ _ _ _ _ _ _ _ _ _ _ _ _ => by kernel_rfl
theorem rjOi_3_8_4 : RjOi 3 8 4 := fun _ _ _ _ _ _ _ _ _ _ _ _ _ _ _ _ _ _ _ _ _ _ _ _ _ _ => by kernel_rfl
theorem rjOi_3_8_5 : RjOi 3 8 5 := fun _ _ _ _ _ _ _ _ _ _ _ _ _ _ _ _ _ _ _ _ _ _ _ _ _ _ => by kernel_rfl
theorem rjCi_3_9 : RjCi 3 9 := fun _ _ _ _ _ _ _ _ _ _ _ _ _ => by kernel_rfl
theorem rjVi_3_9 : RjVi 3 9 := fun _ _ _ _ _ _ _ _ _ _ _ _ _ _ _ _ _ _ => by kernel_rfl
theorem rjOi_3_9_2 : RjOi 3 9 2 := fun _ _ _ _ _ _ _ _ _ _ _ _ _ _ _ _ _ _ _ _ _ _ _ _ _ _ => by kernel_rfl
theorem rjOi_3_9_3 : RjOi 3 9 3 := fun _ _ _ _ _ _ _ _ _ _ _ _ _ _ _ _ _ _ _ _ _ _ _ _ _ _ => by kernel_rfl
theorem rjOi_3_9_4 : RjOi 3 9 4 := fun _ _ _ _ _ _ _ _ _ _ _ _ _ _ _ _ _ _ _ _ _ _ _ _ _ _ => by kernel_rfl
theorem rjOi_3_9_5 : RjOi 3 9 5 := fun _ _ _ _ _ _ _ _ _ _ _ _ _ _ _ _ _ _ _ _ _ _ _ _ _ _ => by kernel_rfl
theorem rjCi_3_10 : RjCi 3 10 := fun _ _ _ _ _ _ _ _ _ _ _ _ _ => by kernel_rfl
theorem rjVi_3_10 : RjVi 3 10 := fun _ _ _ _ _ _ _ _ _ _ _ _ _ _ _ _ _ _ => by kernel_rfl
theorem rjOi_3_10_2 : RjOi 3 10 2 := fun _ _ _ _ _ _ _ _ _ _ _ _ _ _ _ _ _ _ _ _ _ _ _ _ _ _ => by kernel_rfl
theorem rjOi_3_10_3 : RjOi 3 10 3 := fun _ _ _ _ _ _ _ _ _ _ _ _ _ _ _ _ _ _ _ _ _ _ _ _ _ _ => by kernel_rfl
theorem rjOi_3_10_4 : RjOi 3 10 4 := fun _ _ _ _ _ _ _ _ _ _ _ _ _ _ _ _ _ _ _ _ _ _ _ _ _ _ => by kernel_rfl
theorem rjOi_3_10_5 : RjOi 3 10 5 := fun _ _ _ _ _ _ _ _ _ _ _ _ _ _ _ _ _ _ _ _ _ _ _ _ _ _ => by kernel_rfl
theorem rjCi_3_11 : RjCi 3 11 := fun _ _ _ _ _ _ _ _ _ _ _ _ _ => by kernel_rfl
theorem rjVi_3_11 : RjVi 3 11 := fun _ _ _ _ _ _ _ _ _ _ _ _ _ _ _ _ _ _ => by kernel_rfl
theorem rjOi_3_11_2 : RjOi 3 11 2 := fun _ _ _ _ _ _ _ _ _ _ _ _ _ _ _ _ _ _ _ _ _ _ _ _ _ _ => by kernel_rfl
theorem rjOi_3_11_3 : RjOi 3 11 3 := fun _ _ _ _ _ _ _ _ _ _ _ _ _ _ _ _ _ _ _ _ _ _ _ _ _ _ => by kernel_rfl
theorem rjOi_3_11_4 : RjOi 3 11 4 := fun _ _ _ _ _ _ _ _ _ _ _ _ _ _ _ _ _ _ _ _ _ _ _ _ _ _ => by kernel_rfl
theorem rjOi_3_11_5 : RjOi 3 11 5 := fun _ _ _ _ _ _ _ _ _ _ _ _ _ _ _ _ _ _ _ _ _ _ _ _ _ _ => by kernel_rfl
theorem rjEi_3_2 : RjEi 3 2 := fun _ _ _ _ _ _ => by kernel_rfl
theorem rjEi_3_3 : RjEi 3 3 := fun _ _ _ _ _ _ => by kernel_rfl
theorem rjEi_3_4 : RjEi 3 4 := fun _ _ _ _ _ _ => by kernel_rfl
theorem rjEi_3_5 : RjEi 3 5 := fun _ _ _ _ _ _ => by kernel_rfl
theorem rjEi_3_6 : RjEi 3 6 := fun _ _ _ _ _ _ => by kernel_rfl
theorem rjEi_3_7 : RjEi 3 7 := fun _ _ _ _ _ _ => by kernel_rfl
theorem rjEi_3_8 : RjEi 3 8 := fun _ _ _ _ _ _ => by kernel_rfl
theorem rjEi_3_9 : RjEi 3 9 := fun _ _ _ _ _ _ => by kernel_rfl
theorem rjEi_3_10 : RjEi 3 10 := fun _ _ _ _ _ _ => by kernel_rfl
theorem rjEi_3_11 : RjEi 3 11 := fun _ _ _ _ _ _ => by kernel_rfl
theorem rjEi_3_12 : RjEi 3 12 := fun _ _ _ _ _ _ => by kernel_rfl
theorem rjCi_3 : ∀ k, k < 12 → RjCi 3 k
  | 0, _ => rjCi_3_0
  | 1, _ => rjCi_3_1
  | 2, _ => rjCi_3_2
  | 3, _ => rjCi_3_3
  | 4, _ => rjCi_3_4
  | 5, _ => rjCi_3_5
  | 6, _ => rjCi_3_6
  | 7, _ => rjCi_3_7
  | 8, _ => rjCi_3_8
  | 9, _ => rjCi_3_9
  | 10, _ => rjCi_3_10
  | 11, _ => rjCi_3_11
  | n + 12, h => absurd h (by omega)
theorem rjVi_3 : ∀ k, k < 12 → RjVi 3 k
  | 0, _ => rjVi_3_0
  | 1, _ => rjVi_3_1
  | 2, _ => rjVi_3_2
  | 3, _ => rjVi_3_3
  | 4, _ => rjVi_3_4
  | 5, _ => rjVi_3_5
  | 6, _ => rjVi_3_6
  | 7, _ => rjVi_3_7
  | 8, _ => rjVi_3_8
  | 9, _ => rjVi_3_9
  | 10, _ => rjVi_3_10
  | 11, _ => rjVi_3_11
  | n + 12, h => absurd h (by omega)
theorem rjOi_3_K2 : ∀ k, 1 ≤ k → k < 12 → RjOi 3 k 2
  | 0, h, _ => absurd h (by omega)
  | 1, _, _ => rjOi_3_1_2
  | 2, _, _ => rjOi_3_2_2
  | 3, _, _ => rjOi_3_3_2
  | 4, _, _ => rjOi_3_4_2
  | 5, _, _ => rjOi_3_5_2
  | 6, _, _ => rjOi_3_6_2
  | 7, _, _ => rjOi_3_7_2
  | 8, _, _ => rjOi_3_8_2
  | 9, _, _ => rjOi_3_9_2
  | 10, _, _ => rjOi_3_10_2
  | 11, _, _ => rjOi_3_11_2
  | n + 12, _, h => absurd h (by omega)
theorem rjOi_3_K3 : ∀ k, 1 ≤ k → k < 12 → RjOi 3 k 3
  | 0, h, _ => absurd h (by omega)
  | 1, _, _ => rjOi_3_1_3
  | 2, _, _ => rjOi_3_2_3
  | 3, _, _ => rjOi_3_3_3
  | 4, _, _ => rjOi_3_4_3
  | 5, _, _ => rjOi_3_5_3
  | 6, _, _ => rjOi_3_6_3
  | 7, _, _ => rjOi_3_7_3
  | 8, _, _ => rjOi_3_8_3
  | 9, _, _ => rjOi_3_9_3
  | 10, _, _ => rjOi_3_10_3
  | 11, _, _ => rjOi_3_11_3
  | n + 12, _, h => absurd h (by omega)
theorem rjOi_3_K4 : ∀ k, 1 ≤ k → k < 12 → RjOi 3 k 4
  | 0, h, _ => absurd h (by omega)
  | 1, _, _ => rjOi_3_1_4
  | 2, _, _ => rjOi_3_2_4
  | 3, _, _ => rjOi_3_3_4
  | 4, _, _ => rjOi_3_4_4
  | 5, _, _ => rjOi_3_5_4
  | 6, _, _ => rjOi_3_6_4
  | 7, _, _ => rjOi_3_7_4
  | 8, _, _ => rjOi_3_8_4
  | 9, _, _ => rjOi_3_9_4
  | 10, _, _ => rjOi_3_10_4
  | 11, _, _ => rjOi_3_11_4
  | n + 12, _, h => absurd h (by omega)
theorem rjOi_3_K5 : ∀ k, 1 ≤ k → k < 12 → RjOi 3 k 5
  | 0, h, _ => absurd h (by omega)
  | 1, _, _ => rjOi_3_1_5
  | 2, _, _ => rjOi_3_2_5
  | 3, _, _ => rjOi_3_3_5
  | 4, _, _ => rjOi_3_4_5
  | 5, _, _ => rjOi_3_5_5
  | 6, _, _ => rjOi_3_6_5
  | 7, _, _ => rjOi_3_7_5
  | 8, _, _ => rjOi_3_8_5
  | 9, _, _ => rjOi_3_9_5
  | 10, _, _ => rjOi_3_10_5
  | 11, _, _ => rjOi_3_11_5
  | n + 12, _, h => absurd h (by omega)
theorem rjEi_3 : ∀ k, 2 ≤ k → k < 13 → RjEi 3 k
  | 0, h, _ => absurd h (by omega)
  | 1, h, _ => absurd h (by omega)
  | 2, _, _ => rjEi_3_2
  | 3, _, _ => rjEi_3_3
  | 4, _, _ => rjEi_3_4
  | 5, _, _ => rjEi_3_5
  | 6, _, _ => rjEi_3_6
  | 7, _, _ => rjEi_3_7
  | 8, _, _ => rjEi_3_8
  | 9, _, _ => rjEi_3_9
  | 10, _, _ => rjEi_3_10
  | 11, _, _ => rjEi_3_11
  | 12, _, _ => rjEi_3_12
  | n + 13, _, h => absurd h (by omega)

end Go.Proofs.Ytdlinjijccnaeaa
