/- The document's JacIv: its rounds at 2 variables. -/
import Derived.Test.YtdlinjijccnaeaaJqR
namespace Go.Proofs.Ytdlinjijccnaeaa
open Go
set_option linter.unusedVariables false
set_option linter.unusedSimpArgs false
set_option maxRecDepth 100000

theorem rjCi_2_0 : RjCi 2 0 := fun _ _ _ _ _ _ _ _ _ _ _ _ _ => by kernel_rfl
theorem rjVi_2_0 : RjVi 2 0 := fun _ _ _ _ _ _ _ _ _ _ _ _ _ _ _ _ _ _ => by kernel_rfl
theorem rjCi_2_1 : RjCi 2 1 := fun _ _ _ _ _ _ _ _ _ _ _ _ _ => by kernel_rfl
theorem rjVi_2_1 : RjVi 2 1 := fun _ _ _ _ _ _ _ _ _ _ _ _ _ _ _ _ _ _ => by kernel_rfl
theorem rjOi_2_1_2 : RjOi 2 1 2 := fun _ _ _ _ _ _ _ _ _ _ _ _ _ _ _ _ _ _ _ _ _ _ _ _ _ _ => by kernel_rfl
theorem rjOi_2_1_3 : RjOi 2 1 3 := fun _ _ _ _ _ _ _ _ _ _ _ _ _ _ _ _ _ _ _ _ _ _ _ _ _ _ => by kernel_rfl
theorem rjOi_2_1_4 : RjOi 2 1 4 := fun _ _ _ _ _ _ _ _ _ _ _ _ _ _ _ _ _ _ _ _ _ _ _ _ _ _ => by kernel_rfl
theorem rjOi_2_1_5 : RjOi 2 1 5 := fun _ _ _ _ _ _ _ _ _ _ _ _ _ _ _ _ _ _ _ _ _ _ _ _ _ _ => by kernel_rfl
theorem rjCi_2_2 : RjCi 2 2 := fun _ _ _ _ _ _ _ _ _ _ _ _ _ => by kernel_rfl
theorem rjVi_2_2 : RjVi 2 2 := fun _ _ _ _ _ _ _ _ _ _ _ _ _ _ _ _ _ _ => by kernel_rfl
theorem rjOi_2_2_2 : RjOi 2 2 2 := fun _ _ _ _ _ _ _ _ _ _ _ _ _ _ _ _ _ _ _ _ _ _ _ _ _ _ => by kernel_rfl
theorem rjOi_2_2_3 : RjOi 2 2 3 := fun _ _ _ _ _ _ _ _ _ _ _ _ _ _ _ _ _ _ _ _ _ _ _ _ _ _ => by kernel_rfl
theorem rjOi_2_2_4 : RjOi 2 2 4 := fun _ _ _ _ _ _ _ _ _ _ _ _ _ _ _ _ _ _ _ _ _ _ _ _ _ _ => by kernel_rfl
theorem rjOi_2_2_5 : RjOi 2 2 5 := fun _ _ _ _ _ _ _ _ _ _ _ _ _ _ _ _ _ _ _ _ _ _ _ _ _ _ => by kernel_rfl
theorem rjCi_2_3 : RjCi 2 3 := fun _ _ _ _ _ _ _ _ _ _ _ _ _ => by kernel_rfl
theorem rjVi_2_3 : RjVi 2 3 := fun _ _ _ _ _ _ _ _ _ _ _ _ _ _ _ _ _ _ => by kernel_rfl
theorem rjOi_2_3_2 : RjOi 2 3 2 := fun _ _ _ _ _ _ _ _ _ _ _ _ _ _ _ _ _ _ _ _ _ _ _ _ _ _ => by kernel_rfl
theorem rjOi_2_3_3 : RjOi 2 3 3 := fun _ _ _ _ _ _ _ _ _ _ _ _ _ _ _ _ _ _ _ _ _ _ _ _ _ _ => by kernel_rfl
theorem rjOi_2_3_4 : RjOi 2 3 4 := fun _ _ _ _ _ _ _ _ _ _ _ _ _ _ _ _ _ _ _ _ _ _ _ _ _ _ => by kernel_rfl
theorem rjOi_2_3_5 : RjOi 2 3 5 := fun _ _ _ _ _ _ _ _ _ _ _ _ _ _ _ _ _ _ _ _ _ _ _ _ _ _ => by kernel_rfl
theorem rjCi_2_4 : RjCi 2 4 := fun _ _ _ _ _ _ _ _ _ _ _ _ _ => by kernel_rfl
theorem rjVi_2_4 : RjVi 2 4 := fun _ _ _ _ _ _ _ _ _ _ _ _ _ _ _ _ _ _ => by kernel_rfl
theorem rjOi_2_4_2 : RjOi 2 4 2 := fun _ _ _ _ _ _ _ _ _ _ _ _ _ _ _ _ _ _ _ _ _ _ _ _ _ _ => by kernel_rfl
theorem rjOi_2_4_3 : RjOi 2 4 3 := fun _ _ _ _ _ _ _ _ _ _ _ _ _ _ _ _ _ _ _ _ _ _ _ _ _ _ => by kernel_rfl
theorem rjOi_2_4_4 : RjOi 2 4 4 := fun _ _ _ _ _ _ _ _ _ _ _ _ _ _ _ _ _ _ _ _ _ _ _ _ _ _ => by kernel_rfl
theorem rjOi_2_4_5 : RjOi 2 4 5 := fun _ _ _ _ _ _ _ _ _ _ _ _ _ _ _ _ _ _ _ _ _ _ _ _ _ _ => by kernel_rfl
theorem rjCi_2_5 : RjCi 2 5 := fun _ _ _ _ _ _ _ _ _ _ _ _ _ => by kernel_rfl
theorem rjVi_2_5 : RjVi 2 5 := fun _ _ _ _ _ _ _ _ _ _ _ _ _ _ _ _ _ _ => by kernel_rfl
theorem rjOi_2_5_2 : RjOi 2 5 2 := fun _ _ _ _ _ _ _ _ _ _ _ _ _ _ _ _ _ _ _ _ _ _ _ _ _ _ => by kernel_rfl
theorem rjOi_2_5_3 : RjOi 2 5 3 := fun _ _ _ _ _ _ _ _ _ _ _ _ _ _ _ _ _ _ _ _ _ _ _ _ _ _ => by kernel_rfl
theorem rjOi_2_5_4 : RjOi 2 5 4 := fun _ _ _ _ _ _ _ _ _ _ _ _ _ _ _ _ _ _ _ _ _ _ _ _ _ _ => by kernel_rfl
theorem rjOi_2_5_5 : RjOi 2 5 5 := fun _ _ _ _ _ _ _ _ _ _ _ _ _ _ _ _ _ _ _ _ _ _ _ _ _ _ => by kernel_rfl
theorem rjCi_2_6 : RjCi 2 6 := fun _ _ _ _ _ _ _ _ _ _ _ _ _ => by kernel_rfl
theorem rjVi_2_6 : RjVi 2 6 := fun _ _ _ _ _ _ _ _ _ _ _ _ _ _ _ _ _ _ => by kernel_rfl
theorem rjOi_2_6_2 : RjOi 2 6 2 := fun _ _ _ _ _ _ _ _ _ _ _ _ _ _ _ _ _ _ _ _ _ _ _ _ _ _ => by kernel_rfl
theorem rjOi_2_6_3 : RjOi 2 6 3 := fun _ _ _ _ _ _ _ _ _ _ _ _ _ _ _ _ _ _ _ _ _ _ _ _ _ _ => by kernel_rfl
theorem rjOi_2_6_4 : RjOi 2 6 4 := fun _ _ _ _ _ _ _ _ _ _ _ _ _ _ _ _ _ _ _ _ _ _ _ _ _ _ => by kernel_rfl
theorem rjOi_2_6_5 : RjOi 2 6 5 := fun _ _ _ _ _ _ _ _ _ _ _ _ _ _ _ _ _ _ _ _ _ _ _ _ _ _ => by kernel_rfl
theorem rjCi_2_7 : RjCi 2 7 := fun _ _ _ _ _ _ _ _ _ _ _ _ _ => by kernel_rfl
theorem rjVi_2_7 : RjVi 2 7 := fun _ _ _ _ _ _ _ _ _ _ _ _ _ _ _ _ _ _ => by kernel_rfl
theorem rjOi_2_7_2 : RjOi 2 7 2 := fun _ _ _ _ _ _ _ _ _ _ _ _ _ _ _ _ _ _ _ _ _ _ _ _ _ _ => by kernel_rfl
theorem rjOi_2_7_3 : RjOi 2 7 3 := fun _ _ _ _ _ _ _ _ _ _ _ _ _ _ _ _ _ _ _ _ _ _ _ _ _ _ => by kernel_rfl
theorem rjOi_2_7_4 : RjOi 2 7 4 := fun _ _ _ _ _ _ _ _ _ _ _ _ _ _ _ _ _ _ _ _ _ _ _ _ _ _ => by kernel_rfl
theorem rjOi_2_7_5 : RjOi 2 7 5 := fun _ _ _ _ _ _ _ _ _ _ _ _ _ _ _ _ _ _ _ _ _ _ _ _ _ _ => by kernel_rfl
theorem rjCi_2_8 : RjCi 2 8 := fun _ _ _ _ _ _ _ _ _ _ _ _ _ => by kernel_rfl
theorem rjVi_2_8 : RjVi 2 8 := fun _ _ _ _ _ _ _ _ _ _ _ _ _ _ _ _ _ _ => by kernel_rfl
theorem rjOi_2_8_2 : RjOi 2 8 2 := fun _ _ _ _ _ _ _ _ _ _ _ _ _ _ _ _ _ _ _ _ _ _ _ _ _ _ => by kernel_rfl
theorem rjOi_2_8_3 : RjOi 2 8 3 := fun _ _ _ _ _ _ _ _ _ _ _ _ _ _ _ _ _ _ _ _ _ _ _ _ _ _ => by kernel_rfl
theorem rjOi_2_8_4 : RjOi 2 8 4 := fun _ _ _ _ _ _ _ _ _ _ _ _ _ _ _ _ _ _ _ _ _ _ _ _ _ _ => by kernel_rfl
theorem rjOi_2_8_5 : RjOi 2 8 5 := fun _ _ _ _ _ _ _ _ _ _ _ _ _ _ _ _ _ _ _ _ _ _ _ _ _ _ => by kernel_rfl
theorem rjCi_2_9 : RjCi 2 9 := fun _ _ _ _ _ _ _ _ _ _ _ _ _ => by kernel_rfl
theorem rjVi_2_9 : RjVi 2 9 := fun _ _ _ _ _ _ _ _ _ _ _ _ _ _ _ _ _ _ => by kernel_rfl
theorem rjOi_2_9_2 : RjOi 2 9 2 := fun _ _ _ _ _ _ _ _ _ _ _ _ _ _ _ _ _ _ _ _ _ _ _ _ _ _ => by kernel_rfl
theorem rjOi_2_9_3 : RjOi 2 9 3 := fun _ _ _ _ _ _ _ _ _ _ _ _ _ _ _ _ _ _ _ _ _ _ _ _ _ _ => by kernel_rfl
theorem rjOi_2_9_4 : RjOi 2 9 4 := fun _ _ _ _ _ _ _ _ _ _ _ _ _ _ _ _ _ _ _ _ _ _ _ _ _ _ => by kernel_rfl
theorem rjOi_2_9_5 : RjOi 2 9 5 := fun _ _ _ _ _ _ _ _ _ _ _ _ _ _ _ _ _ _ _ _ _ _ _ _ _ _ => by kernel_rfl
theorem rjCi_2_10 : RjCi 2 10 := fun _ _ _ _ _ _ _ _ _ _ _ _ _ => by kernel_rfl
theorem rjVi_2_10 : RjVi 2 10 := fun _ _ _ _ _ _ _ _ _ _ _ _ _ _ _ _ _ _ => by kernel_rfl
theorem rjOi_2_10_2 : RjOi 2 10 2 := fun _ _ _ _ _ _ _ _ _ _ _ _ _ _ _ _ _ _ _ _ _ _ _ _ _ _ => by kernel_rfl
theorem rjOi_2_10_3 : RjOi 2 10 3 := fun _ _ _ _ _ _ _ _ _ _ _ _ _ _ _ _ _ _ _ _ _ _ _ _ _ _ => by kernel_rfl
theorem rjOi_2_10_4 : RjOi 2 10 4 := fun _ _ _ _ _ _ _ _ _ _ _ _ _ _ _ _ _ _ _ _ _ _ _ _ _ _ => by kernel_rfl
theorem rjOi_2_10_5 : RjOi 2 10 5 := fun _ _ _ _ _ _ _ _ _ _ _ _ _ _ _ _ _ _ _ _ _ _ _ _ _ _ => by kernel_rfl
theorem rjCi_2_11 : RjCi 2 11 := fun _ _ _ _ _ _ _ _ _ _ _ _ _ => by kernel_rfl
theorem rjVi_2_11 : RjVi 2 11 := fun _ _ _ _ _ _ _ _ _ _ _ _ _ _ _ _ _ _ => by kernel_rfl
theorem rjOi_2_11_2 : RjOi 2 11 2 := fun _ _ _ _ _ _ _ _ _ _ _ _ _ _ _ _ _ _ _ _ _ _ _ _ _ _ => by kernel_rfl
theorem rjOi_2_11_3 : RjOi 2 11 3 := fun _ _ _ _ _ _ _ _ _ _ _ _ _ _ _ _ _ _ _ _ _ _ _ _ _ _ => by kernel_rfl
theorem rjOi_2_11_4 : RjOi 2 11 4 := fun _ _ _ _ _ _ _ _ _ _ _ _ _ _ _ _ _ _ _ _ _ _ _ _ _ _ => by kernel_rfl
theorem rjOi_2_11_5 : RjOi 2 11 5 := fun _ _ _ _ _ _ _ _ _ _ _ _ _ _ _ _ _ _ _ _ _ _ _ _ _ _ => by kernel_rfl
theorem rjEi_2_2 : RjEi 2 2 := fun _ _ _ _ _ _ => by kernel_rfl
theorem rjEi_2_3 : RjEi 2 3 := fun _ _ _ _ _ _ => by kernel_rfl
theorem rjEi_2_4 : RjEi 2 4 := fun _ _ _ _ _ _ => by kernel_rfl
theorem rjEi_2_5 : RjEi 2 5 := fun _ _ _ _ _ _ => by kernel_rfl
theorem rjEi_2_6 : RjEi 2 6 := fun _ _ _ _ _ _ => by kernel_rfl
theorem rjEi_2_7 : RjEi 2 7 := fun _ _ _ _ _ _ => by kernel_rfl
theorem rjEi_2_8 : RjEi 2 8 := fun _ _ _ _ _ _ => by kernel_rfl
theorem rjEi_2_9 : RjEi 2 9 := fun _ _ _ _ _ _ => by kernel_rfl
theorem rjEi_2_10 : RjEi 2 10 := fun _ _ _ _ _ _ => by kernel_rfl
theorem rjEi_2_11 : RjEi 2 11 := fun _ _ _ _ _ _ => by kernel_rfl
theorem rjEi_2_12 : RjEi 2 12 := fun _ _ _ _ _ _ => by kernel_rfl
theorem rjCi_2 : ∀ k, k < 12 → RjCi 2 k
  | 0, _ => rjCi_2_0
  | 1, _ => rjCi_2_1
  | 2, _ => rjCi_2_2
  | 3, _ => rjCi_2_3
  | 4, _ => rjCi_2_4
  | 5, _ => rjCi_2_5
  | 6, _ => rjCi_2_6
  | 7, _ => rjCi_2_7
  | 8, _ => rjCi_2_8
  | 9, _ => rjCi_2_9
  | 10, _ => rjCi_2_10
  | 11, _ => rjCi_2_11
  | n + 12, h => absurd h (by omega)
theorem rjVi_2 : ∀ k, k < 12 → RjVi 2 k
  | 0, _ => rjVi_2_0
  | 1, _ => rjVi_2_1
  | 2, _ => rjVi_2_2
  | 3, _ => rjVi_2_3
  | 4, _ => rjVi_2_4
  | 5, _ => rjVi_2_5
  | 6, _ => rjVi_2_6
  | 7, _ => rjVi_2_7
  | 8, _ => rjVi_2_8
  | 9, _ => rjVi_2_9
  | 10, _ => rjVi_2_10
  | 11, _ => rjVi_2_11
  | n + 12, h => absurd h (by omega)
theorem rjOi_2_K2 : ∀ k, 1 ≤ k → k < 12 → RjOi 2 k 2
  | 0, h, _ => absurd h (by omega)
  | 1, _, _ => rjOi_2_1_2
  | 2, _, _ => rjOi_2_2_2
  | 3, _, _ => rjOi_2_3_2
  | 4, _, _ => rjOi_2_4_2
  | 5, _, _ => rjOi_2_5_2
  | 6, _, _ => rjOi_2_6_2
  | 7, _, _ => rjOi_2_7_2
  | 8, _, _ => rjOi_2_8_2
  | 9, _, _ => rjOi_2_9_2
  | 10, _, _ => rjOi_2_10_2
  | 11, _, _ => rjOi_2_11_2
  | n + 12, _, h => absurd h (by omega)
theorem rjOi_2_K3 : ∀ k, 1 ≤ k → k < 12 → RjOi 2 k 3
  | 0, h, _ => absurd h (by omega)
  | 1, _, _ => rjOi_2_1_3
  | 2, _, _ => rjOi_2_2_3
  | 3, _, _ => rjOi_2_3_3
  | 4, _, _ => rjOi_2_4_3
  | 5, _, _ => rjOi_2_5_3
  | 6, _, _ => rjOi_2_6_3
  | 7, _, _ => rjOi_2_7_3
  | 8, _, _ => rjOi_2_8_3
  | 9, _, _ => rjOi_2_9_3
  | 10, _, _ => rjOi_2_10_3
  | 11, _, _ => rjOi_2_11_3
  | n + 12, _, h => absurd h (by omega)
theorem rjOi_2_K4 : ∀ k, 1 ≤ k → k < 12 → RjOi 2 k 4
  | 0, h, _ => absurd h (by omega)
  | 1, _, _ => rjOi_2_1_4
  | 2, _, _ => rjOi_2_2_4
  | 3, _, _ => rjOi_2_3_4
  | 4, _, _ => rjOi_2_4_4
  | 5, _, _ => rjOi_2_5_4
  | 6, _, _ => rjOi_2_6_4
  | 7, _, _ => rjOi_2_7_4
  | 8, _, _ => rjOi_2_8_4
  | 9, _, _ => rjOi_2_9_4
  | 10, _, _ => rjOi_2_10_4
  | 11, _, _ => rjOi_2_11_4
  | n + 12, _, h => absurd h (by omega)
theorem rjOi_2_K5 : ∀ k, 1 ≤ k → k < 12 → RjOi 2 k 5
  | 0, h, _ => absurd h (by omega)
  | 1, _, _ => rjOi_2_1_5
  | 2, _, _ => rjOi_2_2_5
  | 3, _, _ => rjOi_2_3_5
  | 4, _, _ => rjOi_2_4_5
  | 5, _, _ => rjOi_2_5_5
  | 6, _, _ => rjOi_2_6_5
  | 7, _, _ => rjOi_2_7_5
  | 8, _, _ => rjOi_2_8_5
  | 9, _, _ => rjOi_2_9_5
  | 10, _, _ => rjOi_2_10_5
  | 11, _, _ => rjOi_2_11_5
  | n + 12, _, h => absurd h (by omega)
theorem rjEi_2 : ∀ k, 2 ≤ k → k < 13 → RjEi 2 k
  | 0, h, _ => absurd h (by omega)
  | 1, h, _ => absurd h (by omega)
  | 2, _, _ => rjEi_2_2
  | 3, _, _ => rjEi_2_3
  | 4, _, _ => rjEi_2_4
  | 5, _, _ => rjEi_2_5
  | 6, _, _ => rjEi_2_6
  | 7, _, _ => rjEi_2_7
  | 8, _, _ => rjEi_2_8
  | 9, _, _ => rjEi_2_9
  | 10, _, _ => rjEi_2_10
  | 11, _, _ => rjEi_2_11
  | 12, _, _ => rjEi_2_12
  | n + 13, _, h => absurd h (by omega)

end Go.Proofs.Ytdlinjijccnaeaa
