/- The document's Jac of numbers: its rounds at 3 variables. -/
import Derived.Test.YtdlinjijccnaeaaJrR
namespace Go.Proofs.Ytdlinjijccnaeaa
open Go
set_option linter.unusedVariables false
set_option linter.unusedSimpArgs false
set_option maxRecDepth 100000

theorem rjC_3_0 : RjC 3 0 := fun _ _ _ _ _ _ _ _ _ _ _ _ _ => by kernel_rfl
theorem rjV_3_0 : RjV 3 0 := fun _ _ _ _ _ _ _ _ _ _ _ _ _ _ _ _ _ _ => by kernel_rfl
theorem rjC_3_1 : RjC 3 1 := fun _ _ _ _ _ _ _ _ _ _ _ _ _ => by kernel_rfl
theorem rjV_3_1 : RjV 3 1 := fun _ _ _ _ _ _ _ _ _ _ _ _ _ _ _ _ _ _ => by kernel_rfl
theorem rjO_3_1_2 : RjO 3 1 2 := fun _ _ _ _ _ _ _ _ _ _ _ _ _ _ _ _ _ _ _ _ _ _ _ _ => by kernel_rfl
theorem rjO_3_1_3 : RjO 3 1 3 := fun _ _ _ _ _ _ _ _ _ _ _ _ _ _ _ _ _ _ _ _ _ _ _ _ => by kernel_rfl
theorem rjO_3_1_4 : RjO 3 1 4 := fun _ _ _ _ _ _ _ _ _ _ _ _ _ _ _ _ _ _ _ _ _ _ _ _ => by kernel_rfl
theorem rjO_3_1_5 : RjO 3 1 5 := fun _ _ _ _ _ _ _ _ _ _ _ _ _ _ _ _ _ _ _ _ _ _ _ _ => by kernel_rfl
theorem rjC_3_2 : RjC 3 2 := fun _ _ _ _ _ _ _ _ _ _ _ _ _ => by kernel_rfl
theorem rjV_3_2 : RjV 3 2 := fun _ _ _ _ _ _ _ _ _ _ _ _ _ _ _ _ _ _ => by kernel_rfl
theorem rjO_3_2_2 : RjO 3 2 2 := fun _ _ _ _ _ _ _ _ _ _ _ _ _ _ _ _ _ _ _ _ _ _ _ _ => by kernel_rfl
theorem rjO_3_2_3 : RjO 3 2 3 := fun _ _ _ _ _ _ _ _ _ _ _ _ _ _ _ _ _ _ _ _ _ _ _ _ => by kernel_rfl
theorem rjO_3_2_4 : RjO 3 2 4 := fun _ _ _ _ _ _ _ _ _ _ _ _ _ _ _ _ _ _ _ _ _ _ _ _ => by kernel_rfl
theorem rjO_3_2_5 : RjO 3 2 5 := fun _ _ _ _ _ _ _ _ _ _ _ _ _ _ _ _ _ _ _ _ _ _ _ _ => by kernel_rfl
theorem rjC_3_3 : RjC 3 3 := fun _ _ _ _ _ _ _ _ _ _ _ _ _ => by kernel_rfl
theorem rjV_3_3 : RjV 3 3 := fun _ _ _ _ _ _ _ _ _ _ _ _ _ _ _ _ _ _ => by kernel_rfl
theorem rjO_3_3_2 : RjO 3 3 2 := fun _ _ _ _ _ _ _ _ _ _ _ _ _ _ _ _ _ _ _ _ _ _ _ _ => by kernel_rfl
theorem rjO_3_3_3 : RjO 3 3 3 := fun _ _ _ _ _ _ _ _ _ _ _ _ _ _ _ _ _ _ _ _ _ _ _ _ => by kernel_rfl
theorem rjO_3_3_4 : RjO 3 3 4 := fun _ _ _ _ _ _ _ _ _ _ _ _ _ _ _ _ _ _ _ _ _ _ _ _ => by kernel_rfl
theorem rjO_3_3_5 : RjO 3 3 5 := fun _ _ _ _ _ _ _ _ _ _ _ _ _ _ _ _ _ _ _ _ _ _ _ _ => by kernel_rfl
theorem rjC_3_4 : RjC 3 4 := fun _ _ _ _ _ _ _ _ _ _ _ _ _ => by kernel_rfl
theorem rjV_3_4 : RjV 3 4 := fun _ _ _ _ _ _ _ _ _ _ _ _ _ _ _ _ _ _ => by kernel_rfl
theorem rjO_3_4_2 : RjO 3 4 2 := fun _ _ _ _ _ _ _ _ _ _ _ _ _ _ _ _ _ _ _ _ _ _ _ _ => by kernel_rfl
theorem rjO_3_4_3 : RjO 3 4 3 := fun _ _ _ _ _ _ _ _ _ _ _ _ _ _ _ _ _ _ _ _ _ _ _ _ => by kernel_rfl
theorem rjO_3_4_4 : RjO 3 4 4 := fun _ _ _ _ _ _ _ _ _ _ _ _ _ _ _ _ _ _ _ _ _ _ _ _ => by kernel_rfl
theorem rjO_3_4_5 : RjO 3 4 5 := fun _ _ _ _ _ _ _ _ _ _ _ _ _ _ _ _ _ _ _ _ _ _ _ _ => by kernel_rfl
theorem rjC_3_5 : RjC 3 5 := fun _ _ _ _ _ _ _ _ _ _ _ _ _ => by kernel_rfl
theorem rjV_3_5 : RjV 3 5 := fun _ _ _ _ _ _ _ _ _ _ _ _ _ _ _ _ _ _ => by kernel_rfl
theorem rjO_3_5_2 : RjO 3 5 2 := fun _ _ _ _ _ _ _ _ _ _ _ _ _ _ _ _ _ _ _ _ _ _ _ _ => by kernel_rfl
theorem rjO_3_5_3 : RjO 3 5 3 := fun _ _ _ _ _ _ _ _ _ _ _ _ _ _ _ _ _ _ _ _ _ _ _ _ => by kernel_rfl
theorem rjO_3_5_4 : RjO 3 5 4 := fun _ _ _ _ _ _ _ _ _ _ _ _ _ _ _ _ _ _ _ _ _ _ _ _ => by kernel_rfl
theorem rjO_3_5_5 : RjO 3 5 5 := fun _ _ _ _ _ _ _ _ _ _ _ _ _ _ _ _ _ _ _ _ _ _ _ _ => by kernel_rfl
theorem rjC_3_6 : RjC 3 6 := fun _ _ _ _ _ _ _ _ _ _ _ _ _ => by kernel_rfl
theorem rjV_3_6 : RjV 3 6 := fun _ _ _ _ _ _ _ _ _ _ _ _ _ _ _ _ _ _ => by kernel_rfl
theorem rjO_3_6_2 : RjO 3 6 2 := fun _ _ _ _ _ _ _ _ _ _ _ _ _ _ _ _ _ _ _ _ _ _ _ _ => by kernel_rfl
theorem rjO_3_6_3 : RjO 3 6 3 := fun _ _ _ _ _ _ _ _ _ _ _ _ _ _ _ _ _ _ _ _ _ _ _ _ => by kernel_rfl
theorem rjO_3_6_4 : RjO 3 6 4 := fun _ _ _ _ _ _ _ _ _ _ _ _ _ _ _ _ _ _ _ _ _ _ _ _ => by kernel_rfl
theorem rjO_3_6_5 : RjO 3 6 5 := fun _ _ _ _ _ _ _ _ _ _ _ _ _ _ _ _ _ _ _ _ _ _ _ _ => by kernel_rfl
theorem rjC_3_7 : RjC 3 7 := fun _ _ _ _ _ _ _ _ _ _ _ _ _ => by kernel_rfl
theorem rjV_3_7 : RjV 3 7 := fun _ _ _ _ _ _ _ _ _ _ _ _ _ _ _ _ _ _ => by kernel_rfl
theorem rjO_3_7_2 : RjO 3 7 2 := fun _ _ _ _ _ _ _ _ _ _ _ _ _ _ _ _ _ _ _ _ _ _ _ _ => by kernel_rfl
theorem rjO_3_7_3 : RjO 3 7 3 := fun _ _ _ _ _ _ _ _ _ _ _ _ _ _ _ _ _ _ _ _ _ _ _ _ => by kernel_rfl
theorem rjO_3_7_4 : RjO 3 7 4 := fun _ _ _ _ _ _ _ _ _ _ _ _ _ _ _ _ _ _ _ _ _ _ _ _ => by kernel_rfl
theorem rjO_3_7_5 : RjO 3 7 5 := fun _ _ _ _ _ _ _ _ _ _ _ _ _ _ _ _ _ _ _ _ _ _ _ _ => by kernel_rfl
theorem rjC_3_8 : RjC 3 8 := fun _ _ _ _ _ _ _ _ _ _ _ _ _ => by kernel_rfl
theorem rjV_3_8 : RjV 3 8 := fun _ _ _ _ _ _ _ _ _ _ _ _ _ _ _ _ _ _ => by kernel_rfl
theorem rjO_3_8_2 : RjO 3 8 2 := fun _ _ _ _ _ _ _ _ _ _ _ _ _ _ _ _ _ _ _ _ _ _ _ _ => by kernel_rfl
theorem rjO_3_8_3 : RjO 3 8 3 := fun _ _ _ _ _ _ _ _ _ _ _ _ _ _ _ _ _ _ _ _ _ _ _ _ => by kernel_rfl
theorem rjO_3_8_4 : RjO 3 8 4 := fun _ _ _ _ _ _ _ _ _ _ _ _ _ _ _ _ _ _ _ _ _ _ _ _ => by kernel_rfl
theorem rjO_3_8_5 : RjO 3 8 5 := fun _ _ _ _ _ _ _ _ _ _ _ _ _ _ _ _ _ _ _ _ _ _ _ _ => by kernel_rfl
theorem rjC_3_9 : RjC 3 9 := fun _ _ _ _ _ _ _ _ _ _ _ _ _ => by kernel_rfl
theorem rjV_3_9 : RjV 3 9 := fun _ _ _ _ _ _ _ _ _ _ _ _ _ _ _ _ _ _ => by kernel_rfl
theorem rjO_3_9_2 : RjO 3 9 2 := fun _ _ _ _ _ _ _ _ _ _ _ _ _ _ _ _ _ _ _ _ _ _ _ _ => by kernel_rfl
theorem rjO_3_9_3 : RjO 3 9 3 := fun _ _ _ _ _ _ _ _ _ _ _ _ _ _ _ _ _ _ _ _ _ _ _ _ => by kernel_rfl
theorem rjO_3_9_4 : RjO 3 9 4 := fun _ _ _ _ _ _ _ _ _ _ _ _ _ _ _ _ _ _ _ _ _ _ _ _ => by kernel_rfl
theorem rjO_3_9_5 : RjO 3 9 5 := fun _ _ _ _ _ _ _ _ _ _ _ _ _ _ _ _ _ _ _ _ _ _ _ _ => by kernel_rfl
theorem rjC_3_10 : RjC 3 10 := fun _ _ _ _ _ _ _ _ _ _ _ _ _ => by kernel_rfl
theorem rjV_3_10 : RjV 3 10 := fun _ _ _ _ _ _ _ _ _ _ _ _ _ _ _ _ _ _ => by kernel_rfl
theorem rjO_3_10_2 : RjO 3 10 2 := fun _ _ _ _ _ _ _ _ _ _ _ _ _ _ _ _ _ _ _ _ _ _ _ _ => by kernel_rfl
theorem rjO_3_10_3 : RjO 3 10 3 := fun _ _ _ _ _ _ _ _ _ _ _ _ _ _ _ _ _ _ _ _ _ _ _ _ => by kernel_rfl
theorem rjO_3_10_4 : RjO 3 10 4 := fun _ _ _ _ _ _ _ _ _ _ _ _ _ _ _ _ _ _ _ _ _ _ _ _ => by kernel_rfl
theorem rjO_3_10_5 : RjO 3 10 5 := fun _ _ _ _ _ _ _ _ _ _ _ _ _ _ _ _ _ _ _ _ _ _ _ _ => by kernel_rfl
theorem rjC_3_11 : RjC 3 11 := fun _ _ _ _ _ _ _ _ _ _ _ _ _ => by kernel_rfl
theorem rjV_3_11 : RjV 3 11 := fun _ _ _ _ _ _ _ _ _ _ _ _ _ _ _ _ _ _ => by kernel_rfl
theorem rjO_3_11_2 : RjO 3 11 2 := fun _ _ _ _ _ _ _ _ _ _ _ _ _ _ _ _ _ _ _ _ _ _ _ _ => by kernel_rfl
theorem rjO_3_11_3 : RjO 3 11 3 := fun _ _ _ _ _ _ _ _ _ _ _ _ _ _ _ _ _ _ _ _ _ _ _ _ => by kernel_rfl
theorem rjO_3_11_4 : RjO 3 11 4 := fun _ _ _ _ _ _ _ _ _ _ _ _ _ _ _ _ _ _ _ _ _ _ _ _ => by kernel_rfl
theorem rjO_3_11_5 : RjO 3 11 5 := fun _ _ _ _ _ _ _ _ _ _ _ _ _ _ _ _ _ _ _ _ _ _ _ _ => by kernel_rfl
theorem rjE_3_2 : RjE 3 2 := fun _ _ _ _ _ _ => by kernel_rfl
theorem rjE_3_3 : RjE 3 3 := fun _ _ _ _ _ _ => by kernel_rfl
theorem rjE_3_4 : RjE 3 4 := fun _ _ _ _ _ _ => by kernel_rfl
theorem rjE_3_5 : RjE 3 5 := fun _ _ _ _ _ _ => by kernel_rfl
theorem rjE_3_6 : RjE 3 6 := fun _ _ _ _ _ _ => by kernel_rfl
theorem rjE_3_7 : RjE 3 7 := fun _ _ _ _ _ _ => by kernel_rfl
theorem rjE_3_8 : RjE 3 8 := fun _ _ _ _ _ _ => by kernel_rfl
theorem rjE_3_9 : RjE 3 9 := fun _ _ _ _ _ _ => by kernel_rfl
theorem rjE_3_10 : RjE 3 10 := fun _ _ _ _ _ _ => by kernel_rfl
theorem rjE_3_11 : RjE 3 11 := fun _ _ _ _ _ _ => by kernel_rfl
theorem rjE_3_12 : RjE 3 12 := fun _ _ _ _ _ _ => by kernel_rfl
theorem rjC_3 : ∀ k, k < 12 → RjC 3 k
  | 0, _ => rjC_3_0
  | 1, _ => rjC_3_1
  | 2, _ => rjC_3_2
  | 3, _ => rjC_3_3
  | 4, _ => rjC_3_4
  | 5, _ => rjC_3_5
  | 6, _ => rjC_3_6
  | 7, _ => rjC_3_7
  | 8, _ => rjC_3_8
  | 9, _ => rjC_3_9
  | 10, _ => rjC_3_10
  | 11, _ => rjC_3_11
  | n + 12, h => absurd h (by omega)
theorem rjV_3 : ∀ k, k < 12 → RjV 3 k
  | 0, _ => rjV_3_0
  | 1, _ => rjV_3_1
  | 2, _ => rjV_3_2
  | 3, _ => rjV_3_3
  | 4, _ => rjV_3_4
  | 5, _ => rjV_3_5
  | 6, _ => rjV_3_6
  | 7, _ => rjV_3_7
  | 8, _ => rjV_3_8
  | 9, _ => rjV_3_9
  | 10, _ => rjV_3_10
  | 11, _ => rjV_3_11
  | n + 12, h => absurd h (by omega)
theorem rjO_3_K2 : ∀ k, 1 ≤ k → k < 12 → RjO 3 k 2
  | 0, h, _ => absurd h (by omega)
  | 1, _, _ => rjO_3_1_2
  | 2, _, _ => rjO_3_2_2
  | 3, _, _ => rjO_3_3_2
  | 4, _, _ => rjO_3_4_2
  | 5, _, _ => rjO_3_5_2
  | 6, _, _ => rjO_3_6_2
  | 7, _, _ => rjO_3_7_2
  | 8, _, _ => rjO_3_8_2
  | 9, _, _ => rjO_3_9_2
  | 10, _, _ => rjO_3_10_2
  | 11, _, _ => rjO_3_11_2
  | n + 12, _, h => absurd h (by omega)
theorem rjO_3_K3 : ∀ k, 1 ≤ k → k < 12 → RjO 3 k 3
  | 0, h, _ => absurd h (by omega)
  | 1, _, _ => rjO_3_1_3
  | 2, _, _ => rjO_3_2_3
  | 3, _, _ => rjO_3_3_3
  | 4, _, _ => rjO_3_4_3
  | 5, _, _ => rjO_3_5_3
  | 6, _, _ => rjO_3_6_3
  | 7, _, _ => rjO_3_7_3
  | 8, _, _ => rjO_3_8_3
  | 9, _, _ => rjO_3_9_3
  | 10, _, _ => rjO_3_10_3
  | 11, _, _ => rjO_3_11_3
  | n + 12, _, h => absurd h (by omega)
theorem rjO_3_K4 : ∀ k, 1 ≤ k → k < 12 → RjO 3 k 4
  | 0, h, _ => absurd h (by omega)
  | 1, _, _ => rjO_3_1_4
  | 2, _, _ => rjO_3_2_4
  | 3, _, _ => rjO_3_3_4
  | 4, _, _ => rjO_3_4_4
  | 5, _, _ => rjO_3_5_4
  | 6, _, _ => rjO_3_6_4
  | 7, _, _ => rjO_3_7_4
  | 8, _, _ => rjO_3_8_4
  | 9, _, _ => rjO_3_9_4
  | 10, _, _ => rjO_3_10_4
  | 11, _, _ => rjO_3_11_4
  | n + 12, _, h => absurd h (by omega)
theorem rjO_3_K5 : ∀ k, 1 ≤ k → k < 12 → RjO 3 k 5
  | 0, h, _ => absurd h (by omega)
  | 1, _, _ => rjO_3_1_5
  | 2, _, _ => rjO_3_2_5
  | 3, _, _ => rjO_3_3_5
  | 4, _, _ => rjO_3_4_5
  | 5, _, _ => rjO_3_5_5
  | 6, _, _ => rjO_3_6_5
  | 7, _, _ => rjO_3_7_5
  | 8, _, _ => rjO_3_8_5
  | 9, _, _ => rjO_3_9_5
  | 10, _, _ => rjO_3_10_5
  | 11, _, _ => rjO_3_11_5
  | n + 12, _, h => absurd h (by omega)
theorem rjE_3 : ∀ k, 2 ≤ k → k < 13 → RjE 3 k
  | 0, h, _ => absurd h (by omega)
  | 1, h, _ => absurd h (by omega)
  | 2, _, _ => rjE_3_2
  | 3, _, _ => rjE_3_3
  | 4, _, _ => rjE_3_4
  | 5, _, _ => rjE_3_5
  | 6, _, _ => rjE_3_6
  | 7, _, _ => rjE_3_7
  | 8, _, _ => rjE_3_8
  | 9, _, _ => rjE_3_9
  | 10, _, _ => rjE_3_10
  | 11, _, _ => rjE_3_11
  | 12, _, _ => rjE_3_12
  | n + 13, _, h => absurd h (by omega)

end Go.Proofs.Ytdlinjijccnaeaa
