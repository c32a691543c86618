/- The document's Jac of numbers: its rounds at 1 variables. -/
import Derived.Test.YtdlinjijccnaeaaJrR
namespace Go.Proofs.Ytdlinjijccnaeaa
open Go
set_option linter.unusedVariables false
set_option linter.unusedSimpArgs false
set_option maxRecDepth 100000

theorem rjC_1_0 : RjC 1 0 := fun _ _ _ _ _ _ _ _ _ _ _ _ _ => by kernel_rfl
theorem rjV_1_0 : RjV 1 0 := fun _ _ _ _ _ _ _ _ _ _ _ _ _ _ _ _ _ _ => by kernel_rfl
theorem rjC_1_1 : RjC 1 1 := fun _ _ _ _ _ _ _ _ _ _ _ _ _ => by kernel_rfl
theorem rjV_1_1 : RjV 1 1 := fun _ _ _ _ _ _ _ _ _ _ _ _ _ _ _ _ _ _ => by kernel_rfl
theorem rjO_1_1_2 : RjO 1 1 2 := fun _ _ _ _ _ _ _ _ _ _ _ _ _ _ _ _ _ _ _ _ _ _ _ _ => by kernel_rfl
theorem rjO_1_1_3 : RjO 1 1 3 := fun _ _ _ _ _ _ _ _ _ _ _ _ _ _ _ _ _ _ _ _ _ _ _ _ => by kernel_rfl
theorem rjO_1_1_4 : RjO 1 1 4 := fun _ _ _ _ _ _ _ _ _ _ _ _ _ _ _ _ _ _ _ _ _ _ _ _ => by kernel_rfl
theorem rjO_1_1_5 : RjO 1 1 5 := fun _ _ _ _ _ _ _ _ _ _ _ _ _ _ _ _ _ _ _ _ _ _ _ _ => by kernel_rfl
theorem rjC_1_2 : RjC 1 2 := fun _ _ _ _ _ _ _ _ _ _ _ _ _ => by kernel_rfl
theorem rjV_1_2 : RjV 1 2 := fun _ _ _ _ _ _ _ _ _ _ _ _ _ _ _ _ _ _ => by kernel_rfl
theorem rjO_1_2_2 : RjO 1 2 2 := fun _ _ _ _ _ _ _ _ _ _ _ _ _ _ _ _ _ _ _ _ _ _ _ _ => by kernel_rfl
theorem rjO_1_2_3 : RjO 1 2 3 := fun _ _ _ _ _ _ _ _ _ _ _ _ _ _ _ _ _ _ _ _ _ _ _ _ => by kernel_rfl
theorem rjO_1_2_4 : RjO 1 2 4 := fun _ _ _ _ _ _ _ _ _ _ _ _ _ _ _ _ _ _ _ _ _ _ _ _ => by kernel_rfl
theorem rjO_1_2_5 : RjO 1 2 5 := fun _ _ _ _ _ _ _ _ _ _ _ _ _ _ _ _ _ _ _ _ _ _ _ _ => by kernel_rfl
theorem rjC_1_3 : RjC 1 3 := fun _ _ _ _ _ _ _ _ _ _ _ _ _ => by kernel_rfl
theorem rjV_1_3 : RjV 1 3 := fun _ _ _ _ _ _ _ _ _ _ _ _ _ _ _ _ _ _ => by kernel_rfl
theorem rjO_1_3_2 : RjO 1 3 2 := fun _ _ _ _ _ _ _ _ _ _ _ _ _ _ _ _ _ _ _ _ _ _ _ _ => by kernel_rfl
theorem rjO_1_3_3 : RjO 1 3 3 := fun _ _ _ _ _ _ _ _ _ _ _ _ _ _ _ _ _ _ _ _ _ _ _ _ => by kernel_rfl
theorem rjO_1_3_4 : RjO 1 3 4 := fun _ _ _ _ _ _ _ _ _ _ _ _ _ _ _ _ _ _ _ _ _ _ _ _ => by kernel_rfl
theorem rjO_1_3_5 : RjO 1 3 5 := fun _ _ _ _ _ _ _ _ _ _ _ _ _ _ _ _ _ _ _ _ _ _ _ _ => by kernel_rfl
theorem rjC_1_4 : RjC 1 4 := fun _ _ _ _ _ _ _ _ _ _ _ _ _ => by kernel_rfl
theorem rjV_1_4 : RjV 1 4 := fun _ _ _ _ _ _ _ _ _ _ _ _ _ _ _ _ _ _ => by kernel_rfl
theorem rjO_1_4_2 : RjO 1 4 2 := fun _ _ _ _ _ _ _ _ _ _ _ _ _ _ _ _ _ _ _ _ _ _ _ _ => by kernel_rfl
theorem rjO_1_4_3 : RjO 1 4 3 := fun _ _ _ _ _ _ _ _ _ _ _ _ _ _ _ _ _ _ _ _ _ _ _ _ => by kernel_rfl
theorem rjO_1_4_4 : RjO 1 4 4 := fun _ _ _ _ _ _ _ _ _ _ _ _ _ _ _ _ _ _ _ _ _ _ _ _ => by kernel_rfl
theorem rjO_1_4_5 : RjO 1 4 5 := fun _ _ _ _ _ _ _ _ _ _ _ _ _ _ _ _ _ _ _ _ _ _ _ _ => by kernel_rfl
theorem rjC_1_5 : RjC 1 5 := fun _ _ _ _ _ _ _ _ _ _ _ _ _ => by kernel_rfl
theorem rjV_1_5 : RjV 1 5 := fun _ _ _ _ _ _ _ _ _ _ _ _ _ _ _ _ _ _ => by kernel_rfl
theorem rjO_1_5_2 : RjO 1 5 2 := fun _ _ _ _ _ _ _ _ _ _ _ _ _ _ _ _ _ _ _ _ _ _ _ _ => by kernel_rfl
theorem rjO_1_5_3 : RjO 1 5 3 := fun _ _ _ _ _ _ _ _ _ _ _ _ _ _ _ _ _ _ _ _ _ _ _ _ => by kernel_rfl
theorem rjO_1_5_4 : RjO 1 5 4 := fun _ _ _ _ _ _ _ _ _ _ _ _ _ _ _ _ _ _ _ _ _ _ _ _ => by kernel_rfl
theorem rjO_1_5_5 : RjO 1 5 5 := fun _ _ _ _ _ _ _ _ _ _ _ _ _ _ _ _ _ _ _ _ _ _ _ _ => by kernel_rfl
theorem rjC_1_6 : RjC 1 6 := fun _ _ _ _ _ _ _ _ _ _ _ _ _ => by kernel_rfl
theorem rjV_1_6 : RjV 1 6 := fun _ _ _ _ _ _ _ _ _ _ _ _ _ _ _ _ _ _ => by kernel_rfl
theorem rjO_1_6_2 : RjO 1 6 2 := fun _ _ _ _ _ _ _ _ _ _ _ _ _ _ _ _ _ _ _ _ _ _ _ _ => by kernel_rfl
theorem rjO_1_6_3 : RjO 1 6 3 := fun _ _ _ _ _ _ _ _ _ _ _ _ _ _ _ _ _ _ _ _ _ _ _ _ => by kernel_rfl
theorem rjO_1_6_4 : RjO 1 6 4 := fun _ _ _ _ _ _ _ _ _ _ _ _ _ _ _ _ _ _ _ _ _ _ _ _ => by kernel_rfl
theorem rjO_1_6_5 : RjO 1 6 5 := fun _ _ _ _ _ _ _ _ _ _ _ _ _ _ _ _ _ _ _ _ _ _ _ _ => by kernel_rfl
theorem rjC_1_7 : RjC 1 7 := fun _ _ _ _ _ _ _ _ _ _ _ _ _ => by kernel_rfl
theorem rjV_1_7 : RjV 1 7 := fun _ _ _ _ _ _ _ _ _ _ _ _ _ _ _ _ _ _ => by kernel_rfl
theorem rjO_1_7_2 : RjO 1 7 2 := fun _ _ _ _ _ _ _ _ _ _ _ _ _ _ _ _ _ _ _ _ _ _ _ _ => by kernel_rfl
theorem rjO_1_7_3 : RjO 1 7 3 := fun _ _ _ _ _ _ _ _ _ _ _ _ _ _ _ _ _ _ _ _ _ _ _ _ => by kernel_rfl
theorem rjO_1_7_4 : RjO 1 7 4 := fun _ _ _ _ _ _ _ _ _ _ _ _ _ _ _ _ _ _ _ _ _ _ _ _ => by kernel_rfl
theorem rjO_1_7_5 : RjO 1 7 5 := fun _ _ _ _ _ _ _ _ _ _ _ _ _ _ _ _ _ _ _ _ _ _ _ _ => by kernel_rfl
theorem rjC_1_8 : RjC 1 8 := fun _ _ _ _ _ _ _ _ _ _ _ _ _ => by kernel_rfl
theorem rjV_1_8 : RjV 1 8 := fun _ _ _ _ _ _ _ _ _ _ _ _ _ _ _ _ _ _ => by kernel_rfl
theorem rjO_1_8_2 : RjO 1 8 2 := fun _ _ _ _ _ _ _ _ _ _ _ _ _ _ _ _ _ _ _ _ _ _ _ _ => by kernel_rfl
theorem rjO_1_8_3 : RjO 1 8 3 := fun _ _ _ _ _ _ _ _ _ _ _ _ _ _ _ _ _ _ _ _ _ _ _ _ => by kernel_rfl
theorem rjO_1_8_4 : RjO 1 8 4 := fun _ _ _ _ _ _ _ _ _ _ _ _ _ _ _ _ _ _ _ _ _ _ _ _ => by kernel_rfl
theorem rjO_1_8_5 : RjO 1 8 5 := fun _ _ _ _ _ _ _ _ _ _ _ _ _ _ _ _ _ _ _ _ _ _ _ _ => by kernel_rfl
theorem rjC_1_9 : RjC 1 9 := fun _ _ _ _ _ _ _ _ _ _ _ _ _ => by kernel_rfl
theorem rjV_1_9 : RjV 1 9 := fun _ _ _ _ _ _ _ _ _ _ _ _ _ _ _ _ _ _ => by kernel_rfl
theorem rjO_1_9_2 : RjO 1 9 2 := fun _ _ _ _ _ _ _ _ _ _ _ _ _ _ _ _ _ _ _ _ _ _ _ _ => by kernel_rfl
theorem rjO_1_9_3 : RjO 1 9 3 := fun _ _ _ _ _ _ _ _ _ _ _ _ _ _ _ _ _ _ _ _ _ _ _ _ => by kernel_rfl
theorem rjO_1_9_4 : RjO 1 9 4 := fun _ _ _ _ _ _ _ _ _ _ _ _ _ _ _ _ _ _ _ _ _ _ _ _ => by kernel_rfl
theorem rjO_1_9_5 : RjO 1 9 5 := fun _ _ _ _ _ _ _ _ _ _ _ _ _ _ _ _ _ _ _ _ _ _ _ _ => by kernel_rfl
theorem rjC_1_10 : RjC 1 10 := fun _ _ _ _ _ _ _ _ _ _ _ _ _ => by kernel_rfl
theorem rjV_1_10 : RjV 1 10 := fun _ _ _ _ _ _ _ _ _ _ _ _ _ _ _ _ _ _ => by kernel_rfl
theorem rjO_1_10_2 : RjO 1 10 2 := fun _ _ _ _ _ _ _ _ _ _ _ _ _ _ _ _ _ _ _ _ _ _ _ _ => by kernel_rfl
theorem rjO_1_10_3 : RjO 1 10 3 := fun _ _ _ _ _ _ _ _ _ _ _ _ _ _ _ _ _ _ _ _ _ _ _ _ => by kernel_rfl
theorem rjO_1_10_4 : RjO 1 10 4 := fun _ _ _ _ _ _ _ _ _ _ _ _ _ _ _ _ _ _ _ _ _ _ _ _ => by kernel_rfl
theorem rjO_1_10_5 : RjO 1 10 5 := fun _ _ _ _ _ _ _ _ _ _ _ _ _ _ _ _ _ _ _ _ _ _ _ _ => by kernel_rfl
theorem rjC_1_11 : RjC 1 11 := fun _ _ _ _ _ _ _ _ _ _ _ _ _ => by kernel_rfl
theorem rjV_1_11 : RjV 1 11 := fun _ _ _ _ _ _ _ _ _ _ _ _ _ _ _ _ _ _ => by kernel_rfl
theorem rjO_1_11_2 : RjO 1 11 2 := fun _ _ _ _ _ _ _ _ _ _ _ _ _ _ _ _ _ _ _ _ _ _ _ _ => by kernel_rfl
theorem rjO_1_11_3 : RjO 1 11 3 := fun _ _ _ _ _ _ _ _ _ _ _ _ _ _ _ _ _ _ _ _ _ _ _ _ => by kernel_rfl
theorem rjO_1_11_4 : RjO 1 11 4 := fun _ _ _ _ _ _ _ _ _ _ _ _ _ _ _ _ _ _ _ _ _ _ _ _ => by kernel_rfl
theorem rjO_1_11_5 : RjO 1 11 5 := fun _ _ _ _ _ _ _ _ _ _ _ _ _ _ _ _ _ _ _ _ _ _ _ _ => by kernel_rfl
theorem rjE_1_2 : RjE 1 2 := fun _ _ _ _ _ _ => by kernel_rfl
theorem rjE_1_3 : RjE 1 3 := fun _ _ _ _ _ _ => by kernel_rfl
theorem rjE_1_4 : RjE 1 4 := fun _ _ _ _ _ _ => by kernel_rfl
theorem rjE_1_5 : RjE 1 5 := fun _ _ _ _ _ _ => by kernel_rfl
theorem rjE_1_6 : RjE 1 6 := fun _ _ _ _ _ _ => by kernel_rfl
theorem rjE_1_7 : RjE 1 7 := fun _ _ _ _ _ _ => by kernel_rfl
theorem rjE_1_8 : RjE 1 8 := fun _ _ _ _ _ _ => by kernel_rfl
theorem rjE_1_9 : RjE 1 9 := fun _ _ _ _ _ _ => by kernel_rfl
theorem rjE_1_10 : RjE 1 10 := fun _ _ _ _ _ _ => by kernel_rfl
theorem rjE_1_11 : RjE 1 11 := fun _ _ _ _ _ _ => by kernel_rfl
theorem rjE_1_12 : RjE 1 12 := fun _ _ _ _ _ _ => by kernel_rfl
theorem rjC_1 : ∀ k, k < 12 → RjC 1 k
  | 0, _ => rjC_1_0
  | 1, _ => rjC_1_1
  | 2, _ => rjC_1_2
  | 3, _ => rjC_1_3
  | 4, _ => rjC_1_4
  | 5, _ => rjC_1_5
  | 6, _ => rjC_1_6
  | 7, _ => rjC_1_7
  | 8, _ => rjC_1_8
  | 9, _ => rjC_1_9
  | 10, _ => rjC_1_10
  | 11, _ => rjC_1_11
  | n + 12, h => absurd h (by omega)
theorem rjV_1 : ∀ k, k < 12 → RjV 1 k
  | 0, _ => rjV_1_0
  | 1, _ => rjV_1_1
  | 2, _ => rjV_1_2
  | 3, _ => rjV_1_3
  | 4, _ => rjV_1_4
  | 5, _ => rjV_1_5
  | 6, _ => rjV_1_6
  | 7, _ => rjV_1_7
  | 8, _ => rjV_1_8
  | 9, _ => rjV_1_9
  | 10, _ => rjV_1_10
  | 11, _ => rjV_1_11
  | n + 12, h => absurd h (by omega)
theorem rjO_1_K2 : ∀ k, 1 ≤ k → k < 12 → RjO 1 k 2
  | 0, h, _ => absurd h (by omega)
  | 1, _, _ => rjO_1_1_2
  | 2, _, _ => rjO_1_2_2
  | 3, _, _ => rjO_1_3_2
  | 4, _, _ => rjO_1_4_2
  | 5, _, _ => rjO_1_5_2
  | 6, _, _ => rjO_1_6_2
  | 7, _, _ => rjO_1_7_2
  | 8, _, _ => rjO_1_8_2
  | 9, _, _ => rjO_1_9_2
  | 10, _, _ => rjO_1_10_2
  | 11, _, _ => rjO_1_11_2
  | n + 12, _, h => absurd h (by omega)
theorem rjO_1_K3 : ∀ k, 1 ≤ k → k < 12 → RjO 1 k 3
  | 0, h, _ => absurd h (by omega)
  | 1, _, _ => rjO_1_1_3
  | 2, _, _ => rjO_1_2_3
  | 3, _, _ => rjO_1_3_3
  | 4, _, _ => rjO_1_4_3
  | 5, _, _ => rjO_1_5_3
  | 6, _, _ => rjO_1_6_3
  | 7, _, _ => rjO_1_7_3
  | 8, _, _ => rjO_1_8_3
  | 9, _, _ => rjO_1_9_3
  | 10, _, _ => rjO_1_10_3
  | 11, _, _ => rjO_1_11_3
  | n + 12, _, h => absurd h (by omega)
theorem rjO_1_K4 : ∀ k, 1 ≤ k → k < 12 → RjO 1 k 4
  | 0, h, _ => absurd h (by omega)
  | 1, _, _ => rjO_1_1_4
  | 2, _, _ => rjO_1_2_4
  | 3, _, _ => rjO_1_3_4
  | 4, _, _ => rjO_1_4_4
  | 5, _, _ => rjO_1_5_4
  | 6, _, _ => rjO_1_6_4
  | 7, _, _ => rjO_1_7_4
  | 8, _, _ => rjO_1_8_4
  | 9, _, _ => rjO_1_9_4
  | 10, _, _ => rjO_1_10_4
  | 11, _, _ => rjO_1_11_4
  | n + 12, _, h => absurd h (by omega)
theorem rjO_1_K5 : ∀ k, 1 ≤ k → k < 12 → RjO 1 k 5
  | 0, h, _ => absurd h (by omega)
  | 1, _, _ => rjO_1_1_5
  | 2, _, _ => rjO_1_2_5
  | 3, _, _ => rjO_1_3_5
  | 4, _, _ => rjO_1_4_5
  | 5, _, _ => rjO_1_5_5
  | 6, _, _ => rjO_1_6_5
  | 7, _, _ => rjO_1_7_5
  | 8, _, _ => rjO_1_8_5
  | 9, _, _ => rjO_1_9_5
  | 10, _, _ => rjO_1_10_5
  | 11, _, _ => rjO_1_11_5
  | n + 12, _, h => absurd h (by omega)
theorem rjE_1 : ∀ k, 2 ≤ k → k < 13 → RjE 1 k
  | 0, h, _ => absurd h (by omega)
  | 1, h, _ => absurd h (by omega)
  | 2, _, _ => rjE_1_2
  | 3, _, _ => rjE_1_3
  | 4, _, _ => rjE_1_4
  | 5, _, _ => rjE_1_5
  | 6, _, _ => rjE_1_6
  | 7, _, _ => rjE_1_7
  | 8, _, _ => rjE_1_8
  | 9, _, _ => rjE_1_9
  | 10, _, _ => rjE_1_10
  | 11, _, _ => rjE_1_11
  | 12, _, _ => rjE_1_12
  | n + 13, _, h => absurd h (by omega)

end Go.Proofs.Ytdlinjijccnaeaa
