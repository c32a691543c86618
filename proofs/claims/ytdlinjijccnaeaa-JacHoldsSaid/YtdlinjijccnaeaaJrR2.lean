/- The document's Jac of numbers: its rounds at 2 variables. -/
import Derived.Test.YtdlinjijccnaeaaJrR
namespace Go.Proofs.Ytdlinjijccnaeaa
open Go
set_option linter.unusedVariables false
set_option linter.unusedSimpArgs false
set_option maxRecDepth 100000

theorem rjC_2_0 : RjC 2 0 := fun _ _ _ _ _ _ _ _ _ _ _ _ _ => by kernel_rfl
theorem rjV_2_0 : RjV 2 0 := fun _ _ _ _ _ _ _ _ _ _ _ _ _ _ _ _ _ _ => by kernel_rfl
theorem rjC_2_1 : RjC 2 1 := fun _ _ _ _ _ _ _ _ _ _ _ _ _ => by kernel_rfl
theorem rjV_2_1 : RjV 2 1 := fun _ _ _ _ _ _ _ _ _ _ _ _ _ _ _ _ _ _ => by kernel_rfl
theorem rjO_2_1_2 : RjO 2 1 2 := fun _ _ _ _ _ _ _ _ _ _ _ _ _ _ _ _ _ _ _ _ _ _ _ _ => by kernel_rfl
theorem rjO_2_1_3 : RjO 2 1 3 := fun _ _ _ _ _ _ _ _ _ _ _ _ _ _ _ _ _ _ _ _ _ _ _ _ => by kernel_rfl
theorem rjO_2_1_4 : RjO 2 1 4 := fun _ _ _ _ _ _ _ _ _ _ _ _ _ _ _ _ _ _ _ _ _ _ _ _ => by kernel_rfl
theorem rjO_2_1_5 : RjO 2 1 5 := fun _ _ _ _ _ _ _ _ _ _ _ _ _ _ _ _ _ _ _ _ _ _ _ _ => by kernel_rfl
theorem rjC_2_2 : RjC 2 2 := fun _ _ _ _ _ _ _ _ _ _ _ _ _ => by kernel_rfl
theorem rjV_2_2 : RjV 2 2 := fun _ _ _ _ _ _ _ _ _ _ _ _ _ _ _ _ _ _ => by kernel_rfl
theorem rjO_2_2_2 : RjO 2 2 2 := fun _ _ _ _ _ _ _ _ _ _ _ _ _ _ _ _ _ _ _ _ _ _ _ _ => by kernel_rfl
theorem rjO_2_2_3 : RjO 2 2 3 := fun _ _ _ _ _ _ _ _ _ _ _ _ _ _ _ _ _ _ _ _ _ _ _ _ => by kernel_rfl
theorem rjO_2_2_4 : RjO 2 2 4 := fun _ _ _ _ _ _ _ _ _ _ _ _ _ _ _ _ _ _ _ _ _ _ _ _ => by kernel_rfl
theorem rjO_2_2_5 : RjO 2 2 5 := fun _ _ _ _ _ _ _ _ _ _ _ _ _ _ _ _ _ _ _ _ _ _ _ _ => by kernel_rfl
theorem rjC_2_3 : RjC 2 3 := fun _ _ _ _ _ _ _ _ _ _ _ _ _ => by kernel_rfl
theorem rjV_2_3 : RjV 2 3 := fun _ _ _ _ _ _ _ _ _ _ _ _ _ _ _ _ _ _ => by kernel_rfl
theorem rjO_2_3_2 : RjO 2 3 2 := fun _ _ _ _ _ _ _ _ _ _ _ _ _ _ _ _ _ _ _ _ _ _ _ _ => by kernel_rfl
theorem rjO_2_3_3 : RjO 2 3 3 := fun _ _ _ _ _ _ _ _ _ _ _ _ _ _ _ _ _ _ _ _ _ _ _ _ => by kernel_rfl
theorem rjO_2_3_4 : RjO 2 3 4 := fun _ _ _ _ _ _ _ _ _ _ _ _ _ _ _ _ _ _ _ _ _ _ _ _ => by kernel_rfl
theorem rjO_2_3_5 : RjO 2 3 5 := fun _ _ _ _ _ _ _ _ _ _ _ _ _ _ _ _ _ _ _ _ _ _ _ _ => by kernel_rfl
theorem rjC_2_4 : RjC 2 4 := fun _ _ _ _ _ _ _ _ _ _ _ _ _ => by kernel_rfl
theorem rjV_2_4 : RjV 2 4 := fun _ _ _ _ _ _ _ _ _ _ _ _ _ _ _ _ _ _ => by kernel_rfl
theorem rjO_2_4_2 : RjO 2 4 2 := fun _ _ _ _ _ _ _ _ _ _ _ _ _ _ _ _ _ _ _ _ _ _ _ _ => by kernel_rfl
theorem rjO_2_4_3 : RjO 2 4 3 := fun _ _ _ _ _ _ _ _ _ _ _ _ _ _ _ _ _ _ _ _ _ _ _ _ => by kernel_rfl
theorem rjO_2_4_4 : RjO 2 4 4 := fun _ _ _ _ _ _ _ _ _ _ _ _ _ _ _ _ _ _ _ _ _ _ _ _ => by kernel_rfl
theorem rjO_2_4_5 : RjO 2 4 5 := fun _ _ _ _ _ _ _ _ _ _ _ _ _ _ _ _ _ _ _ _ _ _ _ _ => by kernel_rfl
theorem rjC_2_5 : RjC 2 5 := fun _ _ _ _ _ _ _ _ _ _ _ _ _ => by kernel_rfl
theorem rjV_2_5 : RjV 2 5 := fun _ _ _ _ _ _ _ _ _ _ _ _ _ _ _ _ _ _ => by kernel_rfl
theorem rjO_2_5_2 : RjO 2 5 2 := fun _ _ _ _ _ _ _ _ _ _ _ _ _ _ _ _ _ _ _ _ _ _ _ _ => by kernel_rfl
theorem rjO_2_5_3 : RjO 2 5 3 := fun _ _ _ _ _ _ _ _ _ _ _ _ _ _ _ _ _ _ _ _ _ _ _ _ => by kernel_rfl
theorem rjO_2_5_4 : RjO 2 5 4 := fun _ _ _ _ _ _ _ _ _ _ _ _ _ _ _ _ _ _ _ _ _ _ _ _ => by kernel_rfl
theorem rjO_2_5_5 : RjO 2 5 5 := fun _ _ _ _ _ _ _ _ _ _ _ _ _ _ _ _ _ _ _ _ _ _ _ _ => by kernel_rfl
theorem rjC_2_6 : RjC 2 6 := fun _ _ _ _ _ _ _ _ _ _ _ _ _ => by kernel_rfl
theorem rjV_2_6 : RjV 2 6 := fun _ _ _ _ _ _ _ _ _ _ _ _ _ _ _ _ _ _ => by kernel_rfl
theorem rjO_2_6_2 : RjO 2 6 2 := fun _ _ _ _ _ _ _ _ _ _ _ _ _ _ _ _ _ _ _ _ _ _ _ _ => by kernel_rfl
theorem rjO_2_6_3 : RjO 2 6 3 := fun _ _ _ _ _ _ _ _ _ _ _ _ _ _ _ _ _ _ _ _ _ _ _ _ => by kernel_rfl
theorem rjO_2_6_4 : RjO 2 6 4 := fun _ _ _ _ _ _ _ _ _ _ _ _ _ _ _ _ _ _ _ _ _ _ _ _ => by kernel_rfl
theorem rjO_2_6_5 : RjO 2 6 5 := fun _ _ _ _ _ _ _ _ _ _ _ _ _ _ _ _ _ _ _ _ _ _ _ _ => by kernel_rfl
theorem rjC_2_7 : RjC 2 7 := fun _ _ _ _ _ _ _ _ _ _ _ _ _ => by kernel_rfl
theorem rjV_2_7 : RjV 2 7 := fun _ _ _ _ _ _ _ _ _ _ _ _ _ _ _ _ _ _ => by kernel_rfl
theorem rjO_2_7_2 : RjO 2 7 2 := fun _ _ _ _ _ _ _ _ _ _ _ _ _ _ _ _ _ _ _ _ _ _ _ _ => by kernel_rfl
theorem rjO_2_7_3 : RjO 2 7 3 := fun _ _ _ _ _ _ _ _ _ _ _ _ _ _ _ _ _ _ _ _ _ _ _ _ => by kernel_rfl
theorem rjO_2_7_4 : RjO 2 7 4 := fun _ _ _ _ _ _ _ _ _ _ _ _ _ _ _ _ _ _ _ _ _ _ _ _ => by kernel_rfl
theorem rjO_2_7_5 : RjO 2 7 5 := fun _ _ _ _ _ _ _ _ _ _ _ _ _ _ _ _ _ _ _ _ _ _ _ _ => by kernel_rfl
theorem rjC_2_8 : RjC 2 8 := fun _ _ _ _ _ _ _ _ _ _ _ _ _ => by kernel_rfl
theorem rjV_2_8 : RjV 2 8 := fun _ _ _ _ _ _ _ _ _ _ _ _ _ _ _ _ _ _ => by kernel_rfl
theorem rjO_2_8_2 : RjO 2 8 2 := fun _ _ _ _ _ _ _ _ _ _ _ _ _ _ _ _ _ _ _ _ _ _ _ _ => by kernel_rfl
theorem rjO_2_8_3 : RjO 2 8 3 := fun _ _ _ _ _ _ _ _ _ _ _ _ _ _ _ _ _ _ _ _ _ _ _ _ => by kernel_rfl
theorem rjO_2_8_4 : RjO 2 8 4 := fun _ _ _ _ _ _ _ _ _ _ _ _ _ _ _ _ _ _ _ _ _ _ _ _ => by kernel_rfl
theorem rjO_2_8_5 : RjO 2 8 5 := fun _ _ _ _ _ _ _ _ _ _ _ _ _ _ _ _ _ _ _ _ _ _ _ _ => by kernel_rfl
theorem rjC_2_9 : RjC 2 9 := fun _ _ _ _ _ _ _ _ _ _ _ _ _ => by kernel_rfl
theorem rjV_2_9 : RjV 2 9 := fun _ _ _ _ _ _ _ _ _ _ _ _ _ _ _ _ _ _ => by kernel_rfl
theorem rjO_2_9_2 : RjO 2 9 2 := fun _ _ _ _ _ _ _ _ _ _ _ _ _ _ _ _ _ _ _ _ _ _ _ _ => by kernel_rfl
theorem rjO_2_9_3 : RjO 2 9 3 := fun _ _ _ _ _ _ _ _ _ _ _ _ _ _ _ _ _ _ _ _ _ _ _ _ => by kernel_rfl
theorem rjO_2_9_4 : RjO 2 9 4 := fun _ _ _ _ _ _ _ _ _ _ _ _ _ _ _ _ _ _ _ _ _ _ _ _ => by kernel_rfl
theorem rjO_2_9_5 : RjO 2 9 5 := fun _ _ _ _ _ _ _ _ _ _ _ _ _ _ _ _ _ _ _ _ _ _ _ _ => by kernel_rfl
theorem rjC_2_10 : RjC 2 10 := fun _ _ _ _ _ _ _ _ _ _ _ _ _ => by kernel_rfl
theorem rjV_2_10 : RjV 2 10 := fun _ _ _ _ _ _ _ _ _ _ _ _ _ _ _ _ _ _ => by kernel_rfl
theorem rjO_2_10_2 : RjO 2 10 2 := fun _ _ _ _ _ _ _ _ _ _ _ _ _ _ _ _ _ _ _ _ _ _ _ _ => by kernel_rfl
theorem rjO_2_10_3 : RjO 2 10 3 := fun _ _ _ _ _ _ _ _ _ _ _ _ _ _ _ _ _ _ _ _ _ _ _ _ => by kernel_rfl
theorem rjO_2_10_4 : RjO 2 10 4 := fun _ _ _ _ _ _ _ _ _ _ _ _ _ _ _ _ _ _ _ _ _ _ _ _ => by kernel_rfl
theorem rjO_2_10_5 : RjO 2 10 5 := fun _ _ _ _ _ _ _ _ _ _ _ _ _ _ _ _ _ _ _ _ _ _ _ _ => by kernel_rfl
theorem rjC_2_11 : RjC 2 11 := fun _ _ _ _ _ _ _ _ _ _ _ _ _ => by kernel_rfl
theorem rjV_2_11 : RjV 2 11 := fun _ _ _ _ _ _ _ _ _ _ _ _ _ _ _ _ _ _ => by kernel_rfl
theorem rjO_2_11_2 : RjO 2 11 2 := fun _ _ _ _ _ _ _ _ _ _ _ _ _ _ _ _ _ _ _ _ _ _ _ _ => by kernel_rfl
theorem rjO_2_11_3 : RjO 2 11 3 := fun _ _ _ _ _ _ _ _ _ _ _ _ _ _ _ _ _ _ _ _ _ _ _ _ => by kernel_rfl
theorem rjO_2_11_4 : RjO 2 11 4 := fun _ _ _ _ _ _ _ _ _ _ _ _ _ _ _ _ _ _ _ _ _ _ _ _ => by kernel_rfl
theorem rjO_2_11_5 : RjO 2 11 5 := fun _ _ _ _ _ _ _ _ _ _ _ _ _ _ _ _ _ _ _ _ _ _ _ _ => by kernel_rfl
theorem rjE_2_2 : RjE 2 2 := fun _ _ _ _ _ _ => by kernel_rfl
theorem rjE_2_3 : RjE 2 3 := fun _ _ _ _ _ _ => by kernel_rfl
theorem rjE_2_4 : RjE 2 4 := fun _ _ _ _ _ _ => by kernel_rfl
theorem rjE_2_5 : RjE 2 5 := fun _ _ _ _ _ _ => by kernel_rfl
theorem rjE_2_6 : RjE 2 6 := fun _ _ _ _ _ _ => by kernel_rfl
theorem rjE_2_7 : RjE 2 7 := fun _ _ _ _ _ _ => by kernel_rfl
theorem rjE_2_8 : RjE 2 8 := fun _ _ _ _ _ _ => by kernel_rfl
theorem rjE_2_9 : RjE 2 9 := fun _ _ _ _ _ _ => by kernel_rfl
theorem rjE_2_10 : RjE 2 10 := fun _ _ _ _ _ _ => by kernel_rfl
theorem rjE_2_11 : RjE 2 11 := fun _ _ _ _ _ _ => by kernel_rfl
theorem rjE_2_12 : RjE 2 12 := fun _ _ _ _ _ _ => by kernel_rfl
theorem rjC_2 : ∀ k, k < 12 → RjC 2 k
  | 0, _ => rjC_2_0
  | 1, _ => rjC_2_1
  | 2, _ => rjC_2_2
  | 3, _ => rjC_2_3
  | 4, _ => rjC_2_4
  | 5, _ => rjC_2_5
  | 6, _ => rjC_2_6
  | 7, _ => rjC_2_7
  | 8, _ => rjC_2_8
  | 9, _ => rjC_2_9
  | 10, _ => rjC_2_10
  | 11, _ => rjC_2_11
  | n + 12, h => absurd h (by omega)
theorem rjV_2 : ∀ k, k < 12 → RjV 2 k
  | 0, _ => rjV_2_0
  | 1, _ => rjV_2_1
  | 2, _ => rjV_2_2
  | 3, _ => rjV_2_3
  | 4, _ => rjV_2_4
  | 5, _ => rjV_2_5
  | 6, _ => rjV_2_6
  | 7, _ => rjV_2_7
  | 8, _ => rjV_2_8
  | 9, _ => rjV_2_9
  | 10, _ => rjV_2_10
  | 11, _ => rjV_2_11
  | n + 12, h => absurd h (by omega)
theorem rjO_2_K2 : ∀ k, 1 ≤ k → k < 12 → RjO 2 k 2
  | 0, h, _ => absurd h (by omega)
  | 1, _, _ => rjO_2_1_2
  | 2, _, _ => rjO_2_2_2
  | 3, _, _ => rjO_2_3_2
  | 4, _, _ => rjO_2_4_2
  | 5, _, _ => rjO_2_5_2
  | 6, _, _ => rjO_2_6_2
  | 7, _, _ => rjO_2_7_2
  | 8, _, _ => rjO_2_8_2
  | 9, _, _ => rjO_2_9_2
  | 10, _, _ => rjO_2_10_2
  | 11, _, _ => rjO_2_11_2
  | n + 12, _, h => absurd h (by omega)
theorem rjO_2_K3 : ∀ k, 1 ≤ k → k < 12 → RjO 2 k 3
  | 0, h, _ => absurd h (by omega)
  | 1, _, _ => rjO_2_1_3
  | 2, _, _ => rjO_2_2_3
  | 3, _, _ => rjO_2_3_3
  | 4, _, _ => rjO_2_4_3
  | 5, _, _ => rjO_2_5_3
  | 6, _, _ => rjO_2_6_3
  | 7, _, _ => rjO_2_7_3
  | 8, _, _ => rjO_2_8_3
  | 9, _, _ => rjO_2_9_3
  | 10, _, _ => rjO_2_10_3
  | 11, _, _ => rjO_2_11_3
  | n + 12, _, h => absurd h (by omega)
theorem rjO_2_K4 : ∀ k, 1 ≤ k → k < 12 → RjO 2 k 4
  | 0, h, _ => absurd h (by omega)
  | 1, _, _ => rjO_2_1_4
  | 2, _, _ => rjO_2_2_4
  | 3, _, _ => rjO_2_3_4
  | 4, _, _ => rjO_2_4_4
  | 5, _, _ => rjO_2_5_4
  | 6, _, _ => rjO_2_6_4
  | 7, _, _ => rjO_2_7_4
  | 8, _, _ => rjO_2_8_4
  | 9, _, _ => rjO_2_9_4
  | 10, _, _ => rjO_2_10_4
  | 11, _, _ => rjO_2_11_4
  | n + 12, _, h => absurd h (by omega)
theorem rjO_2_K5 : ∀ k, 1 ≤ k → k < 12 → RjO 2 k 5
  | 0, h, _ => absurd h (by omega)
  | 1, _, _ => rjO_2_1_5
  | 2, _, _ => rjO_2_2_5
  | 3, _, _ => rjO_2_3_5
  | 4, _, _ => rjO_2_4_5
  | 5, _, _ => rjO_2_5_5
  | 6, _, _ => rjO_2_6_5
  | 7, _, _ => rjO_2_7_5
  | 8, _, _ => rjO_2_8_5
  | 9, _, _ => rjO_2_9_5
  | 10, _, _ => rjO_2_10_5
  | 11, _, _ => rjO_2_11_5
  | n + 12, _, h => absurd h (by omega)
theorem rjE_2 : ∀ k, 2 ≤ k → k < 13 → RjE 2 k
  | 0, h, _ => absurd h (by omega)
  | 1, h, _ => absurd h (by omega)
  | 2, _, _ => rjE_2_2
  | 3, _, _ => rjE_2_3
  | 4, _, _ => rjE_2_4
  | 5, _, _ => rjE_2_5
  | 6, _, _ => rjE_2_6
  | 7, _, _ => rjE_2_7
  | 8, _, _ => rjE_2_8
  | 9, _, _ => rjE_2_9
  | 10, _, _ => rjE_2_10
  | 11, _, _ => rjE_2_11
  | 12, _, _ => rjE_2_12
  | n + 13, _, h => absurd h (by omega)

end Go.Proofs.Ytdlinjijccnaeaa
