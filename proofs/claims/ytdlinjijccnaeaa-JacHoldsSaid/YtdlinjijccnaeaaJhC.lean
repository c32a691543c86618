/- JacHolds: its last loop, round by round. -/
import Derived.Test.YtdlinjijccnaeaaJhR
namespace Go.Proofs.Ytdlinjijccnaeaa
open Go
set_option linter.unusedVariables false
set_option linter.unusedSimpArgs false
set_option maxRecDepth 100000

theorem rdJcEnd_1 : RdJcEnd 1 := fun _ _ _ _ _ _ _ _ _ => by kernel_rfl
theorem rdJc_1_0_0 : RdJc 1 0 (fun k => [0].getD k 0) := fun _ _ _ _ _ _ _ _ _ _ _ => by kernel_rfl
theorem rdJc_1_0_1 : RdJc 1 0 (fun k => [1].getD k 0) := fun _ _ _ _ _ _ _ _ _ _ _ => by kernel_rfl
theorem rdJc_1_0_2 : RdJc 1 0 (fun k => [2].getD k 0) := fun _ _ _ _ _ _ _ _ _ _ _ => by kernel_rfl
theorem rdJcC_1_0 : ∀ (a : Nat), a ≤ 2 → RdJc 1 0 (fun k => [a].getD k 0)
  | 0, _ => rdJc_1_0_0
  | 1, _ => rdJc_1_0_1
  | 2, _ => rdJc_1_0_2
  | z + 3, h => absurd h (by omega)
theorem rdJcEnd_2 : RdJcEnd 2 := fun _ _ _ _ _ _ _ _ _ => by kernel_rfl
theorem rdJc_2_0_00 : RdJc 2 0 (fun k => [0, 0].getD k 0) := fun _ _ _ _ _ _ _ _ _ _ _ => by kernel_rfl
theorem rdJc_2_0_01 : RdJc 2 0 (fun k => [0, 1].getD k 0) := fun _ _ _ _ _ _ _ _ _ _ _ => by kernel_rfl
theorem rdJc_2_0_02 : RdJc 2 0 (fun k => [0, 2].getD k 0) := fun _ _ _ _ _ _ _ _ _ _ _ => by kernel_rfl
theorem rdJc_2_0_10 : RdJc 2 0 (fun k => [1, 0].getD k 0) := fun _ _ _ _ _ _ _ _ _ _ _ => by kernel_rfl
theorem rdJc_2_0_11 : RdJc 2 0 (fun k => [1, 1].getD k 0) := fun _ _ _ _ _ _ _ _ _ _ _ => by kernel_rfl
theorem rdJc_2_0_12 : RdJc 2 0 (fun k => [1, 2].getD k 0) := fun _ _ _ _ _ _ _ _ _ _ _ => by kernel_rfl
theorem rdJc_2_0_20 : RdJc 2 0 (fun k => [2, 0].getD k 0) := fun _ _ _ _ _ _ _ _ _ _ _ => by kernel_rfl
theorem rdJc_2_0_21 : RdJc 2 0 (fun k => [2, 1].getD k 0) := fun _ _ _ _ _ _ _ _ _ _ _ => by kernel_rfl
theorem rdJc_2_0_22 : RdJc 2 0 (fun k => [2, 2].getD k 0) := fun _ _ _ _ _ _ _ _ _ _ _ => by kernel_rfl
theorem rdJcC_2_0 : ∀ (a b : Nat), a ≤ 2 → b ≤ 2 → RdJc 2 0 (fun k => [a, b].getD k 0)
  | 0, 0, _, _ => rdJc_2_0_00
  | 0, 1, _, _ => rdJc_2_0_01
  | 0, 2, _, _ => rdJc_2_0_02
  | 1, 0, _, _ => rdJc_2_0_10
  | 1, 1, _, _ => rdJc_2_0_11
  | 1, 2, _, _ => rdJc_2_0_12
  | 2, 0, _, _ => rdJc_2_0_20
  | 2, 1, _, _ => rdJc_2_0_21
  | 2, 2, _, _ => rdJc_2_0_22
  | z + 3, _, h, _ => absurd h (by omega)
  | _, z + 3, _, h => absurd h (by omega)
theorem rdJc_2_1_00 : RdJc 2 1 (fun k => [0, 0].getD k 0) := fun _ _ _ _ _ _ _ _ _ _ _ => by kernel_rfl
theorem rdJc_2_1_01 : RdJc 2 1 (fun k => [0, 1].getD k 0) := fun _ _ _ _ _ _ _ _ _ _ _ => by kernel_rfl
theorem rdJc_2_1_02 : RdJc 2 1 (fun k => [0, 2].getD k 0) := fun _ _ _ _ _ _ _ _ _ _ _ => by kernel_rfl
theorem rdJc_2_1_10 : RdJc 2 1 (fun k => [1, 0].getD k 0) := fun _ _ _ _ _ _ _ _ _ _ _ => by kernel_rfl
theorem rdJc_2_1_11 : RdJc 2 1 (fun k => [1, 1].getD k 0) := fun _ _ _ _ _ _ _ _ _ _ _ => by kernel_rfl
theorem rdJc_2_1_12 : RdJc 2 1 (fun k => [1, 2].getD k 0) := fun _ _ _ _ _ _ _ _ _ _ _ => by kernel_rfl
theorem rdJc_2_1_20 : RdJc 2 1 (fun k => [2, 0].getD k 0) := fun _ _ _ _ _ _ _ _ _ _ _ => by kernel_rfl
theorem rdJc_2_1_21 : RdJc 2 1 (fun k => [2, 1].getD k 0) := fun _ _ _ _ _ _ _ _ _ _ _ => by kernel_rfl
theorem rdJc_2_1_22 : RdJc 2 1 (fun k => [2, 2].getD k 0) := fun _ _ _ _ _ _ _ _ _ _ _ => by kernel_rfl
theorem rdJcC_2_1 : ∀ (a b : Nat), a ≤ 2 → b ≤ 2 → RdJc 2 1 (fun k => [a, b].getD k 0)
  | 0, 0, _, _ => rdJc_2_1_00
  | 0, 1, _, _ => rdJc_2_1_01
  | 0, 2, _, _ => rdJc_2_1_02
  | 1, 0, _, _ => rdJc_2_1_10
  | 1, 1, _, _ => rdJc_2_1_11
  | 1, 2, _, _ => rdJc_2_1_12
  | 2, 0, _, _ => rdJc_2_1_20
  | 2, 1, _, _ => rdJc_2_1_21
  | 2, 2, _, _ => rdJc_2_1_22
  | z + 3, _, h, _ => absurd h (by omega)
  | _, z + 3, _, h => absurd h (by omega)
theorem rdJcEnd_3 : RdJcEnd 3 := fun _ _ _ _ _ _ _ _ _ => by kernel_rfl
theorem rdJc_3_0_000 : RdJc 3 0 (fun k => [0, 0, 0].getD k 0) := fun _ _ _ _ _ _ _ _ _ _ _ => by kernel_rfl
theorem rdJc_3_0_001 : RdJc 3 0 (fun k => [0, 0, 1].getD k 0) := fun _ _ _ _ _ _ _ _ _ _ _ => by kernel_rfl
theorem rdJc_3_0_002 : RdJc 3 0 (fun k => [0, 0, 2].getD k 0) := fun _ _ _ _ _ _ _ _ _ _ _ => by kernel_rfl
theorem rdJc_3_0_010 : RdJc 3 0 (fun k => [0, 1, 0].getD k 0) := fun _ _ _ _ _ _ _ _ _ _ _ => by kernel_rfl
theorem rdJc_3_0_011 : RdJc 3 0 (fun k => [0, 1, 1].getD k 0) := fun _ _ _ _ _ _ _ _ _ _ _ => by kernel_rfl
theorem rdJc_3_0_012 : RdJc 3 0 (fun k => [0, 1, 2].getD k 0) := fun _ _ _ _ _ _ _ _ _ _ _ => by kernel_rfl
theorem rdJc_3_0_020 : RdJc 3 0 (fun k => [0, 2, 0].getD k 0) := fun _ _ _ _ _ _ _ _ _ _ _ => by kernel_rfl
theorem rdJc_3_0_021 : RdJc 3 0 (fun k => [0, 2, 1].getD k 0) := fun _ _ _ _ _ _ _ _ _ _ _ => by kernel_rfl
theorem rdJc_3_0_022 : RdJc 3 0 (fun k => [0, 2, 2].getD k 0) := fun _ _ _ _ _ _ _ _ _ _ _ => by kernel_rfl
theorem rdJc_3_0_100 : RdJc 3 0 (fun k => [1, 0, 0].getD k 0) := fun _ _ _ _ _ _ _ _ _ _ _ => by kernel_rfl
theorem rdJc_3_0_101 : RdJc 3 0 (fun k => [1, 0, 1].getD k 0) := fun _ _ _ _ _ _ _ _ _ _ _ => by kernel_rfl
theorem rdJc_3_0_102 : RdJc 3 0 (fun k => [1, 0, 2].getD k 0) := fun _ _ _ _ _ _ _ _ _ _ _ => by kernel_rfl
theorem rdJc_3_0_110 : RdJc 3 0 (fun k => [1, 1, 0].getD k 0) := fun _ _ _ _ _ _ _ _ _ _ _ => by kernel_rfl
theorem rdJc_3_0_111 : RdJc 3 0 (fun k => [1, 1, 1].getD k 0) := fun _ _ _ _ _ _ _ _ _ _ _ => by kernel_rfl
theorem rdJc_3_0_112 : RdJc 3 0 (fun k => [1, 1, 2].getD k 0) := fun _ _ _ _ _ _ _ _ _ _ _ => by kernel_rfl
theorem rdJc_3_0_120 : RdJc 3 0 (fun k => [1, 2, 0].getD k 0) := fun _ _ _ _ _ _ _ _ _ _ _ => by kernel_rfl
theorem rdJc_3_0_121 : RdJc 3 0 (fun k => [1, 2, 1].getD k 0) := fun _ _ _ _ _ _ _ _ _ _ _ => by kernel_rfl
theorem rdJc_3_0_122 : RdJc 3 0 (fun k => [1, 2, 2].getD k 0) := fun _ _ _ _ _ _ _ _ _ _ _ => by kernel_rfl
theorem rdJc_3_0_200 : RdJc 3 0 (fun k => [2, 0, 0].getD k 0) := fun _ _ _ _ _ _ _ _ _ _ _ => by kernel_rfl
theorem rdJc_3_0_201 : RdJc 3 0 (fun k => [2, 0, 1].getD k 0) := fun _ _ _ _ _ _ _ _ _ _ _ => by kernel_rfl
theorem rdJc_3_0_202 : RdJc 3 0 (fun k => [2, 0, 2].getD k 0) := fun _ _ _ _ _ _ _ _ _ _ _ => by kernel_rfl
theorem rdJc_3_0_210 : RdJc 3 0 (fun k => [2, 1, 0].getD k 0) := fun _ _ _ _ _ _ _ _ _ _ _ => by kernel_rfl
theorem rdJc_3_0_211 : RdJc 3 0 (fun k => [2, 1, 1].getD k 0) := fun _ _ _ _ _ _ _ _ _ _ _ => by kernel_rfl
theorem rdJc_3_0_212 : RdJc 3 0 (fun k => [2, 1, 2].getD k 0) := fun _ _ _ _ _ _ _ _ _ _ _ => by kernel_rfl
theorem rdJc_3_0_220 : RdJc 3 0 (fun k => [2, 2, 0].getD k 0) := fun _ _ _ _ _ _ _ _ _ _ _ => by kernel_rfl
theorem rdJc_3_0_221 : RdJc 3 0 (fun k => [2, 2, 1].getD k 0) := fun _ _ _ _ _ _ _ _ _ _ _ => by kernel_rfl
theorem rdJc_3_0_222 : RdJc 3 0 (fun k => [2, 2, 2].getD k 0) := fun _ _ _ _ _ _ _ _ _ _ _ => by kernel_rfl
theorem rdJcC_3_0 : ∀ (a b e : Nat), a ≤ 2 → b ≤ 2 → e ≤ 2 → RdJc 3 0 (fun k => [a, b, e].getD k 0)
  | 0, 0, 0, _, _, _ => rdJc_3_0_000
  | 0, 0, 1, _, _, _ => rdJc_3_0_001
  | 0, 0, 2, _, _, _ => rdJc_3_0_002
  | 0, 1, 0, _, _, _ => rdJc_3_0_010
  | 0, 1, 1, _, _, _ => rdJc_3_0_011
  | 0, 1, 2, _, _, _ => rdJc_3_0_012
  | 0, 2, 0, _, _, _ => rdJc_3_0_020
  | 0, 2, 1, _, _, _ => rdJc_3_0_021
  | 0, 2, 2, _, _, _ => rdJc_3_0_022
  | 1, 0, 0, _, _, _ => rdJc_3_0_100
  | 1, 0, 1, _, _, _ => rdJc_3_0_101
  | 1, 0, 2, _, _, _ => rdJc_3_0_102
  | 1, 1, 0, _, _, _ => rdJc_3_0_110
  | 1, 1, 1, _, _, _ => rdJc_3_0_111
  | 1, 1, 2, _, _, _ => rdJc_3_0_112
  | 1, 2, 0, _, _, _ => rdJc_3_0_120
  | 1, 2, 1, _, _, _ => rdJc_3_0_121
  | 1, 2, 2, _, _, _ => rdJc_3_0_122
  | 2, 0, 0, _, _, _ => rdJc_3_0_200
  | 2, 0, 1, _, _, _ => rdJc_3_0_201
  | 2, 0, 2, _, _, _ => rdJc_3_0_202
  | 2, 1, 0, _, _, _ => rdJc_3_0_210
  | 2, 1, 1, _, _, _ => rdJc_3_0_211
  | 2, 1, 2, _, _, _ => rdJc_3_0_212
  | 2, 2, 0, _, _, _ => rdJc_3_0_220
  | 2, 2, 1, _, _, _ => rdJc_3_0_221
  | 2, 2, 2, _, _, _ => rdJc_3_0_222
  | z + 3, _, _, h, _, _ => absurd h (by omega)
  | _, z + 3, _, _, h, _ => absurd h (by omega)
  | _, _, z + 3, _, _, h => absurd h (by omega)
theorem rdJc_3_1_000 : RdJc 3 1 (fun k => [0, 0, 0].getD k 0) := fun _ _ _ _ _ _ _ _ _ _ _ => by kernel_rfl
theorem rdJc_3_1_001 : RdJc 3 1 (fun k => [0, 0, 1].getD k 0) := fun _ _ _ _ _ _ _ _ _ _ _ => by kernel_rfl
theorem rdJc_3_1_002 : RdJc 3 1 (fun k => [0, 0, 2].getD k 0) := fun _ _ _ _ _ _ _ _ _ _ _ => by kernel_rfl
theorem rdJc_3_1_010 : RdJc 3 1 (fun k => [0, 1, 0].getD k 0) := fun _ _ _ _ _ _ _ _ _ _ _ => by kernel_rfl
theorem rdJc_3_1_011 : RdJc 3 1 (fun k => [0, 1, 1].getD k 0) := fun _ _ _ _ _ _ _ _ _ _ _ => by kernel_rfl
theorem rdJc_3_1_012 : RdJc 3 1 (fun k => [0, 1, 2].getD k 0) := fun _ _ _ _ _ _ _ _ _ _ _ => by kernel_rfl
theorem rdJc_3_1_020 : RdJc 3 1 (fun k => [0, 2, 0].getD k 0) := fun _ _ _ _ _ _ _ _ _ _ _ => by kernel_rfl
theorem rdJc_3_1_021 : RdJc 3 1 (fun k => [0, 2, 1].getD k 0) := fun _ _ _ _ _ _ _ _ _ _ _ => by kernel_rfl
theorem rdJc_3_1_022 : RdJc 3 1 (fun k => [0, 2, 2].getD k 0) := fun _ _ _ _ _ _ _ _ _ _ _ => by kernel_rfl
theorem rdJc_3_1_100 : RdJc 3 1 (fun k => [1, 0, 0].getD k 0) := fun _ _ _ _ _ _ _ _ _ _ _ => by kernel_rfl
theorem rdJc_3_1_101 : RdJc 3 1 (fun k => [1, 0, 1].getD k 0) := fun _ _ _ _ _ _ _ _ _ _ _ => by kernel_rfl
theorem rdJc_3_1_102 : RdJc 3 1 (fun k => [1, 0, 2].getD k 0) := fun _ _ _ _ _ _ _ _ _ _ _ => by kernel_rfl
theorem rdJc_3_1_110 : RdJc 3 1 (fun k => [1, 1, 0].getD k 0) := fun _ _ _ _ _ _ _ _ _ _ _ => by kernel_rfl
theorem rdJc_3_1_111 : RdJc 3 1 (fun k => [1, 1, 1].getD k 0) := fun _ _ _ _ _ _ _ _ _ _ _ => by kernel_rfl
theorem rdJc_3_1_112 : RdJc 3 1 (fun k => [1, 1, 2].getD k 0) := fun _ _ _ _ _ _ _ _ _ _ _ => by kernel_rfl
theorem rdJc_3_1_120 : RdJc 3 1 (fun k => [1, 2, 0].getD k 0) := fun _ _ _ _ _ _ _ _ _ _ _ => by kernel_rfl
theorem rdJc_3_1_121 : RdJc 3 1 (fun k => [1, 2, 1].getD k 0) := fun _ _ _ _ _ _ _ _ _ _ _ => by kernel_rfl
theorem rdJc_3_1_122 : RdJc 3 1 (fun k => [1, 2, 2].getD k 0) := fun _ _ _ _ _ _ _ _ _ _ _ => by kernel_rfl
theorem rdJc_3_1_200 : RdJc 3 1 (fun k => [2, 0, 0].getD k 0) := fun _ _ _ _ _ _ _ _ _ _ _ => by kernel_rfl
theorem rdJc_3_1_201 : RdJc 3 1 (fun k => [2, 0, 1].getD k 0) := fun _ _ _ _ _ _ _ _ _ _ _ => by kernel_rfl
theorem rdJc_3_1_202 : RdJc 3 1 (fun k => [2, 0, 2].getD k 0) := fun _ _ _ _ _ _ _ _ _ _ _ => by kernel_rfl
theorem rdJc_3_1_210 : RdJc 3 1 (fun k => [2, 1, 0].getD k 0) := fun _ _ _ _ _ _ _ _ _ _ _ => by kernel_rfl
theorem rdJc_3_1_211 : RdJc 3 1 (fun k => [2, 1, 1].getD k 0) := fun _ _ _ _ _ _ _ _ _ _ _ => by kernel_rfl
theorem rdJc_3_1_212 : RdJc 3 1 (fun k => [2, 1, 2].getD k 0) := fun _ _ _ _ _ _ _ _ _ _ _ => by kernel_rfl
theorem rdJc_3_1_220 : RdJc 3 1 (fun k => [2, 2, 0].getD k 0) := fun _ _ _ _ _ _ _ _ _ _ _ => by kernel_rfl
theorem rdJc_3_1_221 : RdJc 3 1 (fun k => [2, 2, 1].getD k 0) := fun _ _ _ _ _ _ _ _ _ _ _ => by kernel_rfl
theorem rdJc_3_1_222 : RdJc 3 1 (fun k => [2, 2, 2].getD k 0) := fun _ _ _ _ _ _ _ _ _ _ _ => by kernel_rfl
theorem rdJcC_3_1 : ∀ (a b e : Nat), a ≤ 2 → b ≤ 2 → e ≤ 2 → RdJc 3 1 (fun k => [a, b, e].getD k 0)
  | 0, 0, 0, _, _, _ => rdJc_3_1_000
  | 0, 0, 1, _, _, _ => rdJc_3_1_001
  | 0, 0, 2, _, _, _ => rdJc_3_1_002
  | 0, 1, 0, _, _, _ => rdJc_3_1_010
  | 0, 1, 1, _, _, _ => rdJc_3_1_011
  | 0, 1, 2, _, _, _ => rdJc_3_1_012
  | 0, 2, 0, _, _, _ => rdJc_3_1_020
  | 0, 2, 1, _, _, _ => rdJc_3_1_021
  | 0, 2, 2, _, _, _ => rdJc_3_1_022
  | 1, 0, 0, _, _, _ => rdJc_3_1_100
  | 1, 0, 1, _, _, _ => rdJc_3_1_101
  | 1, 0, 2, _, _, _ => rdJc_3_1_102
  | 1, 1, 0, _, _, _ => rdJc_3_1_110
  | 1, 1, 1, _, _, _ => rdJc_3_1_111
  | 1, 1, 2, _, _, _ => rdJc_3_1_112
  | 1, 2, 0, _, _, _ => rdJc_3_1_120
  | 1, 2, 1, _, _, _ => rdJc_3_1_121
  | 1, 2, 2, _, _, _ => rdJc_3_1_122
  | 2, 0, 0, _, _, _ => rdJc_3_1_200
  | 2, 0, 1, _, _, _ => rdJc_3_1_201
  | 2, 0, 2, _, _, _ => rdJc_3_1_202
  | 2, 1, 0, _, _, _ => rdJc_3_1_210
  | 2, 1, 1, _, _, _ => rdJc_3_1_211
  | 2, 1, 2, _, _, _ => rdJc_3_1_212
  | 2, 2, 0, _, _, _ => rdJc_3_1_220
  | 2, 2, 1, _, _, _ => rdJc_3_1_221
  | 2, 2, 2, _, _, _ => rdJc_3_1_222
  | z + 3, _, _, h, _, _ => absurd h (by omega)
  | _, z + 3, _, _, h, _ => absurd h (by omega)
  | _, _, z + 3, _, _, h => absurd h (by omega)
theorem rdJc_3_2_000 : RdJc 3 2 (fun k => [0, 0, 0].getD k 0) := fun _ _ _ _ _ _ _ _ _ _ _ => by kernel_rfl
theorem rdJc_3_2_001 : RdJc 3 2 (fun k => [0, 0, 1].getD k 0) := fun _ _ _ _ _ _ _ _ _ _ _ => by kernel_rfl
theorem rdJc_3_2_002 : RdJc 3 2 (fun k => [0, 0, 2].getD k 0) := fun _ _ _ _ _ _ _ _ _ _ _ => by kernel_rfl
theorem rdJc_3_2_010 : RdJc 3 2 (fun k => [0, 1, 0].getD k 0) := fun _ _ _ _ _ _ _ _ _ _ _ => by kernel_rfl
theorem rdJc_3_2_011 : RdJc 3 2 (fun k => [0, 1, 1].getD k 0) := fun _ _ _ _ _ _ _ _ _ _ _ => by kernel_rfl
theorem rdJc_3_2_012 : RdJc 3 2 (fun k => [0, 1, 2].getD k 0) := fun _ _ _ _ _ _ _ _ _ _ _ => by kernel_rfl
theorem rdJc_3_2_020 : RdJc 3 2 (fun k => [0, 2, 0].getD k 0) := fun _ _ _ _ _ _ _ _ _ _ _ => by kernel_rfl
theorem rdJc_3_2_021 : RdJc 3 2 (fun k => [0, 2, 1].getD k 0) := fun _ _ _ _ _ _ _ _ _ _ _ => by kernel_rfl
theorem rdJc_3_2_022 : RdJc 3 2 (fun k => [0, 2, 2].getD k 0) := fun _ _ _ _ _ _ _ _ _ _ _ => by kernel_rfl
theorem rdJc_3_2_100 : RdJc 3 2 (fun k => [1, 0, 0].getD k 0) := fun _ _ _ _ _ _ _ _ _ _ _ => by kernel_rfl
theorem rdJc_3_2_101 : RdJc 3 2 (fun k => [1, 0, 1].getD k 0) := fun _ _ _ _ _ _ _ _ _ _ _ => by kernel_rfl
theorem rdJc_3_2_102 : RdJc 3 2 (fun k => [1, 0, 2].getD k 0) := fun _ _ _ _ _ _ _ _ _ _ _ => by kernel_rfl
theorem rdJc_3_2_110 : RdJc 3 2 (fun k => [1, 1, 0].getD k 0) := fun _ _ _ _ _ _ _ _ _ _ _ => by kernel_rfl
theorem rdJc_3_2_111 : RdJc 3 2 (fun k => [1, 1, 1].getD k 0) := fun _ _ _ _ _ _ _ _ _ _ _ => by kernel_rfl
theorem rdJc_3_2_112 : RdJc 3 2 (fun k => [1, 1, 2].getD k 0) := fun _ _ _ _ _ _ _ _ _ _ _ => by kernel_rfl
theorem rdJc_3_2_120 : RdJc 3 2 (fun k => [1, 2, 0].getD k 0) := fun _ _ _ _ _ _ _ _ _ _ _ => by kernel_rfl
theorem rdJc_3_2_121 : RdJc 3 2 (fun k => [1, 2, 1].getD k 0) := fun _ _ _ _ _ _ _ _ _ _ _ => by kernel_rfl
theorem rdJc_3_2_122 : RdJc 3 2 (fun k => [1, 2, 2].getD k 0) := fun _ _ _ _ _ _ _ _ _ _ _ => by kernel_rfl
theorem rdJc_3_2_200 : RdJc 3 2 (fun k => [2, 0, 0].getD k 0) := fun _ _ _ _ _ _ _ _ _ _ _ => by kernel_rfl
theorem rdJc_3_2_201 : RdJc 3 2 (fun k => [2, 0, 1].getD k 0) := fun _ _ _ _ _ _ _ _ _ _ _ => by kernel_rfl
theorem rdJc_3_2_202 : RdJc 3 2 (fun k => [2, 0, 2].getD k 0) := fun _ _ _ _ _ _ _ _ _ _ _ => by kernel_rfl
theorem rdJc_3_2_210 : RdJc 3 2 (fun k => [2, 1, 0].getD k 0) := fun _ _ _ _ _ _ _ _ _ _ _ => by kernel_rfl
theorem rdJc_3_2_211 : RdJc 3 2 (fun k => [2, 1, 1].getD k 0) := fun _ _ _ _ _ _ _ _ _ _ _ => by kernel_rfl
theorem rdJc_3_2_212 : RdJc 3 2 (fun k => [2, 1, 2].getD k 0) := fun _ _ _ _ _ _ _ _ _ _ _ => by kernel_rfl
theorem rdJc_3_2_220 : RdJc 3 2 (fun k => [2, 2, 0].getD k 0) := fun _ _ _ _ _ _ _ _ _ _ _ => by kernel_rfl
theorem rdJc_3_2_221 : RdJc 3 2 (fun k => [2, 2, 1].getD k 0) := fun _ _ _ _ _ _ _ _ _ _ _ => by kernel_rfl
theorem rdJc_3_2_222 : RdJc 3 2 (fun k => [2, 2, 2].getD k 0) := fun _ _ _ _ _ _ _ _ _ _ _ => by kernel_rfl
theorem rdJcC_3_2 : ∀ (a b e : Nat), a ≤ 2 → b ≤ 2 → e ≤ 2 → RdJc 3 2 (fun k => [a, b, e].getD k 0)
  | 0, 0, 0, _, _, _ => rdJc_3_2_000
  | 0, 0, 1, _, _, _ => rdJc_3_2_001
  | 0, 0, 2, _, _, _ => rdJc_3_2_002
  | 0, 1, 0, _, _, _ => rdJc_3_2_010
  | 0, 1, 1, _, _, _ => rdJc_3_2_011
  | 0, 1, 2, _, _, _ => rdJc_3_2_012
  | 0, 2, 0, _, _, _ => rdJc_3_2_020
  | 0, 2, 1, _, _, _ => rdJc_3_2_021
  | 0, 2, 2, _, _, _ => rdJc_3_2_022
  | 1, 0, 0, _, _, _ => rdJc_3_2_100
  | 1, 0, 1, _, _, _ => rdJc_3_2_101
  | 1, 0, 2, _, _, _ => rdJc_3_2_102
  | 1, 1, 0, _, _, _ => rdJc_3_2_110
  | 1, 1, 1, _, _, _ => rdJc_3_2_111
  | 1, 1, 2, _, _, _ => rdJc_3_2_112
  | 1, 2, 0, _, _, _ => rdJc_3_2_120
  | 1, 2, 1, _, _, _ => rdJc_3_2_121
  | 1, 2, 2, _, _, _ => rdJc_3_2_122
  | 2, 0, 0, _, _, _ => rdJc_3_2_200
  | 2, 0, 1, _, _, _ => rdJc_3_2_201
  | 2, 0, 2, _, _, _ => rdJc_3_2_202
  | 2, 1, 0, _, _, _ => rdJc_3_2_210
  | 2, 1, 1, _, _, _ => rdJc_3_2_211
  | 2, 1, 2, _, _, _ => rdJc_3_2_212
  | 2, 2, 0, _, _, _ => rdJc_3_2_220
  | 2, 2, 1, _, _, _ => rdJc_3_2_221
  | 2, 2, 2, _, _, _ => rdJc_3_2_222
  | z + 3, _, _, h, _, _ => absurd h (by omega)
  | _, z + 3, _, _, h, _ => absurd h (by omega)
  | _, _, z + 3, _, _, h => absurd h (by omega)
theorem rdJc {N i : Nat} (h1 : 1 ≤ N) (h3 : N ≤ 3) (hi : i < N) (c : Nat → Nat) (hc : ∀ k, c k ≤ 2) : ∃ c' : Nat → Nat, (∀ k, k < N → c' k = c k) ∧ RdJc N i c' := by
  have : (N = 1 ∧ i = 0) ∨ (N = 2 ∧ i = 0) ∨ (N = 2 ∧ i = 1) ∨ (N = 3 ∧ i = 0) ∨ (N = 3 ∧ i = 1) ∨ (N = 3 ∧ i = 2) := by omega
  rcases this with ⟨rfl, rfl⟩ | ⟨rfl, rfl⟩ | ⟨rfl, rfl⟩ | ⟨rfl, rfl⟩ | ⟨rfl, rfl⟩ | ⟨rfl, rfl⟩
  · refine ⟨_, fun k hk => ?_, rdJcC_1_0 (c 0) (hc 0)⟩
    match k, hk with
    | 0, _ => rfl
    | z + 1, h => exact absurd h (by omega)
  · refine ⟨_, fun k hk => ?_, rdJcC_2_0 (c 0) (c 1) (hc 0) (hc 1)⟩
    match k, hk with
    | 0, _ => rfl
    | 1, _ => rfl
    | z + 2, h => exact absurd h (by omega)
  · refine ⟨_, fun k hk => ?_, rdJcC_2_1 (c 0) (c 1) (hc 0) (hc 1)⟩
    match k, hk with
    | 0, _ => rfl
    | 1, _ => rfl
    | z + 2, h => exact absurd h (by omega)
  · refine ⟨_, fun k hk => ?_, rdJcC_3_0 (c 0) (c 1) (c 2) (hc 0) (hc 1) (hc 2)⟩
    match k, hk with
    | 0, _ => rfl
    | 1, _ => rfl
    | 2, _ => rfl
    | z + 3, h => exact absurd h (by omega)
  · refine ⟨_, fun k hk => ?_, rdJcC_3_1 (c 0) (c 1) (c 2) (hc 0) (hc 1) (hc 2)⟩
    match k, hk with
    | 0, _ => rfl
    | 1, _ => rfl
    | 2, _ => rfl
    | z + 3, h => exact absurd h (by omega)
  · refine ⟨_, fun k hk => ?_, rdJcC_3_2 (c 0) (c 1) (c 2) (hc 0) (hc 1) (hc 2)⟩
    match k, hk with
    | 0, _ => rfl
    | 1, _ => rfl
    | 2, _ => rfl
    | z + 3, h => exact absurd h (by omega)
theorem rdJcEnd {N : Nat} (h1 : 1 ≤ N) (h3 : N ≤ 3) : RdJcEnd N := by
  have : N = 1 ∨ N = 2 ∨ N = 3 := by omega
  rcases this with rfl | rfl | rfl
  · exact rdJcEnd_1
  · exact rdJcEnd_2
  · exact rdJcEnd_3

end Go.Proofs.Ytdlinjijccnaeaa
