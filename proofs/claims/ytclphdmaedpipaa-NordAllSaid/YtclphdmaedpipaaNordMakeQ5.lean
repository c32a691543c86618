/- What Make of the rows makes: order 5, one to three numbers a row, whatever was handed in. -/
import Derived.Test.YtclphdmaedpipaaNordMake
import Derived.Test.YtclphdmaedpipaaNordMakeV1
import Derived.Test.YtclphdmaedpipaaNordMakeV2
import Derived.Test.YtclphdmaedpipaaNordMakeV3
import Derived.Test.YtclphdmaedpipaaNordMakeV4
namespace Go.Proofs.Ytclphdmaedpipaa
open Go
set_option linter.unusedVariables false
set_option maxRecDepth 100000

theorem make_5_1 : ∀ zs : List Int, MakeOK 5 1 zs
  | [] => make_short [0, 1, 2, 3, 4, 5] rfl (fun n => by kernel_rfl)
  | [z0] => make_short [z0, 1, 2, 3, 4, 5] rfl (fun n => by kernel_rfl)
  | [z0, z1] => make_short [z0, z1, 2, 3, 4, 5] rfl (fun n => by kernel_rfl)
  | [z0, z1, z2] => make_short [z0, z1, z2, 3, 4, 5] rfl (fun n => by kernel_rfl)
  | [z0, z1, z2, z3] => make_short [z0, z1, z2, z3, 4, 5] rfl (fun n => by kernel_rfl)
  | [z0, z1, z2, z3, z4] => make_short [z0, z1, z2, z3, z4, 5] rfl (fun n => by kernel_rfl)
  | z0 :: z1 :: z2 :: z3 :: z4 :: z5 :: rest => make_long [z0, z1, z2, z3, z4, z5] rfl (by simp) (fun n => by kernel_rfl)

theorem make_5_2 : ∀ zs : List Int, MakeOK 5 2 zs
  | [] => make_short [0, 1, 1, 2, 2, 3, 3, 4, 4, 5, 5, 6] rfl (fun n => by kernel_rfl)
  | [z0] => make_short [z0, 1, 1, 2, 2, 3, 3, 4, 4, 5, 5, 6] rfl (fun n => by kernel_rfl)
  | [z0, z1] => make_short [z0, z1, 1, 2, 2, 3, 3, 4, 4, 5, 5, 6] rfl (fun n => by kernel_rfl)
  | [z0, z1, z2] => make_short [z0, z1, z2, 2, 2, 3, 3, 4, 4, 5, 5, 6] rfl (fun n => by kernel_rfl)
  | [z0, z1, z2, z3] => make_short [z0, z1, z2, z3, 2, 3, 3, 4, 4, 5, 5, 6] rfl (fun n => by kernel_rfl)
  | [z0, z1, z2, z3, z4] => make_short [z0, z1, z2, z3, z4, 3, 3, 4, 4, 5, 5, 6] rfl (fun n => by kernel_rfl)
  | [z0, z1, z2, z3, z4, z5] => make_short [z0, z1, z2, z3, z4, z5, 3, 4, 4, 5, 5, 6] rfl (fun n => by kernel_rfl)
  | [z0, z1, z2, z3, z4, z5, z6] => make_short [z0, z1, z2, z3, z4, z5, z6, 4, 4, 5, 5, 6] rfl (fun n => by kernel_rfl)
  | [z0, z1, z2, z3, z4, z5, z6, z7] => make_short [z0, z1, z2, z3, z4, z5, z6, z7, 4, 5, 5, 6] rfl (fun n => by kernel_rfl)
  | [z0, z1, z2, z3, z4, z5, z6, z7, z8] => make_short [z0, z1, z2, z3, z4, z5, z6, z7, z8, 5, 5, 6] rfl (fun n => by kernel_rfl)
  | [z0, z1, z2, z3, z4, z5, z6, z7, z8, z9] => make_short [z0, z1, z2, z3, z4, z5, z6, z7, z8, z9, 5, 6] rfl (fun n => by kernel_rfl)
  | [z0, z1, z2, z3, z4, z5, z6, z7, z8, z9, z10] => make_short [z0, z1, z2, z3, z4, z5, z6, z7, z8, z9, z10, 6] rfl (fun n => by kernel_rfl)
  | z0 :: z1 :: z2 :: z3 :: z4 :: z5 :: z6 :: z7 :: z8 :: z9 :: z10 :: z11 :: rest => make_long [z0, z1, z2, z3, z4, z5, z6, z7, z8, z9, z10, z11] rfl (by simp) (fun n => by kernel_rfl)

theorem make_5_3 : ∀ zs : List Int, MakeOK 5 3 zs
  | [] => make_5_3_0 
  | [z0] => make_5_3_1 z0
  | [z0, z1] => make_5_3_2 z0 z1
  | [z0, z1, z2] => make_5_3_3 z0 z1 z2
  | [z0, z1, z2, z3] => make_5_3_4 z0 z1 z2 z3
  | [z0, z1, z2, z3, z4] => make_5_3_5 z0 z1 z2 z3 z4
  | [z0, z1, z2, z3, z4, z5] => make_5_3_6 z0 z1 z2 z3 z4 z5
  | [z0, z1, z2, z3, z4, z5, z6] => make_5_3_7 z0 z1 z2 z3 z4 z5 z6
  | [z0, z1, z2, z3, z4, z5, z6, z7] => make_5_3_8 z0 z1 z2 z3 z4 z5 z6 z7
  | [z0, z1, z2, z3, z4, z5, z6, z7, z8] => make_5_3_9 z0 z1 z2 z3 z4 z5 z6 z7 z8
  | [z0, z1, z2, z3, z4, z5, z6, z7, z8, z9] => make_5_3_10 z0 z1 z2 z3 z4 z5 z6 z7 z8 z9
  | [z0, z1, z2, z3, z4, z5, z6, z7, z8, z9, z10] => make_5_3_11 z0 z1 z2 z3 z4 z5 z6 z7 z8 z9 z10
  | [z0, z1, z2, z3, z4, z5, z6, z7, z8, z9, z10, z11] => make_5_3_12 z0 z1 z2 z3 z4 z5 z6 z7 z8 z9 z10 z11
  | [z0, z1, z2, z3, z4, z5, z6, z7, z8, z9, z10, z11, z12] => make_5_3_13 z0 z1 z2 z3 z4 z5 z6 z7 z8 z9 z10 z11 z12
  | [z0, z1, z2, z3, z4, z5, z6, z7, z8, z9, z10, z11, z12, z13] => make_5_3_14 z0 z1 z2 z3 z4 z5 z6 z7 z8 z9 z10 z11 z12 z13
  | [z0, z1, z2, z3, z4, z5, z6, z7, z8, z9, z10, z11, z12, z13, z14] => make_5_3_15 z0 z1 z2 z3 z4 z5 z6 z7 z8 z9 z10 z11 z12 z13 z14
  | [z0, z1, z2, z3, z4, z5, z6, z7, z8, z9, z10, z11, z12, z13, z14, z15] => make_5_3_16 z0 z1 z2 z3 z4 z5 z6 z7 z8 z9 z10 z11 z12 z13 z14 z15
  | [z0, z1, z2, z3, z4, z5, z6, z7, z8, z9, z10, z11, z12, z13, z14, z15, z16] => make_5_3_17 z0 z1 z2 z3 z4 z5 z6 z7 z8 z9 z10 z11 z12 z13 z14 z15 z16
  | z0 :: z1 :: z2 :: z3 :: z4 :: z5 :: z6 :: z7 :: z8 :: z9 :: z10 :: z11 :: z12 :: z13 :: z14 :: z15 :: z16 :: z17 :: rest => make_5_3_18 z0 z1 z2 z3 z4 z5 z6 z7 z8 z9 z10 z11 z12 z13 z14 z15 z16 z17 rest

end Go.Proofs.Ytclphdmaedpipaa
