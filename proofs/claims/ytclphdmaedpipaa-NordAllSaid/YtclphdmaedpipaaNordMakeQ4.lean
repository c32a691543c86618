/- What Make of the rows makes: order 4, one to three numbers a row, whatever was handed in. -/
import Derived.Test.YtclphdmaedpipaaNordMake
namespace Go.Proofs.Ytclphdmaedpipaa
open Go
set_option linter.unusedVariables false
set_option maxRecDepth 100000

theorem make_4_1 : ∀ zs : List Int, MakeOK 4 1 zs
  | [] => make_short [0, 1, 2, 3, 4] rfl (fun n => by kernel_rfl)
  | [z0] => make_short [z0, 1, 2, 3, 4] rfl (fun n => by kernel_rfl)
  | [z0, z1] => make_short [z0, z1, 2, 3, 4] rfl (fun n => by kernel_rfl)
  | [z0, z1, z2] => make_short [z0, z1, z2, 3, 4] rfl (fun n => by kernel_rfl)
  | [z0, z1, z2, z3] => make_short [z0, z1, z2, z3, 4] rfl (fun n => by kernel_rfl)
  | z0 :: z1 :: z2 :: z3 :: z4 :: rest => make_long [z0, z1, z2, z3, z4] rfl (by simp) (fun n => by kernel_rfl)

theorem make_4_2 : ∀ zs : List Int, MakeOK 4 2 zs
  | [] => make_short [0, 1, 1, 2, 2, 3, 3, 4, 4, 5] rfl (fun n => by kernel_rfl)
  | [z0] => make_short [z0, 1, 1, 2, 2, 3, 3, 4, 4, 5] rfl (fun n => by kernel_rfl)
  | [z0, z1] => make_short [z0, z1, 1, 2, 2, 3, 3, 4, 4, 5] rfl (fun n => by kernel_rfl)
  | [z0, z1, z2] => make_short [z0, z1, z2, 2, 2, 3, 3, 4, 4, 5] rfl (fun n => by kernel_rfl)
  | [z0, z1, z2, z3] => make_short [z0, z1, z2, z3, 2, 3, 3, 4, 4, 5] rfl (fun n => by kernel_rfl)
  | [z0, z1, z2, z3, z4] => make_short [z0, z1, z2, z3, z4, 3, 3, 4, 4, 5] rfl (fun n => by kernel_rfl)
  | [z0, z1, z2, z3, z4, z5] => make_short [z0, z1, z2, z3, z4, z5, 3, 4, 4, 5] rfl (fun n => by kernel_rfl)
  | [z0, z1, z2, z3, z4, z5, z6] => make_short [z0, z1, z2, z3, z4, z5, z6, 4, 4, 5] rfl (fun n => by kernel_rfl)
  | [z0, z1, z2, z3, z4, z5, z6, z7] => make_short [z0, z1, z2, z3, z4, z5, z6, z7, 4, 5] rfl (fun n => by kernel_rfl)
  | [z0, z1, z2, z3, z4, z5, z6, z7, z8] => make_short [z0, z1, z2, z3, z4, z5, z6, z7, z8, 5] rfl (fun n => by kernel_rfl)
  | z0 :: z1 :: z2 :: z3 :: z4 :: z5 :: z6 :: z7 :: z8 :: z9 :: rest => make_long [z0, z1, z2, z3, z4, z5, z6, z7, z8, z9] rfl (by simp) (fun n => by kernel_rfl)

theorem make_4_3 : ∀ zs : List Int, MakeOK 4 3 zs
  | [] => make_short [0, 1, 2, 1, 2, 3, 2, 3, 4, 3, 4, 5, 4, 5, 6] rfl (fun n => by kernel_rfl)
  | [z0] => make_short [z0, 1, 2, 1, 2, 3, 2, 3, 4, 3, 4, 5, 4, 5, 6] rfl (fun n => by kernel_rfl)
  | [z0, z1] => make_short [z0, z1, 2, 1, 2, 3, 2, 3, 4, 3, 4, 5, 4, 5, 6] rfl (fun n => by kernel_rfl)
  | [z0, z1, z2] => make_short [z0, z1, z2, 1, 2, 3, 2, 3, 4, 3, 4, 5, 4, 5, 6] rfl (fun n => by kernel_rfl)
  | [z0, z1, z2, z3] => make_short [z0, z1, z2, z3, 2, 3, 2, 3, 4, 3, 4, 5, 4, 5, 6] rfl (fun n => by kernel_rfl)
  | [z0, z1, z2, z3, z4] => make_short [z0, z1, z2, z3, z4, 3, 2, 3, 4, 3, 4, 5, 4, 5, 6] rfl (fun n => by kernel_rfl)
  | [z0, z1, z2, z3, z4, z5] => make_short [z0, z1, z2, z3, z4, z5, 2, 3, 4, 3, 4, 5, 4, 5, 6] rfl (fun n => by kernel_rfl)
  | [z0, z1, z2, z3, z4, z5, z6] => make_short [z0, z1, z2, z3, z4, z5, z6, 3, 4, 3, 4, 5, 4, 5, 6] rfl (fun n => by kernel_rfl)
  | [z0, z1, z2, z3, z4, z5, z6, z7] => make_short [z0, z1, z2, z3, z4, z5, z6, z7, 4, 3, 4, 5, 4, 5, 6] rfl (fun n => by kernel_rfl)
  | [z0, z1, z2, z3, z4, z5, z6, z7, z8] => make_short [z0, z1, z2, z3, z4, z5, z6, z7, z8, 3, 4, 5, 4, 5, 6] rfl (fun n => by kernel_rfl)
  | [z0, z1, z2, z3, z4, z5, z6, z7, z8, z9] => make_short [z0, z1, z2, z3, z4, z5, z6, z7, z8, z9, 4, 5, 4, 5, 6] rfl (fun n => by kernel_rfl)
  | [z0, z1, z2, z3, z4, z5, z6, z7, z8, z9, z10] => make_short [z0, z1, z2, z3, z4, z5, z6, z7, z8, z9, z10, 5, 4, 5, 6] rfl (fun n => by kernel_rfl)
  | [z0, z1, z2, z3, z4, z5, z6, z7, z8, z9, z10, z11] => make_short [z0, z1, z2, z3, z4, z5, z6, z7, z8, z9, z10, z11, 4, 5, 6] rfl (fun n => by kernel_rfl)
  | [z0, z1, z2, z3, z4, z5, z6, z7, z8, z9, z10, z11, z12] => make_short [z0, z1, z2, z3, z4, z5, z6, z7, z8, z9, z10, z11, z12, 5, 6] rfl (fun n => by kernel_rfl)
  | [z0, z1, z2, z3, z4, z5, z6, z7, z8, z9, z10, z11, z12, z13] => make_short [z0, z1, z2, z3, z4, z5, z6, z7, z8, z9, z10, z11, z12, z13, 6] rfl (fun n => by kernel_rfl)
  | z0 :: z1 :: z2 :: z3 :: z4 :: z5 :: z6 :: z7 :: z8 :: z9 :: z10 :: z11 :: z12 :: z13 :: z14 :: rest => make_long [z0, z1, z2, z3, z4, z5, z6, z7, z8, z9, z10, z11, z12, z13, z14] rfl (by simp) (fun n => by kernel_rfl)

end Go.Proofs.Ytclphdmaedpipaa
