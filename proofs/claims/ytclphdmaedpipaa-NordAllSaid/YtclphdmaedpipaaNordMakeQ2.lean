/- What Make of the rows makes: order 2, one to three numbers a row, whatever was handed in. -/
import Derived.Test.YtclphdmaedpipaaNordMake
namespace Go.Proofs.Ytclphdmaedpipaa
open Go
set_option linter.unusedVariables false
set_option maxRecDepth 100000

theorem make_2_1 : ∀ zs : List Int, MakeOK 2 1 zs
  | [] => make_short [0, 1, 2] rfl (fun n => by kernel_rfl)
  | [z0] => make_short [z0, 1, 2] rfl (fun n => by kernel_rfl)
  | [z0, z1] => make_short [z0, z1, 2] rfl (fun n => by kernel_rfl)
  | z0 :: z1 :: z2 :: rest => make_long [z0, z1, z2] rfl (by simp) (fun n => by kernel_rfl)

theorem make_2_2 : ∀ zs : List Int, MakeOK 2 2 zs
  | [] => make_short [0, 1, 1, 2, 2, 3] rfl (fun n => by kernel_rfl)
  | [z0] => make_short [z0, 1, 1, 2, 2, 3] rfl (fun n => by kernel_rfl)
  | [z0, z1] => make_short [z0, z1, 1, 2, 2, 3] rfl (fun n => by kernel_rfl)
  | [z0, z1, z2] => make_short [z0, z1, z2, 2, 2, 3] rfl (fun n => by kernel_rfl)
  | [z0, z1, z2, z3] => make_short [z0, z1, z2, z3, 2, 3] rfl (fun n => by kernel_rfl)
  | [z0, z1, z2, z3, z4] => make_short [z0, z1, z2, z3, z4, 3] rfl (fun n => by kernel_rfl)
  | z0 :: z1 :: z2 :: z3 :: z4 :: z5 :: rest => make_long [z0, z1, z2, z3, z4, z5] rfl (by simp) (fun n => by kernel_rfl)

theorem make_2_3 : ∀ zs : List Int, MakeOK 2 3 zs
  | [] => make_short [0, 1, 2, 1, 2, 3, 2, 3, 4] rfl (fun n => by kernel_rfl)
  | [z0] => make_short [z0, 1, 2, 1, 2, 3, 2, 3, 4] rfl (fun n => by kernel_rfl)
  | [z0, z1] => make_short [z0, z1, 2, 1, 2, 3, 2, 3, 4] rfl (fun n => by kernel_rfl)
  | [z0, z1, z2] => make_short [z0, z1, z2, 1, 2, 3, 2, 3, 4] rfl (fun n => by kernel_rfl)
  | [z0, z1, z2, z3] => make_short [z0, z1, z2, z3, 2, 3, 2, 3, 4] rfl (fun n => by kernel_rfl)
  | [z0, z1, z2, z3, z4] => make_short [z0, z1, z2, z3, z4, 3, 2, 3, 4] rfl (fun n => by kernel_rfl)
  | [z0, z1, z2, z3, z4, z5] => make_short [z0, z1, z2, z3, z4, z5, 2, 3, 4] rfl (fun n => by kernel_rfl)
  | [z0, z1, z2, z3, z4, z5, z6] => make_short [z0, z1, z2, z3, z4, z5, z6, 3, 4] rfl (fun n => by kernel_rfl)
  | [z0, z1, z2, z3, z4, z5, z6, z7] => make_short [z0, z1, z2, z3, z4, z5, z6, z7, 4] rfl (fun n => by kernel_rfl)
  | z0 :: z1 :: z2 :: z3 :: z4 :: z5 :: z6 :: z7 :: z8 :: rest => make_long [z0, z1, z2, z3, z4, z5, z6, z7, z8] rfl (by simp) (fun n => by kernel_rfl)

end Go.Proofs.Ytclphdmaedpipaa
