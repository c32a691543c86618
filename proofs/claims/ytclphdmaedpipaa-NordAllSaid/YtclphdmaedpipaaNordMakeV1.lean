/- What Make of the rows makes: order 5, one to three numbers a row, whatever was handed in. -/
import Derived.Test.YtclphdmaedpipaaNordMake
namespace Go.Proofs.Ytclphdmaedpipaa
open Go
set_option linter.unusedVariables false
set_option maxRecDepth 100000

theorem make_5_3_0 : MakeOK 5 3 ([]) := make_short [0, 1, 2, 1, 2, 3, 2, 3, 4, 3, 4, 5, 4, 5, 6, 5, 6, 7] rfl (fun n => by kernel_rfl)

theorem make_5_3_1 (z0 : Int) : MakeOK 5 3 ([z0]) := make_short [z0, 1, 2, 1, 2, 3, 2, 3, 4, 3, 4, 5, 4, 5, 6, 5, 6, 7] rfl (fun n => by kernel_rfl)

theorem make_5_3_2 (z0 : Int) (z1 : Int) : MakeOK 5 3 ([z0, z1]) := make_short [z0, z1, 2, 1, 2, 3, 2, 3, 4, 3, 4, 5, 4, 5, 6, 5, 6, 7] rfl (fun n => by kernel_rfl)

theorem make_5_3_3 (z0 : Int) (z1 : Int) (z2 : Int) : MakeOK 5 3 ([z0, z1, z2]) := make_short [z0, z1, z2, 1, 2, 3, 2, 3, 4, 3, 4, 5, 4, 5, 6, 5, 6, 7] rfl (fun n => by kernel_rfl)

theorem make_5_3_4 (z0 : Int) (z1 : Int) (z2 : Int) (z3 : Int) : MakeOK 5 3 ([z0, z1, z2, z3]) := make_short [z0, z1, z2, z3, 2, 3, 2, 3, 4, 3, 4, 5, 4, 5, 6, 5, 6, 7] rfl (fun n => by kernel_rfl)

theorem make_5_3_5 (z0 : Int) (z1 : Int) (z2 : Int) (z3 : Int) (z4 : Int) : MakeOK 5 3 ([z0, z1, z2, z3, z4]) := make_short [z0, z1, z2, z3, z4, 3, 2, 3, 4, 3, 4, 5, 4, 5, 6, 5, 6, 7] rfl (fun n => by kernel_rfl)

end Go.Proofs.Ytclphdmaedpipaa
