/- What Make of the rows makes: order 5, one to three numbers a row, whatever was handed in. -/
import Derived.Test.YtclphdmaedpipaaNordMake
namespace Go.Proofs.Ytclphdmaedpipaa
open Go
set_option linter.unusedVariables false
set_option maxRecDepth 100000

theorem make_5_3_6 (z0 : Int) (z1 : Int) (z2 : Int) (z3 : Int) (z4 : Int) (z5 : Int) : MakeOK 5 3 ([z0, z1, z2, z3, z4, z5]) := make_short [z0, z1, z2, z3, z4, z5, 2, 3, 4, 3, 4, 5, 4, 5, 6, 5, 6, 7] rfl (fun n => by kernel_rfl)

theorem make_5_3_7 (z0 : Int) (z1 : Int) (z2 : Int) (z3 : Int) (z4 : Int) (z5 : Int) (z6 : Int) : MakeOK 5 3 ([z0, z1, z2, z3, z4, z5, z6]) := make_short [z0, z1, z2, z3, z4, z5, z6, 3, 4, 3, 4, 5, 4, 5, 6, 5, 6, 7] rfl (fun n => by kernel_rfl)

theorem make_5_3_8 (z0 : Int) (z1 : Int) (z2 : Int) (z3 : Int) (z4 : Int) (z5 : Int) (z6 : Int) (z7 : Int) : MakeOK 5 3 ([z0, z1, z2, z3, z4, z5, z6, z7]) := make_short [z0, z1, z2, z3, z4, z5, z6, z7, 4, 3, 4, 5, 4, 5, 6, 5, 6, 7] rfl (fun n => by kernel_rfl)

theorem make_5_3_9 (z0 : Int) (z1 : Int) (z2 : Int) (z3 : Int) (z4 : Int) (z5 : Int) (z6 : Int) (z7 : Int) (z8 : Int) : MakeOK 5 3 ([z0, z1, z2, z3, z4, z5, z6, z7, z8]) := make_short [z0, z1, z2, z3, z4, z5, z6, z7, z8, 3, 4, 5, 4, 5, 6, 5, 6, 7] rfl (fun n => by kernel_rfl)

theorem make_5_3_10 (z0 : Int) (z1 : Int) (z2 : Int) (z3 : Int) (z4 : Int) (z5 : Int) (z6 : Int) (z7 : Int) (z8 : Int) (z9 : Int) : MakeOK 5 3 ([z0, z1, z2, z3, z4, z5, z6, z7, z8, z9]) := make_short [z0, z1, z2, z3, z4, z5, z6, z7, z8, z9, 4, 5, 4, 5, 6, 5, 6, 7] rfl (fun n => by kernel_rfl)

end Go.Proofs.Ytclphdmaedpipaa
