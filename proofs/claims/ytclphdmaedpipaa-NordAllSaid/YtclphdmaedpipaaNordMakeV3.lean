/- What Make of the rows makes: order 5, one to three numbers a row, whatever was handed in. -/
import Derived.Test.YtclphdmaedpipaaNordMake
namespace Go.Proofs.Ytclphdmaedpipaa
open Go
set_option linter.unusedVariables false
set_option maxRecDepth 100000

theorem make_5_3_11 (z0 : Int) (z1 : Int) (z2 : Int) (z3 : Int) (z4 : Int) (z5 : Int) (z6 : Int) (z7 : Int) (z8 : Int) (z9 : Int) (z10 : Int) : MakeOK 5 3 ([z0, z1, z2, z3, z4, z5, z6, z7, z8, z9, z10]) := make_short [z0, z1, z2, z3, z4, z5, z6, z7, z8, z9, z10, 5, 4, 5, 6, 5, 6, 7] rfl (fun n => by kernel_rfl)

theorem make_5_3_12 (z0 : Int) (z1 : Int) (z2 : Int) (z3 : Int) (z4 : Int) (z5 : Int) (z6 : Int) (z7 : Int) (z8 : Int) (z9 : Int) (z10 : Int) (z11 : Int) : MakeOK 5 3 ([z0, z1, z2, z3, z4, z5, z6, z7, z8, z9, z10, z11]) := make_short [z0, z1, z2, z3, z4, z5, z6, z7, z8, z9, z10, z11, 4, 5, 6, 5, 6, 7] rfl (fun n => by kernel_rfl)

theorem make_5_3_13 (z0 : Int) (z1 : Int) (z2 : Int) (z3 : Int) (z4 : Int) (z5 : Int) (z6 : Int) (z7 : Int) (z8 : Int) (z9 : Int) (z10 : Int) (z11 : Int) (z12 : Int) : MakeOK 5 3 ([z0, z1, z2, z3, z4, z5, z6, z7, z8, z9, z10, z11, z12]) := make_short [z0, z1, z2, z3, z4, z5, z6, z7, z8, z9, z10, z11, z12, 5, 6, 5, 6, 7] rfl (fun n => by kernel_rfl)

theorem make_5_3_14 (z0 : Int) (z1 : Int) (z2 : Int) (z3 : Int) (z4 : Int) (z5 : Int) (z6 : Int) (z7 : Int) (z8 : Int) (z9 : Int) (z10 : Int) (z11 : Int) (z12 : Int) (z13 : Int) : MakeOK 5 3 ([z0, z1, z2, z3, z4, z5, z6, z7, z8, z9, z10, z11, z12, z13]) := make_short [z0, z1, z2, z3, z4, z5, z6, z7, z8, z9, z10, z11, z12, z13, 6, 5, 6, 7] rfl (fun n => by kernel_rfl)

end Go.Proofs.Ytclphdmaedpipaa
