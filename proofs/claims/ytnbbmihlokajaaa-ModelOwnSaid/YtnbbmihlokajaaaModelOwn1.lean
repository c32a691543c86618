/- The law ModelOwn: some of its ways. -/
import Derived.Test.YtnbbmihlokajaaaModelOwn
namespace Go.Proofs.Ytnbbmihlokajaaa
open Go
set_option linter.unusedVariables false
set_option maxRecDepth 100000


theorem own_5 (z0 z1 z2 z3 z4 : Int) : Tells 4 #[arg0 [z0, z1, z2, z3, z4]] (heap0 [z0, z1, z2, z3, z4]) (.bool true) := own_short (by kernel_rfl)
theorem own_6 (z0 z1 z2 z3 z4 z5 : Int) : Tells 4 #[arg0 [z0, z1, z2, z3, z4, z5]] (heap0 [z0, z1, z2, z3, z4, z5]) (.bool true) := own_short (by kernel_rfl)
theorem own_7 (z0 z1 z2 z3 z4 z5 z6 : Int) : Tells 4 #[arg0 [z0, z1, z2, z3, z4, z5, z6]] (heap0 [z0, z1, z2, z3, z4, z5, z6]) (.bool true) := own_short (by kernel_rfl)

end Go.Proofs.Ytnbbmihlokajaaa
