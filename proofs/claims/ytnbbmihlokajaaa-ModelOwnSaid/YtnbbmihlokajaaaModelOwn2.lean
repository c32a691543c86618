/- The law ModelOwn: some of its ways. -/
import Derived.Test.YtnbbmihlokajaaaModelOwn
namespace Go.Proofs.Ytnbbmihlokajaaa
open Go
set_option linter.unusedVariables false
set_option maxRecDepth 100000


theorem own_8 (z0 z1 z2 z3 z4 z5 z6 z7 : Int) : Tells 4 #[arg0 [z0, z1, z2, z3, z4, z5, z6, z7]] (heap0 [z0, z1, z2, z3, z4, z5, z6, z7]) (.bool true) := own_short (by kernel_rfl)
theorem own_9 (z0 z1 z2 z3 z4 z5 z6 z7 z8 : Int) : Tells 4 #[arg0 [z0, z1, z2, z3, z4, z5, z6, z7, z8]] (heap0 [z0, z1, z2, z3, z4, z5, z6, z7, z8]) (.bool true) := own_short (by kernel_rfl)

end Go.Proofs.Ytnbbmihlokajaaa
