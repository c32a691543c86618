/- The law ModelOwn: some of its ways. -/
import Derived.Test.YtnbbmihlokajaaaModelOwn
namespace Go.Proofs.Ytnbbmihlokajaaa
open Go
set_option linter.unusedVariables false
set_option maxRecDepth 100000


theorem own_0 : Tells 4 #[arg0 []] (heap0 []) (.bool true) := own_short (by kernel_rfl)
theorem own_1 (z0 : Int) : Tells 4 #[arg0 [z0]] (heap0 [z0]) (.bool true) := own_short (by kernel_rfl)
theorem own_2 (z0 z1 : Int) : Tells 4 #[arg0 [z0, z1]] (heap0 [z0, z1]) (.bool true) := own_short (by kernel_rfl)
theorem own_3 (z0 z1 z2 : Int) : Tells 4 #[arg0 [z0, z1, z2]] (heap0 [z0, z1, z2]) (.bool true) := own_short (by kernel_rfl)
theorem own_4 (z0 z1 z2 z3 : Int) : Tells 4 #[arg0 [z0, z1, z2, z3]] (heap0 [z0, z1, z2, z3]) (.bool true) := own_short (by kernel_rfl)

end Go.Proofs.Ytnbbmihlokajaaa
