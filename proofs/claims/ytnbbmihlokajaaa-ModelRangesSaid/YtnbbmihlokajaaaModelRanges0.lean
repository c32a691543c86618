/- The law ModelRanges: some of its ways. -/
import Derived.Test.YtnbbmihlokajaaaModelRangesA
namespace Go.Proofs.Ytnbbmihlokajaaa
open Go
set_option linter.unusedVariables false
set_option linter.unusedSimpArgs false
set_option maxRecDepth 100000


theorem rg_0 (rest more : Int) : Tells 3 #[arg0 [], .int .i64 rest, .int .i64 more] (heap0 []) (.bool true) := rg_short (fun s s' => by kernel_rfl)
theorem rg_1 (z0 : Int) (rest more : Int) : Tells 3 #[arg0 [z0], .int .i64 rest, .int .i64 more] (heap0 [z0]) (.bool true) := rg_short (fun s s' => by kernel_rfl)
theorem rg_2 (z0 z1 : Int) (rest more : Int) : Tells 3 #[arg0 [z0, z1], .int .i64 rest, .int .i64 more] (heap0 [z0, z1]) (.bool true) := rg_short (fun s s' => by kernel_rfl)
theorem rg_3 (z0 z1 z2 : Int) (rest more : Int) : Tells 3 #[arg0 [z0, z1, z2], .int .i64 rest, .int .i64 more] (heap0 [z0, z1, z2]) (.bool true) := rg_short (fun s s' => by kernel_rfl)
theorem rg_4 (z0 z1 z2 z3 : Int) (rest more : Int) : Tells 3 #[arg0 [z0, z1, z2, z3], .int .i64 rest, .int .i64 more] (heap0 [z0, z1, z2, z3]) (.bool true) := rg_short (fun s s' => by kernel_rfl)

end Go.Proofs.Ytnbbmihlokajaaa
