/- The law ModelRanges: some of its ways. -/
import Derived.Test.YtnbbmihlokajaaaModelRangesA
namespace Go.Proofs.Ytnbbmihlokajaaa
open Go
set_option linter.unusedVariables false
set_option linter.unusedSimpArgs false
set_option maxRecDepth 100000


theorem rg_5 (z0 z1 z2 z3 z4 : Int) (rest more : Int) : Tells 3 #[arg0 [z0, z1, z2, z3, z4], .int .i64 rest, .int .i64 more] (heap0 [z0, z1, z2, z3, z4]) (.bool true) := rg_short (fun s s' => by kernel_rfl)
theorem rg_6 (z0 z1 z2 z3 z4 z5 : Int) (rest more : Int) : Tells 3 #[arg0 [z0, z1, z2, z3, z4, z5], .int .i64 rest, .int .i64 more] (heap0 [z0, z1, z2, z3, z4, z5]) (.bool true) := rg_short (fun s s' => by kernel_rfl)
theorem rg_7 (z0 z1 z2 z3 z4 z5 z6 : Int) (rest more : Int) : Tells 3 #[arg0 [z0, z1, z2, z3, z4, z5, z6], .int .i64 rest, .int .i64 more] (heap0 [z0, z1, z2, z3, z4, z5, z6]) (.bool true) := rg_short (fun s s' => by kernel_rfl)

end Go.Proofs.Ytnbbmihlokajaaa
