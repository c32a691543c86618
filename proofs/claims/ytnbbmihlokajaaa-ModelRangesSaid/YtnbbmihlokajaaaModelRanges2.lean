/- The law ModelRanges: some of its ways. -/
import Derived.Test.YtnbbmihlokajaaaModelRangesA
namespace Go.Proofs.Ytnbbmihlokajaaa
open Go
set_option linter.unusedVariables false
set_option linter.unusedSimpArgs false
set_option maxRecDepth 100000


theorem rg_8 (z0 z1 z2 z3 z4 z5 z6 z7 : Int) (rest more : Int) : Tells 3 #[arg0 [z0, z1, z2, z3, z4, z5, z6, z7], .int .i64 rest, .int .i64 more] (heap0 [z0, z1, z2, z3, z4, z5, z6, z7]) (.bool true) := rg_short (fun s s' => by kernel_rfl)
theorem rg_9 (z0 z1 z2 z3 z4 z5 z6 z7 z8 : Int) (tail : List Int) (rest more : Int) : Tells 3 #[arg0 (z0 :: z1 :: z2 :: z3 :: z4 :: z5 :: z6 :: z7 :: z8 :: tail), .int .i64 rest, .int .i64 more] (heap0 (z0 :: z1 :: z2 :: z3 :: z4 :: z5 :: z6 :: z7 :: z8 :: tail)) (.bool true) := rg_long (l := [z0, z1, z2, z3, z4, z5, z6, z7, z8]) rfl (by simp) (fun s s' => by kernel_rfl)

end Go.Proofs.Ytnbbmihlokajaaa
