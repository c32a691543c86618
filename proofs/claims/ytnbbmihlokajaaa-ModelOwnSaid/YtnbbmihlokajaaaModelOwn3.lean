/- The law ModelOwn: some of its ways. -/
import Derived.Test.YtnbbmihlokajaaaModelOwn
namespace Go.Proofs.Ytnbbmihlokajaaa
open Go
set_option linter.unusedVariables false
set_option maxRecDepth 100000


theorem own_10 (z0 z1 z2 z3 z4 z5 z6 z7 z8 z9 : Int) (rest : List Int) : Tells 4 #[arg0 (z0 :: z1 :: z2 :: z3 :: z4 :: z5 :: z6 :: z7 :: z8 :: z9 :: rest)] (heap0 (z0 :: z1 :: z2 :: z3 :: z4 :: z5 :: z6 :: z7 :: z8 :: z9 :: rest)) (.bool true) := own_long (l := [z0, z1, z2, z3, z4, z5, z6, z7, z8]) rfl (by simp) (by kernel_rfl)

end Go.Proofs.Ytnbbmihlokajaaa
