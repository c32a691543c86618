/- The law ModelRanges returns true, whatever it is handed. -/
import Derived.Test.YtnbbmihlokajaaaModelRanges0
import Derived.Test.YtnbbmihlokajaaaModelRanges1
import Derived.Test.YtnbbmihlokajaaaModelRanges2
namespace Go.Proofs.Ytnbbmihlokajaaa
open Go
set_option linter.unusedVariables false
set_option linter.unusedSimpArgs false
set_option maxRecDepth 100000


theorem modelRanges_tells : ∀ (zs : List Int) (rest more : Int), Tells 3 #[arg0 zs, .int .i64 rest, .int .i64 more] (heap0 zs) (.bool true)
  | [], rest, more => rg_0  rest more
  | [z0], rest, more => rg_1 z0 rest more
  | [z0, z1], rest, more => rg_2 z0 z1 rest more
  | [z0, z1, z2], rest, more => rg_3 z0 z1 z2 rest more
  | [z0, z1, z2, z3], rest, more => rg_4 z0 z1 z2 z3 rest more
  | [z0, z1, z2, z3, z4], rest, more => rg_5 z0 z1 z2 z3 z4 rest more
  | [z0, z1, z2, z3, z4, z5], rest, more => rg_6 z0 z1 z2 z3 z4 z5 rest more
  | [z0, z1, z2, z3, z4, z5, z6], rest, more => rg_7 z0 z1 z2 z3 z4 z5 z6 rest more
  | [z0, z1, z2, z3, z4, z5, z6, z7], rest, more => rg_8 z0 z1 z2 z3 z4 z5 z6 z7 rest more
  | z0 :: z1 :: z2 :: z3 :: z4 :: z5 :: z6 :: z7 :: z8 :: tail, rest, more => rg_9 z0 z1 z2 z3 z4 z5 z6 z7 z8 tail rest more

end Go.Proofs.Ytnbbmihlokajaaa
