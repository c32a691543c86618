/- The law ModelOwn returns true, whatever the numbers. -/
import Derived.Test.YtnbbmihlokajaaaModelOwn0
import Derived.Test.YtnbbmihlokajaaaModelOwn1
import Derived.Test.YtnbbmihlokajaaaModelOwn2
import Derived.Test.YtnbbmihlokajaaaModelOwn3
namespace Go.Proofs.Ytnbbmihlokajaaa
open Go
set_option linter.unusedVariables false
set_option maxRecDepth 100000


theorem modelOwn_tells : ∀ zs : List Int, Tells 4 #[arg0 zs] (heap0 zs) (.bool true)
  | [] => own_0 
  | [z0] => own_1 z0
  | [z0, z1] => own_2 z0 z1
  | [z0, z1, z2] => own_3 z0 z1 z2
  | [z0, z1, z2, z3] => own_4 z0 z1 z2 z3
  | [z0, z1, z2, z3, z4] => own_5 z0 z1 z2 z3 z4
  | [z0, z1, z2, z3, z4, z5] => own_6 z0 z1 z2 z3 z4 z5
  | [z0, z1, z2, z3, z4, z5, z6] => own_7 z0 z1 z2 z3 z4 z5 z6
  | [z0, z1, z2, z3, z4, z5, z6, z7] => own_8 z0 z1 z2 z3 z4 z5 z6 z7
  | [z0, z1, z2, z3, z4, z5, z6, z7, z8] => own_9 z0 z1 z2 z3 z4 z5 z6 z7 z8
  | z0 :: z1 :: z2 :: z3 :: z4 :: z5 :: z6 :: z7 :: z8 :: z9 :: rest => own_10 z0 z1 z2 z3 z4 z5 z6 z7 z8 z9 rest

end Go.Proofs.Ytnbbmihlokajaaa
