/- IvExp: all its places. -/
import Derived.Test.YthajhpilfbijdaaIvExT0
import Derived.Test.YthajhpilfbijdaaIvExT1
import Derived.Test.YthajhpilfbijdaaIvExT2
import Derived.Test.YthajhpilfbijdaaIvExT3
import Derived.Test.YthajhpilfbijdaaIvExT4
import Derived.Test.YthajhpilfbijdaaIvExT5
import Derived.Test.YthajhpilfbijdaaIvExT6
import Derived.Test.YthajhpilfbijdaaIvExT7
import Derived.Test.YthajhpilfbijdaaIvExT8
import Derived.Test.YthajhpilfbijdaaIvExT9
import Derived.Test.YthajhpilfbijdaaIvExT10
import Derived.Test.YthajhpilfbijdaaIvExT11
import Derived.Test.YthajhpilfbijdaaIvExT12
import Derived.Test.YthajhpilfbijdaaIvExT13
import Derived.Test.YthajhpilfbijdaaIvExT14
namespace Go.Proofs.Ythajhpilfbijdaa
open Go
set_option linter.unusedVariables false
set_option linter.unusedSimpArgs false
set_option maxRecDepth 100000

theorem chkAll (k : Nat) (h : k ≤ 2000) : chkE k = true := by
  by_cases c0 : k < 115
  · exact chkA_0 k (by omega) c0
  by_cases c1 : k < 230
  · exact chkA_1 k (by omega) c1
  by_cases c2 : k < 345
  · exact chkA_2 k (by omega) c2
  by_cases c3 : k < 460
  · exact chkA_3 k (by omega) c3
  by_cases c4 : k < 575
  · exact chkA_4 k (by omega) c4
  by_cases c5 : k < 690
  · exact chkA_5 k (by omega) c5
  by_cases c6 : k < 805
  · exact chkA_6 k (by omega) c6
  by_cases c7 : k < 920
  · exact chkA_7 k (by omega) c7
  by_cases c8 : k < 1035
  · exact chkA_8 k (by omega) c8
  by_cases c9 : k < 1150
  · exact chkA_9 k (by omega) c9
  by_cases c10 : k < 1265
  · exact chkA_10 k (by omega) c10
  by_cases c11 : k < 1380
  · exact chkA_11 k (by omega) c11
  by_cases c12 : k < 1495
  · exact chkA_12 k (by omega) c12
  by_cases c13 : k < 1610
  · exact chkA_13 k (by omega) c13
  by_cases c14 : k < 2001
  · exact chkA_14 k (by omega) c14
  omega

end Go.Proofs.Ythajhpilfbijdaa
