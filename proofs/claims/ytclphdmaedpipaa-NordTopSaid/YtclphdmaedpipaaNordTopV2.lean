/- The law NordTop: its walk at order 5, three numbers a row. -/
import Derived.Test.YtclphdmaedpipaaNordTop
namespace Go.Proofs.Ytclphdmaedpipaa
open Go
set_option linter.unusedVariables false
set_option maxRecDepth 100000

theorem nordTop_5_3_v2 (z : Int) (zs : List Int) : TopRun 5 3 (z :: zs) := fun order n g => by kernel_rfl

end Go.Proofs.Ytclphdmaedpipaa
