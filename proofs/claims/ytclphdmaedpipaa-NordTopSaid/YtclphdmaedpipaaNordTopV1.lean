/- The law NordTop: its walk at order 5, three numbers a row. -/
import Derived.Test.YtclphdmaedpipaaNordTop
namespace Go.Proofs.Ytclphdmaedpipaa
open Go
set_option linter.unusedVariables false
set_option maxRecDepth 100000

theorem nordTop_5_3_v1 : TopRun 5 3 [] := fun order n g => by kernel_rfl

end Go.Proofs.Ytclphdmaedpipaa
