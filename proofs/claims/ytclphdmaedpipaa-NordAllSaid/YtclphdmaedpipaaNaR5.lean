/- NordAll's runs. -/
import Derived.Test.YtclphdmaedpipaaNaR
namespace Go.Proofs.Ytclphdmaedpipaa
open Go
set_option linter.unusedVariables false
set_option linter.unusedSimpArgs false
set_option maxRecDepth 100000

theorem na_5_1 : NaRun 5 1 := fun _ _ _ _ _ _ _ _ _ _ _ => by kernel_rfl
theorem na_5_2 : NaRun 5 2 := fun _ _ _ _ _ _ _ _ _ _ _ => by kernel_rfl

end Go.Proofs.Ytclphdmaedpipaa
