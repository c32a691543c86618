/- NordSums' runs at order 4. -/
import Derived.Test.YtclphdmaedpipaaNordSm
namespace Go.Proofs.Ytclphdmaedpipaa
open Go
set_option linter.unusedVariables false
set_option linter.unusedSimpArgs false
set_option maxRecDepth 100000

theorem smN_4_1 : SmRun 4 1 := fun _ _ _ _ _ _ _ _ _ _ _ _ _ _ _ _ _ _ _ => by kernel_rfl
theorem smN_4_2 : SmRun 4 2 := fun _ _ _ _ _ _ _ _ _ _ _ _ _ _ _ _ _ _ _ => by kernel_rfl
theorem smN_4_3 : SmRun 4 3 := fun _ _ _ _ _ _ _ _ _ _ _ _ _ _ _ _ _ _ _ => by kernel_rfl

end Go.Proofs.Ytclphdmaedpipaa
