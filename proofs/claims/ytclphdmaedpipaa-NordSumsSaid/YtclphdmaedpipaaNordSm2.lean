/- NordSums' runs at order 2. -/
import Derived.Test.YtclphdmaedpipaaNordSm
namespace Go.Proofs.Ytclphdmaedpipaa
open Go
set_option linter.unusedVariables false
set_option linter.unusedSimpArgs false
set_option maxRecDepth 100000

theorem smN_2_1 : SmRun 2 1 := fun _ _ _ _ _ _ _ _ _ _ _ _ _ _ _ _ _ _ _ => by kernel_rfl
theorem smN_2_2 : SmRun 2 2 := fun _ _ _ _ _ _ _ _ _ _ _ _ _ _ _ _ _ _ _ => by kernel_rfl
theorem smN_2_3 : SmRun 2 3 := fun _ _ _ _ _ _ _ _ _ _ _ _ _ _ _ _ _ _ _ => by kernel_rfl

end Go.Proofs.Ytclphdmaedpipaa
