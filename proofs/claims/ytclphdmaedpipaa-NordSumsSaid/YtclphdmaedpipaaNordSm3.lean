/- NordSums' runs at order 3. -/
import Derived.Test.YtclphdmaedpipaaNordSm
namespace Go.Proofs.Ytclphdmaedpipaa
open Go
set_option linter.unusedVariables false
set_option linter.unusedSimpArgs false
set_option maxRecDepth 100000

theorem smN_3_1 : SmRun 3 1 := fun _ _ _ _ _ _ _ _ _ _ _ _ _ _ _ _ _ _ _ => by kernel_rfl
theorem smN_3_2 : SmRun 3 2 := fun _ _ _ _ _ _ _ _ _ _ _ _ _ _ _ _ _ _ _ => by kernel_rfl
theorem smN_3_3 : SmRun 3 3 := fun _ _ _ _ _ _ _ _ _ _ _ _ _ _ _ _ _ _ _ => by kernel_rfl

end Go.Proofs.Ytclphdmaedpipaa
