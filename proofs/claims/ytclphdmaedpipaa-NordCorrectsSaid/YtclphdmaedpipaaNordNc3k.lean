/- NordCorrects' runs at order 3. -/
import Derived.Test.YtclphdmaedpipaaNordNc
namespace Go.Proofs.Ytclphdmaedpipaa
open Go
set_option linter.unusedVariables false
set_option linter.unusedSimpArgs false
set_option maxRecDepth 100000

theorem ncN_3_3_0 : NcRun 3 3 0 := fun _ _ _ _ _ _ _ _ _ _ => by kernel_rfl
theorem ncN_3_3_1 : NcRun 3 3 1 := fun _ _ _ _ _ _ _ _ _ _ => by kernel_rfl
theorem ncN_3_3_2 : NcRun 3 3 2 := fun _ _ _ _ _ _ _ _ _ _ => by kernel_rfl
theorem ncN_3_3_3 : NcRun 3 3 3 := fun _ _ _ _ _ _ _ _ _ _ => by kernel_rfl

end Go.Proofs.Ytclphdmaedpipaa
