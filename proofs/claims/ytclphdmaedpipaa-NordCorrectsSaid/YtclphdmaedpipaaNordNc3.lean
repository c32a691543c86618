/- NordCorrects' runs at order 3. -/
import Derived.Test.YtclphdmaedpipaaNordNc
namespace Go.Proofs.Ytclphdmaedpipaa
open Go
set_option linter.unusedVariables false
set_option linter.unusedSimpArgs false
set_option maxRecDepth 100000

theorem ncN_3_1_0 : NcRun 3 1 0 := fun _ _ _ _ _ _ _ _ _ _ => by kernel_rfl
theorem ncN_3_1_1 : NcRun 3 1 1 := fun _ _ _ _ _ _ _ _ _ _ => by kernel_rfl
theorem ncN_3_2_0 : NcRun 3 2 0 := fun _ _ _ _ _ _ _ _ _ _ => by kernel_rfl
theorem ncN_3_2_1 : NcRun 3 2 1 := fun _ _ _ _ _ _ _ _ _ _ => by kernel_rfl
theorem ncN_3_2_2 : NcRun 3 2 2 := fun _ _ _ _ _ _ _ _ _ _ => by kernel_rfl

end Go.Proofs.Ytclphdmaedpipaa
