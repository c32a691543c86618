/- NordCorrects' runs at order 4. -/
import Derived.Test.YtclphdmaedpipaaNordNc
namespace Go.Proofs.Ytclphdmaedpipaa
open Go
set_option linter.unusedVariables false
set_option linter.unusedSimpArgs false
set_option maxRecDepth 100000

theorem ncN_4_1_0 : NcRun 4 1 0 := fun _ _ _ _ _ _ _ _ _ _ => by kernel_rfl
theorem ncN_4_1_1 : NcRun 4 1 1 := fun _ _ _ _ _ _ _ _ _ _ => by kernel_rfl
theorem ncN_4_2_0 : NcRun 4 2 0 := fun _ _ _ _ _ _ _ _ _ _ => by kernel_rfl
theorem ncN_4_2_1 : NcRun 4 2 1 := fun _ _ _ _ _ _ _ _ _ _ => by kernel_rfl
theorem ncN_4_2_2 : NcRun 4 2 2 := fun _ _ _ _ _ _ _ _ _ _ => by kernel_rfl

end Go.Proofs.Ytclphdmaedpipaa
