/- NordCorrects' runs at order 1. -/
import Derived.Test.YtclphdmaedpipaaNordNc
namespace Go.Proofs.Ytclphdmaedpipaa
open Go
set_option linter.unusedVariables false
set_option linter.unusedSimpArgs false
set_option maxRecDepth 100000

theorem ncN_1_1_0 : NcRun 1 1 0 := fun _ _ _ _ _ _ _ _ _ _ => by kernel_rfl
theorem ncN_1_1_1 : NcRun 1 1 1 := fun _ _ _ _ _ _ _ _ _ _ => by kernel_rfl
theorem ncN_1_2_0 : NcRun 1 2 0 := fun _ _ _ _ _ _ _ _ _ _ => by kernel_rfl
theorem ncN_1_2_1 : NcRun 1 2 1 := fun _ _ _ _ _ _ _ _ _ _ => by kernel_rfl
theorem ncN_1_2_2 : NcRun 1 2 2 := fun _ _ _ _ _ _ _ _ _ _ => by kernel_rfl
theorem ncN_1_3_0 : NcRun 1 3 0 := fun _ _ _ _ _ _ _ _ _ _ => by kernel_rfl
theorem ncN_1_3_1 : NcRun 1 3 1 := fun _ _ _ _ _ _ _ _ _ _ => by kernel_rfl
theorem ncN_1_3_2 : NcRun 1 3 2 := fun _ _ _ _ _ _ _ _ _ _ => by kernel_rfl
theorem ncN_1_3_3 : NcRun 1 3 3 := fun _ _ _ _ _ _ _ _ _ _ => by kernel_rfl

end Go.Proofs.Ytclphdmaedpipaa
