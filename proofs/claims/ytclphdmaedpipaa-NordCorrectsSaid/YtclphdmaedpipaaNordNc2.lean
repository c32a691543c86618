/- NordCorrects' runs at order 2. -/
import Derived.Test.YtclphdmaedpipaaNordNc
namespace Go.Proofs.Ytclphdmaedpipaa
open Go
set_option linter.unusedVariables false
set_option linter.unusedSimpArgs false
set_option maxRecDepth 100000

theorem ncN_2_1_0 : NcRun 2 1 0 := fun _ _ _ _ _ _ _ _ _ _ => by kernel_rfl
theorem ncN_2_1_1 : NcRun 2 1 1 := fun _ _ _ _ _ _ _ _ _ _ => by kernel_rfl
theorem ncN_2_2_0 : NcRun 2 2 0 := fun _ _ _ _ _ _ _ _ _ _ => by kernel_rfl
theorem ncN_2_2_1 : NcRun 2 2 1 := fun _ _ _ _ _ _ _ _ _ _ => by kernel_rfl
theorem ncN_2_2_2 : NcRun 2 2 2 := fun _ _ _ _ _ _ _ _ _ _ => by kernel_rfl
theorem ncN_2_3_0 : NcRun 2 3 0 := fun _ _ _ _ _ _ _ _ _ _ => by kernel_rfl
theorem ncN_2_3_1 : NcRun 2 3 1 := fun _ _ _ _ _ _ _ _ _ _ => by kernel_rfl
theorem ncN_2_3_2 : NcRun 2 3 2 := fun _ _ _ _ _ _ _ _ _ _ => by kernel_rfl
theorem ncN_2_3_3 : NcRun 2 3 3 := fun _ _ _ _ _ _ _ _ _ _ => by kernel_rfl

end Go.Proofs.Ytclphdmaedpipaa
