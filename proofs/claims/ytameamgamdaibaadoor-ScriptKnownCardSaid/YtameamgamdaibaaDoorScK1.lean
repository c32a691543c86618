/- ScriptKnown: some of its texts. -/
import Derived.Test.YtameamgamdaibaaDoorScKa
namespace Go.Proofs.YtameamgamdaibaaDoor
open Go
set_option linter.unusedVariables false
set_option maxRecDepth 100000

theorem kn_0 : KnRun 0 := fun _ => by kernel_rfl
theorem kn_1 : KnRun 1 := fun _ => by kernel_rfl
theorem kn_2 : KnRun 2 := fun _ => by kernel_rfl
theorem kn_3 : KnRun 3 := fun _ => by kernel_rfl

end Go.Proofs.YtameamgamdaibaaDoor
