/- ScriptKnown: some of its texts. -/
import Derived.Test.YtameamgamdaibaaDoorScKa
namespace Go.Proofs.YtameamgamdaibaaDoor
open Go
set_option linter.unusedVariables false
set_option maxRecDepth 100000

theorem kn_18 : KnRun 18 := fun _ => by kernel_rfl
theorem kn_19 : KnRun 19 := fun _ => by kernel_rfl
theorem kn_20 : KnRun 20 := fun _ => by kernel_rfl
theorem kn_21 : KnRun 21 := fun _ => by kernel_rfl

end Go.Proofs.YtameamgamdaibaaDoor
