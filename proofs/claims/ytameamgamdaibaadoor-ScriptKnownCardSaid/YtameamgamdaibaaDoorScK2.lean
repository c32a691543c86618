/- ScriptKnown: some of its texts. -/
import Derived.Test.YtameamgamdaibaaDoorScKa
namespace Go.Proofs.YtameamgamdaibaaDoor
open Go
set_option linter.unusedVariables false
set_option maxRecDepth 100000

theorem kn_4 : KnRun 4 := fun _ => by kernel_rfl
theorem kn_5 : KnRun 5 := fun _ => by kernel_rfl
theorem kn_6 : KnRun 6 := fun _ => by kernel_rfl
theorem kn_7 : KnRun 7 := fun _ => by kernel_rfl
theorem kn_8 : KnRun 8 := fun _ => by kernel_rfl
theorem kn_9 : KnRun 9 := fun _ => by kernel_rfl
theorem kn_10 : KnRun 10 := fun _ => by kernel_rfl

end Go.Proofs.YtameamgamdaibaaDoor
