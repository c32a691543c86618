/- ScriptKnown: some of its texts. -/
import Derived.Test.YtameamgamdaibaaDoorScKa
namespace Go.Proofs.YtameamgamdaibaaDoor
open Go
set_option linter.unusedVariables false
set_option maxRecDepth 100000

theorem kn_11 : KnRun 11 := fun _ => by kernel_rfl
theorem kn_12 : KnRun 12 := fun _ => by kernel_rfl
theorem kn_13 : KnRun 13 := fun _ => by kernel_rfl
theorem kn_14 : KnRun 14 := fun _ => by kernel_rfl
theorem kn_15 : KnRun 15 := fun _ => by kernel_rfl
theorem kn_16 : KnRun 16 := fun _ => by kernel_rfl
theorem kn_17 : KnRun 17 := fun _ => by kernel_rfl

end Go.Proofs.YtameamgamdaibaaDoor
