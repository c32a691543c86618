/- The law NordNothing: its walk at some shapes. -/
import Derived.Test.YtclphdmaedpipaaNordZero
namespace Go.Proofs.Ytclphdmaedpipaa
open Go
set_option linter.unusedVariables false
set_option maxRecDepth 100000

theorem zero_3_3_a : ZeroRun 3 3 [] := fun order n s g b => by cases b <;> kernel_rfl

end Go.Proofs.Ytclphdmaedpipaa
