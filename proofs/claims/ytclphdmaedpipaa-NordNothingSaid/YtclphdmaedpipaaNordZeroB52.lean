/- The law NordNothing: its walk at some shapes. -/
import Derived.Test.YtclphdmaedpipaaNordZero
namespace Go.Proofs.Ytclphdmaedpipaa
open Go
set_option linter.unusedVariables false
set_option maxRecDepth 100000

theorem zero_5_2_b (z : Int) (zs : List Int) : ZeroRun 5 2 (z :: zs) := fun order n s g b => by cases b <;> kernel_rfl

end Go.Proofs.Ytclphdmaedpipaa
