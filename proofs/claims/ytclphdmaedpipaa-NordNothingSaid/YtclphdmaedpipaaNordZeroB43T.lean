/- The law NordNothing: its walk at some shapes. -/
import Derived.Test.YtclphdmaedpipaaNordZero
namespace Go.Proofs.Ytclphdmaedpipaa
open Go
set_option linter.unusedVariables false
set_option maxRecDepth 100000

theorem zero_4_3_b_true (z : Int) (zs : List Int) (order n : Int) (s : Nat) (g : Nat → Int) : zeroRun 4 3 order n s true (z :: zs) (tab ((4 + 1) * 3) g) = some (.bool true, logZ 4 3 order n s true (z :: zs) (tab ((4 + 1) * 3) g)) := by kernel_rfl

end Go.Proofs.Ytclphdmaedpipaa
