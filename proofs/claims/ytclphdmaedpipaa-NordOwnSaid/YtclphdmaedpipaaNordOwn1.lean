/- NordOwn's runs at order 1. -/
import Derived.Test.YtclphdmaedpipaaNordOwn
namespace Go.Proofs.Ytclphdmaedpipaa
open Go
set_option linter.unusedVariables false
set_option linter.unusedSimpArgs false
set_option maxRecDepth 100000

theorem ownN_1_1 : OwnRunN 1 1 := fun _ _ _ _ _ _ _ _ => by kernel_rfl
theorem ownN_1_2 : OwnRunN 1 2 := fun _ _ _ _ _ _ _ _ => by kernel_rfl
theorem ownN_1_3 : OwnRunN 1 3 := fun _ _ _ _ _ _ _ _ => by kernel_rfl

end Go.Proofs.Ytclphdmaedpipaa
