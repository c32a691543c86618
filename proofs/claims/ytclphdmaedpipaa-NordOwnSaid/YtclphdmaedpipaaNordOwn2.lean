/- NordOwn's runs at order 2. -/
import Derived.Test.YtclphdmaedpipaaNordOwn
namespace Go.Proofs.Ytclphdmaedpipaa
open Go
set_option linter.unusedVariables false
set_option linter.unusedSimpArgs false
set_option maxRecDepth 100000

theorem ownN_2_1 : OwnRunN 2 1 := fun _ _ _ _ _ _ _ _ => by kernel_rfl
theorem ownN_2_2 : OwnRunN 2 2 := fun _ _ _ _ _ _ _ _ => by kernel_rfl
theorem ownN_2_3 : OwnRunN 2 3 := fun _ _ _ _ _ _ _ _ => by kernel_rfl

end Go.Proofs.Ytclphdmaedpipaa
