/- NordOwn's runs at order 5. -/
import Derived.Test.YtclphdmaedpipaaNordOwn
namespace Go.Proofs.Ytclphdmaedpipaa
open Go
set_option linter.unusedVariables false
set_option linter.unusedSimpArgs false
set_option maxRecDepth 100000

theorem ownN_5_1 : OwnRunN 5 1 := fun _ _ _ _ _ _ _ _ => by kernel_rfl
theorem ownN_5_2 : OwnRunN 5 2 := fun _ _ _ _ _ _ _ _ => by kernel_rfl
theorem ownN_5_3 : OwnRunN 5 3 := fun _ _ _ _ _ _ _ _ => by kernel_rfl

end Go.Proofs.Ytclphdmaedpipaa
