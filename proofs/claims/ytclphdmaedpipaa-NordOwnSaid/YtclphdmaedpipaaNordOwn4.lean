/- NordOwn's runs at order 4. -/
import Derived.Test.YtclphdmaedpipaaNordOwn
namespace Go.Proofs.Ytclphdmaedpipaa
open Go
set_option linter.unusedVariables false
set_option linter.unusedSimpArgs false
set_option maxRecDepth 100000

theorem ownN_4_1 : OwnRunN 4 1 := fun _ _ _ _ _ _ _ _ => by kernel_rfl
theorem ownN_4_2 : OwnRunN 4 2 := fun _ _ _ _ _ _ _ _ => by kernel_rfl
theorem ownN_4_3 : OwnRunN 4 3 := fun _ _ _ _ _ _ _ _ => by kernel_rfl

end Go.Proofs.Ytclphdmaedpipaa
