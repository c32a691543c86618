/- NordOwn's runs at order 3. -/
import Derived.Test.YtclphdmaedpipaaNordOwn
namespace Go.Proofs.Ytclphdmaedpipaa
open Go
set_option linter.unusedVariables false
set_option linter.unusedSimpArgs false
set_option maxRecDepth 100000

theorem ownN_3_1 : OwnRunN 3 1 := fun _ _ _ _ _ _ _ _ => by kernel_rfl
theorem ownN_3_2 : OwnRunN 3 2 := fun _ _ _ _ _ _ _ _ => by kernel_rfl
theorem ownN_3_3 : OwnRunN 3 3 := fun _ _ _ _ _ _ _ _ => by kernel_rfl

end Go.Proofs.Ytclphdmaedpipaa
