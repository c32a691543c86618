/- NaR1 / NaR3 / NaR4: several texts in one. -/
import Derived.Test.YtclphdmaedpipaaNaR
/-!  NordAll's runs. -/
namespace Go.Proofs.Ytclphdmaedpipaa
open Go
set_option linter.unusedVariables false
set_option linter.unusedSimpArgs false
set_option maxRecDepth 100000

theorem na_1_1 : NaRun 1 1 := fun _ _ _ _ _ _ _ _ _ _ _ => by kernel_rfl
theorem na_1_2 : NaRun 1 2 := fun _ _ _ _ _ _ _ _ _ _ _ => by kernel_rfl
theorem na_1_3 : NaRun 1 3 := fun _ _ _ _ _ _ _ _ _ _ _ => by kernel_rfl
theorem na_2_1 : NaRun 2 1 := fun _ _ _ _ _ _ _ _ _ _ _ => by kernel_rfl
theorem na_2_2 : NaRun 2 2 := fun _ _ _ _ _ _ _ _ _ _ _ => by kernel_rfl
theorem na_2_3 : NaRun 2 3 := fun _ _ _ _ _ _ _ _ _ _ _ => by kernel_rfl

end Go.Proofs.Ytclphdmaedpipaa

/-!  NordAll's runs. -/
namespace Go.Proofs.Ytclphdmaedpipaa
open Go
set_option linter.unusedVariables false
set_option linter.unusedSimpArgs false
set_option maxRecDepth 100000

theorem na_3_1 : NaRun 3 1 := fun _ _ _ _ _ _ _ _ _ _ _ => by kernel_rfl
theorem na_3_2 : NaRun 3 2 := fun _ _ _ _ _ _ _ _ _ _ _ => by kernel_rfl
theorem na_3_3 : NaRun 3 3 := fun _ _ _ _ _ _ _ _ _ _ _ => by kernel_rfl

end Go.Proofs.Ytclphdmaedpipaa

/-!  NordAll's runs. -/
namespace Go.Proofs.Ytclphdmaedpipaa
open Go
set_option linter.unusedVariables false
set_option linter.unusedSimpArgs false
set_option maxRecDepth 100000

theorem na_4_1 : NaRun 4 1 := fun _ _ _ _ _ _ _ _ _ _ _ => by kernel_rfl
theorem na_4_2 : NaRun 4 2 := fun _ _ _ _ _ _ _ _ _ _ _ => by kernel_rfl
theorem na_4_3 : NaRun 4 3 := fun _ _ _ _ _ _ _ _ _ _ _ => by kernel_rfl

end Go.Proofs.Ytclphdmaedpipaa
