/- The law NordPredicts: its walk at order 2. -/
import Derived.Test.YtclphdmaedpipaaNordPred
namespace Go.Proofs.Ytclphdmaedpipaa
open Go
set_option linter.unusedVariables false
set_option maxRecDepth 100000

theorem nordPredicts_2_1 : ∀ zs : List Int, PredRun 2 1 zs
  | [] => fun order n s g => by kernel_rfl
  | z :: zs => fun order n s g => by kernel_rfl

theorem nordPredicts_2_2 : ∀ zs : List Int, PredRun 2 2 zs
  | [] => fun order n s g => by kernel_rfl
  | z :: zs => fun order n s g => by kernel_rfl

theorem nordPredicts_2_3 : ∀ zs : List Int, PredRun 2 3 zs
  | [] => fun order n s g => by kernel_rfl
  | z :: zs => fun order n s g => by kernel_rfl

end Go.Proofs.Ytclphdmaedpipaa
