/- The law NordPredicts: its walk at order 1. -/
import Derived.Test.YtclphdmaedpipaaNordPred
namespace Go.Proofs.Ytclphdmaedpipaa
open Go
set_option linter.unusedVariables false
set_option maxRecDepth 100000

theorem nordPredicts_1_1 : ∀ zs : List Int, PredRun 1 1 zs
  | [] => fun order n s g => by kernel_rfl
  | z :: zs => fun order n s g => by kernel_rfl

theorem nordPredicts_1_2 : ∀ zs : List Int, PredRun 1 2 zs
  | [] => fun order n s g => by kernel_rfl
  | z :: zs => fun order n s g => by kernel_rfl

theorem nordPredicts_1_3 : ∀ zs : List Int, PredRun 1 3 zs
  | [] => fun order n s g => by kernel_rfl
  | z :: zs => fun order n s g => by kernel_rfl

end Go.Proofs.Ytclphdmaedpipaa
