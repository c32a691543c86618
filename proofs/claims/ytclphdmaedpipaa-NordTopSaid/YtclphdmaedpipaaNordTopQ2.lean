/- The law NordTop: its walk at order 2. -/
import Derived.Test.YtclphdmaedpipaaNordTop
namespace Go.Proofs.Ytclphdmaedpipaa
open Go
set_option linter.unusedVariables false
set_option maxRecDepth 100000

theorem nordTop_2_1 : ∀ zs : List Int, TopRun 2 1 zs
  | [] => fun order n g => by kernel_rfl
  | z :: zs => fun order n g => by kernel_rfl

theorem nordTop_2_2 : ∀ zs : List Int, TopRun 2 2 zs
  | [] => fun order n g => by kernel_rfl
  | z :: zs => fun order n g => by kernel_rfl

theorem nordTop_2_3 : ∀ zs : List Int, TopRun 2 3 zs
  | [] => fun order n g => by kernel_rfl
  | z :: zs => fun order n g => by kernel_rfl

end Go.Proofs.Ytclphdmaedpipaa
