/- The law NordTop: its walk at order 3. -/
import Derived.Test.YtclphdmaedpipaaNordTop
namespace Go.Proofs.Ytclphdmaedpipaa
open Go
set_option linter.unusedVariables false
set_option maxRecDepth 100000

theorem nordTop_3_1 : ∀ zs : List Int, TopRun 3 1 zs
  | [] => fun order n g => by kernel_rfl
  | z :: zs => fun order n g => by kernel_rfl

theorem nordTop_3_2 : ∀ zs : List Int, TopRun 3 2 zs
  | [] => fun order n g => by kernel_rfl
  | z :: zs => fun order n g => by kernel_rfl

theorem nordTop_3_3 : ∀ zs : List Int, TopRun 3 3 zs
  | [] => fun order n g => by kernel_rfl
  | z :: zs => fun order n g => by kernel_rfl

end Go.Proofs.Ytclphdmaedpipaa
