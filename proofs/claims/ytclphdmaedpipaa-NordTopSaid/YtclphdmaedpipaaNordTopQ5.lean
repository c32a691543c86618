/- The law NordTop: its walk at order 5. -/
import Derived.Test.YtclphdmaedpipaaNordTopV1
import Derived.Test.YtclphdmaedpipaaNordTopV2
namespace Go.Proofs.Ytclphdmaedpipaa
open Go
set_option linter.unusedVariables false
set_option maxRecDepth 100000

theorem nordTop_5_1 : ∀ zs : List Int, TopRun 5 1 zs
  | [] => fun order n g => by kernel_rfl
  | z :: zs => fun order n g => by kernel_rfl

theorem nordTop_5_2 : ∀ zs : List Int, TopRun 5 2 zs
  | [] => fun order n g => by kernel_rfl
  | z :: zs => fun order n g => by kernel_rfl

theorem nordTop_5_3 : ∀ zs : List Int, TopRun 5 3 zs
  | [] => nordTop_5_3_v1
  | z :: zs => nordTop_5_3_v2 z zs

end Go.Proofs.Ytclphdmaedpipaa
