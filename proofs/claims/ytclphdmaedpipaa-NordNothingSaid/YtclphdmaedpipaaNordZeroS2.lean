/- The law NordNothing: its walk at some shapes. -/
import Derived.Test.YtclphdmaedpipaaNordZero
namespace Go.Proofs.Ytclphdmaedpipaa
open Go
set_option linter.unusedVariables false
set_option maxRecDepth 100000

theorem nordNothing_4_1 : ∀ zs : List Int, ZeroRun 4 1 zs
  | [] => fun order n s g b => by cases b <;> kernel_rfl
  | z :: zs => fun order n s g b => by cases b <;> kernel_rfl

theorem nordNothing_5_1 : ∀ zs : List Int, ZeroRun 5 1 zs
  | [] => fun order n s g b => by cases b <;> kernel_rfl
  | z :: zs => fun order n s g b => by cases b <;> kernel_rfl

end Go.Proofs.Ytclphdmaedpipaa
