/- The law NordNothing: its walk at some shapes. -/
import Derived.Test.YtclphdmaedpipaaNordZero
namespace Go.Proofs.Ytclphdmaedpipaa
open Go
set_option linter.unusedVariables false
set_option maxRecDepth 100000

theorem nordNothing_1_1 : ∀ zs : List Int, ZeroRun 1 1 zs
  | [] => fun order n s g b => by cases b <;> kernel_rfl
  | z :: zs => fun order n s g b => by cases b <;> kernel_rfl

theorem nordNothing_1_2 : ∀ zs : List Int, ZeroRun 1 2 zs
  | [] => fun order n s g b => by cases b <;> kernel_rfl
  | z :: zs => fun order n s g b => by cases b <;> kernel_rfl

theorem nordNothing_1_3 : ∀ zs : List Int, ZeroRun 1 3 zs
  | [] => fun order n s g b => by cases b <;> kernel_rfl
  | z :: zs => fun order n s g b => by cases b <;> kernel_rfl

theorem nordNothing_2_1 : ∀ zs : List Int, ZeroRun 2 1 zs
  | [] => fun order n s g b => by cases b <;> kernel_rfl
  | z :: zs => fun order n s g b => by cases b <;> kernel_rfl

theorem nordNothing_2_2 : ∀ zs : List Int, ZeroRun 2 2 zs
  | [] => fun order n s g b => by cases b <;> kernel_rfl
  | z :: zs => fun order n s g b => by cases b <;> kernel_rfl

theorem nordNothing_3_1 : ∀ zs : List Int, ZeroRun 3 1 zs
  | [] => fun order n s g b => by cases b <;> kernel_rfl
  | z :: zs => fun order n s g b => by cases b <;> kernel_rfl

theorem nordNothing_3_2 : ∀ zs : List Int, ZeroRun 3 2 zs
  | [] => fun order n s g b => by cases b <;> kernel_rfl
  | z :: zs => fun order n s g b => by cases b <;> kernel_rfl

end Go.Proofs.Ytclphdmaedpipaa
