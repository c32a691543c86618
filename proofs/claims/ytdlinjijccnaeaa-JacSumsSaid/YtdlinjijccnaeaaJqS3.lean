/- JacSums' runs, of 3 variables. -/
import Derived.Test.YtdlinjijccnaeaaJqS
namespace Go.Proofs.Ytdlinjijccnaeaa
open Go
set_option linter.unusedVariables false
set_option linter.unusedSimpArgs false
set_option maxRecDepth 100000

theorem suRun_3_0_true : SuRun 3 4 true := fun _ _ _ _ _ _ _ _ _ _ _ _ _ _ _ _ _ => by kernel_rfl
theorem suRun_3_0_false : SuRun 3 4 false := fun _ _ _ _ _ _ _ _ _ _ _ _ _ _ _ _ _ => by kernel_rfl
theorem suRun_3_1_true : SuRun 3 5 true := fun _ _ _ _ _ _ _ _ _ _ _ _ _ _ _ _ _ => by kernel_rfl
theorem suRun_3_1_false : SuRun 3 5 false := fun _ _ _ _ _ _ _ _ _ _ _ _ _ _ _ _ _ => by kernel_rfl
theorem suRun_3_2_true : SuRun 3 6 true := fun _ _ _ _ _ _ _ _ _ _ _ _ _ _ _ _ _ => by kernel_rfl
theorem suRun_3_2_false : SuRun 3 6 false := fun _ _ _ _ _ _ _ _ _ _ _ _ _ _ _ _ _ => by kernel_rfl
theorem suRun_3_3_true : SuRun 3 7 true := fun _ _ _ _ _ _ _ _ _ _ _ _ _ _ _ _ _ => by kernel_rfl
theorem suRun_3_3_false : SuRun 3 7 false := fun _ _ _ _ _ _ _ _ _ _ _ _ _ _ _ _ _ => by kernel_rfl
theorem suRun_3_4_true : SuRun 3 8 true := fun _ _ _ _ _ _ _ _ _ _ _ _ _ _ _ _ _ => by kernel_rfl
theorem suRun_3_4_false : SuRun 3 8 false := fun _ _ _ _ _ _ _ _ _ _ _ _ _ _ _ _ _ => by kernel_rfl
theorem suRun_3_5_true : SuRun 3 9 true := fun _ _ _ _ _ _ _ _ _ _ _ _ _ _ _ _ _ => by kernel_rfl
theorem suRun_3_5_false : SuRun 3 9 false := fun _ _ _ _ _ _ _ _ _ _ _ _ _ _ _ _ _ => by kernel_rfl
theorem suRun_3_6_true : SuRun 3 10 true := fun _ _ _ _ _ _ _ _ _ _ _ _ _ _ _ _ _ => by kernel_rfl
theorem suRun_3_6_false : SuRun 3 10 false := fun _ _ _ _ _ _ _ _ _ _ _ _ _ _ _ _ _ => by kernel_rfl
theorem suRun_3_7_true : SuRun 3 11 true := fun _ _ _ _ _ _ _ _ _ _ _ _ _ _ _ _ _ => by kernel_rfl
theorem suRun_3_7_false : SuRun 3 11 false := fun _ _ _ _ _ _ _ _ _ _ _ _ _ _ _ _ _ => by kernel_rfl
theorem suRun_3_8_true : SuRun 3 12 true := fun _ _ _ _ _ _ _ _ _ _ _ _ _ _ _ _ _ => by kernel_rfl
theorem suRun_3_8_false : SuRun 3 12 false := fun _ _ _ _ _ _ _ _ _ _ _ _ _ _ _ _ _ => by kernel_rfl
theorem su_run3 {L : Nat} (h : L ≤ 8) (minus : Bool) : SuRun 3 (3 + 1 + L) minus := by
  have hl : L = 0 ∨ L = 1 ∨ L = 2 ∨ L = 3 ∨ L = 4 ∨ L = 5 ∨ L = 6 ∨ L = 7 ∨ L = 8 := by omega
  rcases hl with rfl | rfl | rfl | rfl | rfl | rfl | rfl | rfl | rfl <;> cases minus
  · exact suRun_3_0_false
  · exact suRun_3_0_true
  · exact suRun_3_1_false
  · exact suRun_3_1_true
  · exact suRun_3_2_false
  · exact suRun_3_2_true
  · exact suRun_3_3_false
  · exact suRun_3_3_true
  · exact suRun_3_4_false
  · exact suRun_3_4_true
  · exact suRun_3_5_false
  · exact suRun_3_5_true
  · exact suRun_3_6_false
  · exact suRun_3_6_true
  · exact suRun_3_7_false
  · exact suRun_3_7_true
  · exact suRun_3_8_false
  · exact suRun_3_8_true

end Go.Proofs.Ytdlinjijccnaeaa
