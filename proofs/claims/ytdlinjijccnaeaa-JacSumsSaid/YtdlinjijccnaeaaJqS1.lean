/- JacSums' runs, of one and of two variables. -/
import Derived.Test.YtdlinjijccnaeaaJqS
namespace Go.Proofs.Ytdlinjijccnaeaa
open Go
set_option linter.unusedVariables false
set_option linter.unusedSimpArgs false
set_option maxRecDepth 100000

theorem suRun_1_0_true : SuRun 1 2 true := fun _ _ _ _ _ _ _ _ _ _ _ _ _ _ _ _ _ => by kernel_rfl
theorem suRun_1_0_false : SuRun 1 2 false := fun _ _ _ _ _ _ _ _ _ _ _ _ _ _ _ _ _ => by kernel_rfl
theorem suRun_1_1_true : SuRun 1 3 true := fun _ _ _ _ _ _ _ _ _ _ _ _ _ _ _ _ _ => by kernel_rfl
theorem suRun_1_1_false : SuRun 1 3 false := fun _ _ _ _ _ _ _ _ _ _ _ _ _ _ _ _ _ => by kernel_rfl
theorem suRun_1_2_true : SuRun 1 4 true := fun _ _ _ _ _ _ _ _ _ _ _ _ _ _ _ _ _ => by kernel_rfl
theorem suRun_1_2_false : SuRun 1 4 false := fun _ _ _ _ _ _ _ _ _ _ _ _ _ _ _ _ _ => by kernel_rfl
theorem suRun_1_3_true : SuRun 1 5 true := fun _ _ _ _ _ _ _ _ _ _ _ _ _ _ _ _ _ => by kernel_rfl
theorem suRun_1_3_false : SuRun 1 5 false := fun _ _ _ _ _ _ _ _ _ _ _ _ _ _ _ _ _ => by kernel_rfl
theorem suRun_1_4_true : SuRun 1 6 true := fun _ _ _ _ _ _ _ _ _ _ _ _ _ _ _ _ _ => by kernel_rfl
theorem suRun_1_4_false : SuRun 1 6 false := fun _ _ _ _ _ _ _ _ _ _ _ _ _ _ _ _ _ => by kernel_rfl
theorem suRun_1_5_true : SuRun 1 7 true := fun _ _ _ _ _ _ _ _ _ _ _ _ _ _ _ _ _ => by kernel_rfl
theorem suRun_1_5_false : SuRun 1 7 false := fun _ _ _ _ _ _ _ _ _ _ _ _ _ _ _ _ _ => by kernel_rfl
theorem suRun_1_6_true : SuRun 1 8 true := fun _ _ _ _ _ _ _ _ _ _ _ _ _ _ _ _ _ => by kernel_rfl
theorem suRun_1_6_false : SuRun 1 8 false := fun _ _ _ _ _ _ _ _ _ _ _ _ _ _ _ _ _ => by kernel_rfl
theorem suRun_1_7_true : SuRun 1 9 true := fun _ _ _ _ _ _ _ _ _ _ _ _ _ _ _ _ _ => by kernel_rfl
theorem suRun_1_7_false : SuRun 1 9 false := fun _ _ _ _ _ _ _ _ _ _ _ _ _ _ _ _ _ => by kernel_rfl
theorem suRun_1_8_true : SuRun 1 10 true := fun _ _ _ _ _ _ _ _ _ _ _ _ _ _ _ _ _ => by kernel_rfl
theorem suRun_1_8_false : SuRun 1 10 false := fun _ _ _ _ _ _ _ _ _ _ _ _ _ _ _ _ _ => by kernel_rfl
theorem su_run1 {L : Nat} (h : L ≤ 8) (minus : Bool) : SuRun 1 (1 + 1 + L) minus := by
  have hl : L = 0 ∨ L = 1 ∨ L = 2 ∨ L = 3 ∨ L = 4 ∨ L = 5 ∨ L = 6 ∨ L = 7 ∨ L = 8 := by omega
  rcases hl with rfl | rfl | rfl | rfl | rfl | rfl | rfl | rfl | rfl <;> cases minus
  · exact suRun_1_0_false
  · exact suRun_1_0_true
  · exact suRun_1_1_false
  · exact suRun_1_1_true
  · exact suRun_1_2_false
  · exact suRun_1_2_true
  · exact suRun_1_3_false
  · exact suRun_1_3_true
  · exact suRun_1_4_false
  · exact suRun_1_4_true
  · exact suRun_1_5_false
  · exact suRun_1_5_true
  · exact suRun_1_6_false
  · exact suRun_1_6_true
  · exact suRun_1_7_false
  · exact suRun_1_7_true
  · exact suRun_1_8_false
  · exact suRun_1_8_true
theorem suRun_2_0_true : SuRun 2 3 true := fun _ _ _ _ _ _ _ _ _ _ _ _ _ _ _ _ _ => by kernel_rfl
theorem suRun_2_0_false : SuRun 2 3 false := fun _ _ _ _ _ _ _ _ _ _ _ _ _ _ _ _ _ => by kernel_rfl
theorem suRun_2_1_true : SuRun 2 4 true := fun _ _ _ _ _ _ _ _ _ _ _ _ _ _ _ _ _ => by kernel_rfl
theorem suRun_2_1_false : SuRun 2 4 false := fun _ _ _ _ _ _ _ _ _ _ _ _ _ _ _ _ _ => by kernel_rfl
theorem suRun_2_2_true : SuRun 2 5 true := fun _ _ _ _ _ _ _ _ _ _ _ _ _ _ _ _ _ => by kernel_rfl
theorem suRun_2_2_false : SuRun 2 5 false := fun _ _ _ _ _ _ _ _ _ _ _ _ _ _ _ _ _ => by kernel_rfl
theorem suRun_2_3_true : SuRun 2 6 true := fun _ _ _ _ _ _ _ _ _ _ _ _ _ _ _ _ _ => by kernel_rfl
theorem suRun_2_3_false : SuRun 2 6 false := fun _ _ _ _ _ _ _ _ _ _ _ _ _ _ _ _ _ => by kernel_rfl
theorem suRun_2_4_true : SuRun 2 7 true := fun _ _ _ _ _ _ _ _ _ _ _ _ _ _ _ _ _ => by kernel_rfl
theorem suRun_2_4_false : SuRun 2 7 false := fun _ _ _ _ _ _ _ _ _ _ _ _ _ _ _ _ _ => by kernel_rfl
theorem suRun_2_5_true : SuRun 2 8 true := fun _ _ _ _ _ _ _ _ _ _ _ _ _ _ _ _ _ => by kernel_rfl
theorem suRun_2_5_false : SuRun 2 8 false := fun _ _ _ _ _ _ _ _ _ _ _ _ _ _ _ _ _ => by kernel_rfl
theorem suRun_2_6_true : SuRun 2 9 true := fun _ _ _ _ _ _ _ _ _ _ _ _ _ _ _ _ _ => by kernel_rfl
theorem suRun_2_6_false : SuRun 2 9 false := fun _ _ _ _ _ _ _ _ _ _ _ _ _ _ _ _ _ => by kernel_rfl
theorem suRun_2_7_true : SuRun 2 10 true := fun _ _ _ _ _ _ _ _ _ _ _ _ _ _ _ _ _ => by kernel_rfl
theorem suRun_2_7_false : SuRun 2 10 false := fun _ _ _ _ _ _ _ _ _ _ _ _ _ _ _ _ _ => by kernel_rfl
theorem suRun_2_8_true : SuRun 2 11 true := fun _ _ _ _ _ _ _ _ _ _ _ _ _ _ _ _ _ => by kernel_rfl
theorem suRun_2_8_false : SuRun 2 11 false := fun _ _ _ _ _ _ _ _ _ _ _ _ _ _ _ _ _ => by kernel_rfl
theorem su_run2 {L : Nat} (h : L ≤ 8) (minus : Bool) : SuRun 2 (2 + 1 + L) minus := by
  have hl : L = 0 ∨ L = 1 ∨ L = 2 ∨ L = 3 ∨ L = 4 ∨ L = 5 ∨ L = 6 ∨ L = 7 ∨ L = 8 := by omega
  rcases hl with rfl | rfl | rfl | rfl | rfl | rfl | rfl | rfl | rfl <;> cases minus
  · exact suRun_2_0_false
  · exact suRun_2_0_true
  · exact suRun_2_1_false
  · exact suRun_2_1_true
  · exact suRun_2_2_false
  · exact suRun_2_2_true
  · exact suRun_2_3_false
  · exact suRun_2_3_true
  · exact suRun_2_4_false
  · exact suRun_2_4_true
  · exact suRun_2_5_false
  · exact suRun_2_5_true
  · exact suRun_2_6_false
  · exact suRun_2_6_true
  · exact suRun_2_7_false
  · exact suRun_2_7_true
  · exact suRun_2_8_false
  · exact suRun_2_8_true

end Go.Proofs.Ytdlinjijccnaeaa
