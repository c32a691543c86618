/- TapeMore's runs, of 1 variables. -/
import Derived.Test.YtpmdpbljgidllaaTpMo
namespace Go.Proofs.Ytpmdpbljgidllaa
open Go
set_option linter.unusedVariables false
set_option linter.unusedSimpArgs false
set_option maxRecDepth 100000

theorem moRun_1_0_0 : MoRun 1 2 0 := fun _ _ _ _ _ _ _ _ _ _ _ _ _ _ _ _ _ _ => by kernel_rfl
theorem moRun_1_0_1 : MoRun 1 2 1 := fun _ _ _ _ _ _ _ _ _ _ _ _ _ _ _ _ _ _ => by kernel_rfl
theorem moRun_1_0_2 : MoRun 1 2 2 := fun _ _ _ _ _ _ _ _ _ _ _ _ _ _ _ _ _ _ => by kernel_rfl
theorem moRun_1_0_3 : MoRun 1 2 3 := fun _ _ _ _ _ _ _ _ _ _ _ _ _ _ _ _ _ _ => by kernel_rfl
theorem moRun_1_0_4 : MoRun 1 2 4 := fun _ _ _ _ _ _ _ _ _ _ _ _ _ _ _ _ _ _ => by kernel_rfl
theorem moRun_1_0_5 : MoRun 1 2 5 := fun _ _ _ _ _ _ _ _ _ _ _ _ _ _ _ _ _ _ => by kernel_rfl
theorem moRun_1_0_6 : MoRun 1 2 6 := fun _ _ _ _ _ _ _ _ _ _ _ _ _ _ _ _ _ _ => by kernel_rfl
theorem moRun_1_0_7 : MoRun 1 2 7 := fun _ _ _ _ _ _ _ _ _ _ _ _ _ _ _ _ _ _ => by kernel_rfl
theorem moRun_1_0_8 : MoRun 1 2 8 := fun _ _ _ _ _ _ _ _ _ _ _ _ _ _ _ _ _ _ => by kernel_rfl
theorem moRun_1_1_0 : MoRun 1 3 0 := fun _ _ _ _ _ _ _ _ _ _ _ _ _ _ _ _ _ _ => by kernel_rfl
theorem moRun_1_1_1 : MoRun 1 3 1 := fun _ _ _ _ _ _ _ _ _ _ _ _ _ _ _ _ _ _ => by kernel_rfl
theorem moRun_1_1_2 : MoRun 1 3 2 := fun _ _ _ _ _ _ _ _ _ _ _ _ _ _ _ _ _ _ => by kernel_rfl
theorem moRun_1_1_3 : MoRun 1 3 3 := fun _ _ _ _ _ _ _ _ _ _ _ _ _ _ _ _ _ _ => by kernel_rfl
theorem moRun_1_1_4 : MoRun 1 3 4 := fun _ _ _ _ _ _ _ _ _ _ _ _ _ _ _ _ _ _ => by kernel_rfl
theorem moRun_1_1_5 : MoRun 1 3 5 := fun _ _ _ _ _ _ _ _ _ _ _ _ _ _ _ _ _ _ => by kernel_rfl
theorem moRun_1_1_6 : MoRun 1 3 6 := fun _ _ _ _ _ _ _ _ _ _ _ _ _ _ _ _ _ _ => by kernel_rfl
theorem moRun_1_1_7 : MoRun 1 3 7 := fun _ _ _ _ _ _ _ _ _ _ _ _ _ _ _ _ _ _ => by kernel_rfl
theorem moRun_1_1_8 : MoRun 1 3 8 := fun _ _ _ _ _ _ _ _ _ _ _ _ _ _ _ _ _ _ => by kernel_rfl
theorem moRun_1_2_0 : MoRun 1 4 0 := fun _ _ _ _ _ _ _ _ _ _ _ _ _ _ _ _ _ _ => by kernel_rfl
theorem moRun_1_2_1 : MoRun 1 4 1 := fun _ _ _ _ _ _ _ _ _ _ _ _ _ _ _ _ _ _ => by kernel_rfl
theorem moRun_1_2_2 : MoRun 1 4 2 := fun _ _ _ _ _ _ _ _ _ _ _ _ _ _ _ _ _ _ => by kernel_rfl
theorem moRun_1_2_3 : MoRun 1 4 3 := fun _ _ _ _ _ _ _ _ _ _ _ _ _ _ _ _ _ _ => by kernel_rfl
theorem moRun_1_2_4 : MoRun 1 4 4 := fun _ _ _ _ _ _ _ _ _ _ _ _ _ _ _ _ _ _ => by kernel_rfl
theorem moRun_1_2_5 : MoRun 1 4 5 := fun _ _ _ _ _ _ _ _ _ _ _ _ _ _ _ _ _ _ => by kernel_rfl
theorem moRun_1_2_6 : MoRun 1 4 6 := fun _ _ _ _ _ _ _ _ _ _ _ _ _ _ _ _ _ _ => by kernel_rfl
theorem moRun_1_2_7 : MoRun 1 4 7 := fun _ _ _ _ _ _ _ _ _ _ _ _ _ _ _ _ _ _ => by kernel_rfl
theorem moRun_1_2_8 : MoRun 1 4 8 := fun _ _ _ _ _ _ _ _ _ _ _ _ _ _ _ _ _ _ => by kernel_rfl
theorem moRun_1_3_0 : MoRun 1 5 0 := fun _ _ _ _ _ _ _ _ _ _ _ _ _ _ _ _ _ _ => by kernel_rfl
theorem moRun_1_3_1 : MoRun 1 5 1 := fun _ _ _ _ _ _ _ _ _ _ _ _ _ _ _ _ _ _ => by kernel_rfl
theorem moRun_1_3_2 : MoRun 1 5 2 := fun _ _ _ _ _ _ _ _ _ _ _ _ _ _ _ _ _ _ => by kernel_rfl
theorem moRun_1_3_3 : MoRun 1 5 3 := fun _ _ _ _ _ _ _ _ _ _ _ _ _ _ _ _ _ _ => by kernel_rfl
theorem moRun_1_3_4 : MoRun 1 5 4 := fun _ _ _ _ _ _ _ _ _ _ _ _ _ _ _ _ _ _ => by kernel_rfl
theorem moRun_1_3_5 : MoRun 1 5 5 := fun _ _ _ _ _ _ _ _ _ _ _ _ _ _ _ _ _ _ => by kernel_rfl
theorem moRun_1_3_6 : MoRun 1 5 6 := fun _ _ _ _ _ _ _ _ _ _ _ _ _ _ _ _ _ _ => by kernel_rfl
theorem moRun_1_3_7 : MoRun 1 5 7 := fun _ _ _ _ _ _ _ _ _ _ _ _ _ _ _ _ _ _ => by kernel_rfl
theorem moRun_1_3_8 : MoRun 1 5 8 := fun _ _ _ _ _ _ _ _ _ _ _ _ _ _ _ _ _ _ => by kernel_rfl
theorem moRun_1_4_0 : MoRun 1 6 0 := fun _ _ _ _ _ _ _ _ _ _ _ _ _ _ _ _ _ _ => by kernel_rfl
theorem moRun_1_4_1 : MoRun 1 6 1 := fun _ _ _ _ _ _ _ _ _ _ _ _ _ _ _ _ _ _ => by kernel_rfl
theorem moRun_1_4_2 : MoRun 1 6 2 := fun _ _ _ _ _ _ _ _ _ _ _ _ _ _ _ _ _ _ => by kernel_rfl
theorem moRun_1_4_3 : MoRun 1 6 3 := fun _ _ _ _ _ _ _ _ _ _ _ _ _ _ _ _ _ _ => by kernel_rfl
theorem moRun_1_4_4 : MoRun 1 6 4 := fun _ _ _ _ _ _ _ _ _ _ _ _ _ _ _ _ _ _ => by kernel_rfl
theorem moRun_1_4_5 : MoRun 1 6 5 := fun _ _ _ _ _ _ _ _ _ _ _ _ _ _ _ _ _ _ => by kernel_rfl
theorem moRun_1_4_6 : MoRun 1 6 6 := fun _ _ _ _ _ _ _ _ _ _ _ _ _ _ _ _ _ _ => by kernel_rfl
theorem moRun_1_4_7 : MoRun 1 6 7 := fun _ _ _ _ _ _ _ _ _ _ _ _ _ _ _ _ _ _ => by kernel_rfl
theorem moRun_1_4_8 : MoRun 1 6 8 := fun _ _ _ _ _ _ _ _ _ _ _ _ _ _ _ _ _ _ => by kernel_rfl
theorem moRun_1_5_0 : MoRun 1 7 0 := fun _ _ _ _ _ _ _ _ _ _ _ _ _ _ _ _ _ _ => by kernel_rfl
theorem moRun_1_5_1 : MoRun 1 7 1 := fun _ _ _ _ _ _ _ _ _ _ _ _ _ _ _ _ _ _ => by kernel_rfl
theorem moRun_1_5_2 : MoRun 1 7 2 := fun _ _ _ _ _ _ _ _ _ _ _ _ _ _ _ _ _ _ => by kernel_rfl
theorem moRun_1_5_3 : MoRun 1 7 3 := fun _ _ _ _ _ _ _ _ _ _ _ _ _ _ _ _ _ _ => by kernel_rfl
theorem moRun_1_5_4 : MoRun 1 7 4 := fun _ _ _ _ _ _ _ _ _ _ _ _ _ _ _ _ _ _ => by kernel_rfl
theorem moRun_1_5_5 : MoRun 1 7 5 := fun _ _ _ _ _ _ _ _ _ _ _ _ _ _ _ _ _ _ => by kernel_rfl
theorem moRun_1_5_6 : MoRun 1 7 6 := fun _ _ _ _ _ _ _ _ _ _ _ _ _ _ _ _ _ _ => by kernel_rfl
theorem moRun_1_5_7 : MoRun 1 7 7 := fun _ _ _ _ _ _ _ _ _ _ _ _ _ _ _ _ _ _ => by kernel_rfl
theorem moRun_1_5_8 : MoRun 1 7 8 := fun _ _ _ _ _ _ _ _ _ _ _ _ _ _ _ _ _ _ => by kernel_rfl
theorem moRun_1_6_0 : MoRun 1 8 0 := fun _ _ _ _ _ _ _ _ _ _ _ _ _ _ _ _ _ _ => by kernel_rfl
theorem moRun_1_6_1 : MoRun 1 8 1 := fun _ _ _ _ _ _ _ _ _ _ _ _ _ _ _ _ _ _ => by kernel_rfl
theorem moRun_1_6_2 : MoRun 1 8 2 := fun _ _ _ _ _ _ _ _ _ _ _ _ _ _ _ _ _ _ => by kernel_rfl
theorem moRun_1_6_3 : MoRun 1 8 3 := fun _ _ _ _ _ _ _ _ _ _ _ _ _ _ _ _ _ _ => by kernel_rfl
theorem moRun_1_6_4 : MoRun 1 8 4 := fun _ _ _ _ _ _ _ _ _ _ _ _ _ _ _ _ _ _ => by kernel_rfl
theorem moRun_1_6_5 : MoRun 1 8 5 := fun _ _ _ _ _ _ _ _ _ _ _ _ _ _ _ _ _ _ => by kernel_rfl
theorem moRun_1_6_6 : MoRun 1 8 6 := fun _ _ _ _ _ _ _ _ _ _ _ _ _ _ _ _ _ _ => by kernel_rfl
theorem moRun_1_6_7 : MoRun 1 8 7 := fun _ _ _ _ _ _ _ _ _ _ _ _ _ _ _ _ _ _ => by kernel_rfl
theorem moRun_1_6_8 : MoRun 1 8 8 := fun _ _ _ _ _ _ _ _ _ _ _ _ _ _ _ _ _ _ => by kernel_rfl
theorem moRun_1_7_0 : MoRun 1 9 0 := fun _ _ _ _ _ _ _ _ _ _ _ _ _ _ _ _ _ _ => by kernel_rfl
theorem moRun_1_7_1 : MoRun 1 9 1 := fun _ _ _ _ _ _ _ _ _ _ _ _ _ _ _ _ _ _ => by kernel_rfl
theorem moRun_1_7_2 : MoRun 1 9 2 := fun _ _ _ _ _ _ _ _ _ _ _ _ _ _ _ _ _ _ => by kernel_rfl
theorem moRun_1_7_3 : MoRun 1 9 3 := fun _ _ _ _ _ _ _ _ _ _ _ _ _ _ _ _ _ _ => by kernel_rfl
theorem moRun_1_7_4 : MoRun 1 9 4 := fun _ _ _ _ _ _ _ _ _ _ _ _ _ _ _ _ _ _ => by kernel_rfl
theorem moRun_1_7_5 : MoRun 1 9 5 := fun _ _ _ _ _ _ _ _ _ _ _ _ _ _ _ _ _ _ => by kernel_rfl
theorem moRun_1_7_6 : MoRun 1 9 6 := fun _ _ _ _ _ _ _ _ _ _ _ _ _ _ _ _ _ _ => by kernel_rfl
theorem moRun_1_7_7 : MoRun 1 9 7 := fun _ _ _ _ _ _ _ _ _ _ _ _ _ _ _ _ _ _ => by kernel_rfl
theorem moRun_1_7_8 : MoRun 1 9 8 := fun _ _ _ _ _ _ _ _ _ _ _ _ _ _ _ _ _ _ => by kernel_rfl
theorem moRun_1_8_0 : MoRun 1 10 0 := fun _ _ _ _ _ _ _ _ _ _ _ _ _ _ _ _ _ _ => by kernel_rfl
theorem moRun_1_8_1 : MoRun 1 10 1 := fun _ _ _ _ _ _ _ _ _ _ _ _ _ _ _ _ _ _ => by kernel_rfl
theorem moRun_1_8_2 : MoRun 1 10 2 := fun _ _ _ _ _ _ _ _ _ _ _ _ _ _ _ _ _ _ => by kernel_rfl
theorem moRun_1_8_3 : MoRun 1 10 3 := fun _ _ _ _ _ _ _ _ _ _ _ _ _ _ _ _ _ _ => by kernel_rfl
theorem moRun_1_8_4 : MoRun 1 10 4 := fun _ _ _ _ _ _ _ _ _ _ _ _ _ _ _ _ _ _ => by kernel_rfl
theorem moRun_1_8_5 : MoRun 1 10 5 := fun _ _ _ _ _ _ _ _ _ _ _ _ _ _ _ _ _ _ => by kernel_rfl
theorem moRun_1_8_6 : MoRun 1 10 6 := fun _ _ _ _ _ _ _ _ _ _ _ _ _ _ _ _ _ _ => by kernel_rfl
theorem moRun_1_8_7 : MoRun 1 10 7 := fun _ _ _ _ _ _ _ _ _ _ _ _ _ _ _ _ _ _ => by kernel_rfl
theorem moRun_1_8_8 : MoRun 1 10 8 := fun _ _ _ _ _ _ _ _ _ _ _ _ _ _ _ _ _ _ => by kernel_rfl
theorem mo_run1 {L w : Nat} (h1 : L ≤ 8) (h2 : w ≤ 8) : MoRun 1 (1 + 1 + L) w := by
  have hl : L = 0 ∨ L = 1 ∨ L = 2 ∨ L = 3 ∨ L = 4 ∨ L = 5 ∨ L = 6 ∨ L = 7 ∨ L = 8 := by omega
  have hw : w = 0 ∨ w = 1 ∨ w = 2 ∨ w = 3 ∨ w = 4 ∨ w = 5 ∨ w = 6 ∨ w = 7 ∨ w = 8 := by omega
  rcases hl with rfl | rfl | rfl | rfl | rfl | rfl | rfl | rfl | rfl
  · rcases hw with rfl | rfl | rfl | rfl | rfl | rfl | rfl | rfl | rfl
    · exact moRun_1_0_0
    · exact moRun_1_0_1
    · exact moRun_1_0_2
    · exact moRun_1_0_3
    · exact moRun_1_0_4
    · exact moRun_1_0_5
    · exact moRun_1_0_6
    · exact moRun_1_0_7
    · exact moRun_1_0_8
  · rcases hw with rfl | rfl | rfl | rfl | rfl | rfl | rfl | rfl | rfl
    · exact moRun_1_1_0
    · exact moRun_1_1_1
    · exact moRun_1_1_2
    · exact moRun_1_1_3
    · exact moRun_1_1_4
    · exact moRun_1_1_5
    · exact moRun_1_1_6
    · exact moRun_1_1_7
    · exact moRun_1_1_8
  · rcases hw with rfl | rfl | rfl | rfl | rfl | rfl | rfl | rfl | rfl
    · exact moRun_1_2_0
    · exact moRun_1_2_1
    · exact moRun_1_2_2
    · exact moRun_1_2_3
    · exact moRun_1_2_4
    · exact moRun_1_2_5
    · exact moRun_1_2_6
    · exact moRun_1_2_7
    · exact moRun_1_2_8
  · rcases hw with rfl | rfl | rfl | rfl | rfl | rfl | rfl | rfl | rfl
    · exact moRun_1_3_0
    · exact moRun_1_3_1
    · exact moRun_1_3_2
    · exact moRun_1_3_3
    · exact moRun_1_3_4
    · exact moRun_1_3_5
    · exact moRun_1_3_6
    · exact moRun_1_3_7
    · exact moRun_1_3_8
  · rcases hw with rfl | rfl | rfl | rfl | rfl | rfl | rfl | rfl | rfl
    · exact moRun_1_4_0
    · exact moRun_1_4_1
    · exact moRun_1_4_2
    · exact moRun_1_4_3
    · exact moRun_1_4_4
    · exact moRun_1_4_5
    · exact moRun_1_4_6
    · exact moRun_1_4_7
    · exact moRun_1_4_8
  · rcases hw with rfl | rfl | rfl | rfl | rfl | rfl | rfl | rfl | rfl
    · exact moRun_1_5_0
    · exact moRun_1_5_1
    · exact moRun_1_5_2
    · exact moRun_1_5_3
    · exact moRun_1_5_4
    · exact moRun_1_5_5
    · exact moRun_1_5_6
    · exact moRun_1_5_7
    · exact moRun_1_5_8
  · rcases hw with rfl | rfl | rfl | rfl | rfl | rfl | rfl | rfl | rfl
    · exact moRun_1_6_0
    · exact moRun_1_6_1
    · exact moRun_1_6_2
    · exact moRun_1_6_3
    · exact moRun_1_6_4
    · exact moRun_1_6_5
    · exact moRun_1_6_6
    · exact moRun_1_6_7
    · exact moRun_1_6_8
  · rcases hw with rfl | rfl | rfl | rfl | rfl | rfl | rfl | rfl | rfl
    · exact moRun_1_7_0
    · exact moRun_1_7_1
    · exact moRun_1_7_2
    · exact moRun_1_7_3
    · exact moRun_1_7_4
    · exact moRun_1_7_5
    · exact moRun_1_7_6
    · exact moRun_1_7_7
    · exact moRun_1_7_8
  · rcases hw with rfl | rfl | rfl | rfl | rfl | rfl | rfl | rfl | rfl
    · exact moRun_1_8_0
    · exact moRun_1_8_1
    · exact moRun_1_8_2
    · exact moRun_1_8_3
    · exact moRun_1_8_4
    · exact moRun_1_8_5
    · exact moRun_1_8_6
    · exact moRun_1_8_7
    · exact moRun_1_8_8

end Go.Proofs.Ytpmdpbljgidllaa
