/- NordStarts' runs, of 1 variables. -/
import Derived.Test.YtclphdmaedpipaaNdSt
namespace Go.Proofs.Ytclphdmaedpipaa
open Go
set_option linter.unusedVariables false
set_option linter.unusedSimpArgs false
set_option maxRecDepth 100000

theorem stRun_1_0 : StRun 1 0 := fun _ _ _ _ _ _ _ _ _ _ _ => by kernel_rfl
theorem stRun_1_1 : StRun 1 1 := fun _ _ _ _ _ _ _ _ _ _ _ => by kernel_rfl
theorem stRun_1_2 : StRun 1 2 := fun _ _ _ _ _ _ _ _ _ _ _ => by kernel_rfl
theorem stRun_1_3 : StRun 1 3 := fun _ _ _ _ _ _ _ _ _ _ _ => by kernel_rfl
theorem stRun_1_4 : StRun 1 4 := fun _ _ _ _ _ _ _ _ _ _ _ => by kernel_rfl
theorem stRun_1_5 : StRun 1 5 := fun _ _ _ _ _ _ _ _ _ _ _ => by kernel_rfl
theorem stRun_1_6 : StRun 1 6 := fun _ _ _ _ _ _ _ _ _ _ _ => by kernel_rfl
theorem stRun_1_7 : StRun 1 7 := fun _ _ _ _ _ _ _ _ _ _ _ => by kernel_rfl
theorem stRun_1_8 : StRun 1 8 := fun _ _ _ _ _ _ _ _ _ _ _ => by kernel_rfl
theorem stRun_1_9 : StRun 1 9 := fun _ _ _ _ _ _ _ _ _ _ _ => by kernel_rfl
theorem stRun_1_10 : StRun 1 10 := fun _ _ _ _ _ _ _ _ _ _ _ => by kernel_rfl
theorem stRun_1_11 : StRun 1 11 := fun _ _ _ _ _ _ _ _ _ _ _ => by kernel_rfl
theorem stRun_1_12 : StRun 1 12 := fun _ _ _ _ _ _ _ _ _ _ _ => by kernel_rfl
theorem stRun_1_13 : StRun 1 13 := fun _ _ _ _ _ _ _ _ _ _ _ => by kernel_rfl
theorem stRun_1_14 : StRun 1 14 := fun _ _ _ _ _ _ _ _ _ _ _ => by kernel_rfl
theorem stRun_1_15 : StRun 1 15 := fun _ _ _ _ _ _ _ _ _ _ _ => by kernel_rfl
theorem stRun_1_16 : StRun 1 16 := fun _ _ _ _ _ _ _ _ _ _ _ => by kernel_rfl
theorem stRun_1_17 : StRun 1 17 := fun _ _ _ _ _ _ _ _ _ _ _ => by kernel_rfl
theorem stRun_1_18 : StRun 1 18 := fun _ _ _ _ _ _ _ _ _ _ _ => by kernel_rfl
theorem stRun_1_19 : StRun 1 19 := fun _ _ _ _ _ _ _ _ _ _ _ => by kernel_rfl
theorem stRun_1_20 : StRun 1 20 := fun _ _ _ _ _ _ _ _ _ _ _ => by kernel_rfl
theorem stRun_1_21 : StRun 1 21 := fun _ _ _ _ _ _ _ _ _ _ _ => by kernel_rfl
theorem stRun_1_22 : StRun 1 22 := fun _ _ _ _ _ _ _ _ _ _ _ => by kernel_rfl
theorem stRun_1_23 : StRun 1 23 := fun _ _ _ _ _ _ _ _ _ _ _ => by kernel_rfl
theorem stRun_1_24 : StRun 1 24 := fun _ _ _ _ _ _ _ _ _ _ _ => by kernel_rfl
theorem stRun_1_25 : StRun 1 25 := fun _ _ _ _ _ _ _ _ _ _ _ => by kernel_rfl
theorem stRun_1_26 : StRun 1 26 := fun _ _ _ _ _ _ _ _ _ _ _ => by kernel_rfl
theorem stRun_1_27 : StRun 1 27 := fun _ _ _ _ _ _ _ _ _ _ _ => by kernel_rfl
theorem stRun_1_28 : StRun 1 28 := fun _ _ _ _ _ _ _ _ _ _ _ => by kernel_rfl
theorem stRun_1_29 : StRun 1 29 := fun _ _ _ _ _ _ _ _ _ _ _ => by kernel_rfl
theorem stRun_1_30 : StRun 1 30 := fun _ _ _ _ _ _ _ _ _ _ _ => by kernel_rfl
theorem stRun_1_31 : StRun 1 31 := fun _ _ _ _ _ _ _ _ _ _ _ => by kernel_rfl
theorem stRun_1_32 : StRun 1 32 := fun _ _ _ _ _ _ _ _ _ _ _ => by kernel_rfl
theorem st_run1 {w : Nat} (h : w ≤ 32) : StRun 1 w := by
  have hw : w = 0 ∨ w = 1 ∨ w = 2 ∨ w = 3 ∨ w = 4 ∨ w = 5 ∨ w = 6 ∨ w = 7 ∨ w = 8 ∨ w = 9 ∨ w = 10 ∨ w = 11 ∨ w = 12 ∨ w = 13 ∨ w = 14 ∨ w = 15 ∨ w = 16 ∨ w = 17 ∨ w = 18 ∨ w = 19 ∨ w = 20 ∨ w = 21 ∨ w = 22 ∨ w = 23 ∨ w = 24 ∨ w = 25 ∨ w = 26 ∨ w = 27 ∨ w = 28 ∨ w = 29 ∨ w = 30 ∨ w = 31 ∨ w = 32 := by omega
  rcases hw with rfl | rfl | rfl | rfl | rfl | rfl | rfl | rfl | rfl | rfl | rfl | rfl | rfl | rfl | rfl | rfl | rfl | rfl | rfl | rfl | rfl | rfl | rfl | rfl | rfl | rfl | rfl | rfl | rfl | rfl | rfl | rfl | rfl
  · exact stRun_1_0
  · exact stRun_1_1
  · exact stRun_1_2
  · exact stRun_1_3
  · exact stRun_1_4
  · exact stRun_1_5
  · exact stRun_1_6
  · exact stRun_1_7
  · exact stRun_1_8
  · exact stRun_1_9
  · exact stRun_1_10
  · exact stRun_1_11
  · exact stRun_1_12
  · exact stRun_1_13
  · exact stRun_1_14
  · exact stRun_1_15
  · exact stRun_1_16
  · exact stRun_1_17
  · exact stRun_1_18
  · exact stRun_1_19
  · exact stRun_1_20
  · exact stRun_1_21
  · exact stRun_1_22
  · exact stRun_1_23
  · exact stRun_1_24
  · exact stRun_1_25
  · exact stRun_1_26
  · exact stRun_1_27
  · exact stRun_1_28
  · exact stRun_1_29
  · exact stRun_1_30
  · exact stRun_1_31
  · exact stRun_1_32

end Go.Proofs.Ytclphdmaedpipaa
