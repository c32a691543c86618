/- NordStarts' runs, of 2 variables. -/
import Derived.Test.YtclphdmaedpipaaNdSt
namespace Go.Proofs.Ytclphdmaedpipaa
open Go
set_option linter.unusedVariables false
set_option linter.unusedSimpArgs false
set_option maxRecDepth 100000

theorem stRun_2_0 : StRun 2 0 := fun _ _ _ _ _ _ _ _ _ _ _ => by kernel_rfl
theorem stRun_2_1 : StRun 2 1 := fun _ _ _ _ _ _ _ _ _ _ _ => by kernel_rfl
theorem stRun_2_2 : StRun 2 2 := fun _ _ _ _ _ _ _ _ _ _ _ => by kernel_rfl
theorem stRun_2_3 : StRun 2 3 := fun _ _ _ _ _ _ _ _ _ _ _ => by kernel_rfl
theorem stRun_2_4 : StRun 2 4 := fun _ _ _ _ _ _ _ _ _ _ _ => by kernel_rfl
theorem stRun_2_5 : StRun 2 5 := fun _ _ _ _ _ _ _ _ _ _ _ => by kernel_rfl
theorem stRun_2_6 : StRun 2 6 := fun _ _ _ _ _ _ _ _ _ _ _ => by kernel_rfl
theorem stRun_2_7 : StRun 2 7 := fun _ _ _ _ _ _ _ _ _ _ _ => by kernel_rfl
theorem stRun_2_8 : StRun 2 8 := fun _ _ _ _ _ _ _ _ _ _ _ => by kernel_rfl
theorem stRun_2_9 : StRun 2 9 := fun _ _ _ _ _ _ _ _ _ _ _ => by kernel_rfl
theorem stRun_2_10 : StRun 2 10 := fun _ _ _ _ _ _ _ _ _ _ _ => by kernel_rfl
theorem stRun_2_11 : StRun 2 11 := fun _ _ _ _ _ _ _ _ _ _ _ => by kernel_rfl
theorem stRun_2_12 : StRun 2 12 := fun _ _ _ _ _ _ _ _ _ _ _ => by kernel_rfl
theorem stRun_2_13 : StRun 2 13 := fun _ _ _ _ _ _ _ _ _ _ _ => by kernel_rfl
theorem stRun_2_14 : StRun 2 14 := fun _ _ _ _ _ _ _ _ _ _ _ => by kernel_rfl
theorem stRun_2_15 : StRun 2 15 := fun _ _ _ _ _ _ _ _ _ _ _ => by kernel_rfl
theorem stRun_2_16 : StRun 2 16 := fun _ _ _ _ _ _ _ _ _ _ _ => by kernel_rfl
theorem stRun_2_17 : StRun 2 17 := fun _ _ _ _ _ _ _ _ _ _ _ => by kernel_rfl
theorem stRun_2_18 : StRun 2 18 := fun _ _ _ _ _ _ _ _ _ _ _ => by kernel_rfl
theorem stRun_2_19 : StRun 2 19 := fun _ _ _ _ _ _ _ _ _ _ _ => by kernel_rfl
theorem stRun_2_20 : StRun 2 20 := fun _ _ _ _ _ _ _ _ _ _ _ => by kernel_rfl
theorem stRun_2_21 : StRun 2 21 := fun _ _ _ _ _ _ _ _ _ _ _ => by kernel_rfl
theorem stRun_2_22 : StRun 2 22 := fun _ _ _ _ _ _ _ _ _ _ _ => by kernel_rfl
theorem stRun_2_23 : StRun 2 23 := fun _ _ _ _ _ _ _ _ _ _ _ => by kernel_rfl
theorem stRun_2_24 : StRun 2 24 := fun _ _ _ _ _ _ _ _ _ _ _ => by kernel_rfl
theorem stRun_2_25 : StRun 2 25 := fun _ _ _ _ _ _ _ _ _ _ _ => by kernel_rfl
theorem stRun_2_26 : StRun 2 26 := fun _ _ _ _ _ _ _ _ _ _ _ => by kernel_rfl
theorem stRun_2_27 : StRun 2 27 := fun _ _ _ _ _ _ _ _ _ _ _ => by kernel_rfl
theorem stRun_2_28 : StRun 2 28 := fun _ _ _ _ _ _ _ _ _ _ _ => by kernel_rfl
theorem stRun_2_29 : StRun 2 29 := fun _ _ _ _ _ _ _ _ _ _ _ => by kernel_rfl
theorem stRun_2_30 : StRun 2 30 := fun _ _ _ _ _ _ _ _ _ _ _ => by kernel_rfl
theorem stRun_2_31 : StRun 2 31 := fun _ _ _ _ _ _ _ _ _ _ _ => by kernel_rfl
theorem stRun_2_32 : StRun 2 32 := fun _ _ _ _ _ _ _ _ _ _ _ => by kernel_rfl
theorem st_run2 {w : Nat} (h : w ≤ 32) : StRun 2 w := by
  have hw : w = 0 ∨ w = 1 ∨ w = 2 ∨ w = 3 ∨ w = 4 ∨ w = 5 ∨ w = 6 ∨ w = 7 ∨ w = 8 ∨ w = 9 ∨ w = 10 ∨ w = 11 ∨ w = 12 ∨ w = 13 ∨ w = 14 ∨ w = 15 ∨ w = 16 ∨ w = 17 ∨ w = 18 ∨ w = 19 ∨ w = 20 ∨ w = 21 ∨ w = 22 ∨ w = 23 ∨ w = 24 ∨ w = 25 ∨ w = 26 ∨ w = 27 ∨ w = 28 ∨ w = 29 ∨ w = 30 ∨ w = 31 ∨ w = 32 := by omega
  rcases hw with rfl | rfl | rfl | rfl | rfl | rfl | rfl | rfl | rfl | rfl | rfl | rfl | rfl | rfl | rfl | rfl | rfl | rfl | rfl | rfl | rfl | rfl | rfl | rfl | rfl | rfl | rfl | rfl | rfl | rfl | rfl | rfl | rfl
  · exact stRun_2_0
  · exact stRun_2_1
  · exact stRun_2_2
  · exact stRun_2_3
  · exact stRun_2_4
  · exact stRun_2_5
  · exact stRun_2_6
  · exact stRun_2_7
  · exact stRun_2_8
  · exact stRun_2_9
  · exact stRun_2_10
  · exact stRun_2_11
  · exact stRun_2_12
  · exact stRun_2_13
  · exact stRun_2_14
  · exact stRun_2_15
  · exact stRun_2_16
  · exact stRun_2_17
  · exact stRun_2_18
  · exact stRun_2_19
  · exact stRun_2_20
  · exact stRun_2_21
  · exact stRun_2_22
  · exact stRun_2_23
  · exact stRun_2_24
  · exact stRun_2_25
  · exact stRun_2_26
  · exact stRun_2_27
  · exact stRun_2_28
  · exact stRun_2_29
  · exact stRun_2_30
  · exact stRun_2_31
  · exact stRun_2_32

end Go.Proofs.Ytclphdmaedpipaa
