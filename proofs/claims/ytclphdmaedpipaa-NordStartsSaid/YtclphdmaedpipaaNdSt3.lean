/- NordStarts' runs, of 3 variables. -/
import Derived.Test.YtclphdmaedpipaaNdSt
namespace Go.Proofs.Ytclphdmaedpipaa
open Go
set_option linter.unusedVariables false
set_option linter.unusedSimpArgs false
set_option maxRecDepth 100000

theorem stRun_3_0 : StRun 3 0 := fun _ _ _ _ _ _ _ _ _ _ _ => by kernel_rfl
theorem stRun_3_1 : StRun 3 1 := fun _ _ _ _ _ _ _ _ _ _ _ => by kernel_rfl
theorem stRun_3_2 : StRun 3 2 := fun _ _ _ _ _ _ _ _ _ _ _ => by kernel_rfl
theorem stRun_3_3 : StRun 3 3 := fun _ _ _ _ _ _ _ _ _ _ _ => by kernel_rfl
theorem stRun_3_4 : StRun 3 4 := fun _ _ _ _ _ _ _ _ _ _ _ => by kernel_rfl
theorem stRun_3_5 : StRun 3 5 := fun _ _ _ _ _ _ _ _ _ _ _ => by kernel_rfl
theorem stRun_3_6 : StRun 3 6 := fun _ _ _ _ _ _ _ _ _ _ _ => by kernel_rfl
theorem stRun_3_7 : StRun 3 7 := fun _ _ _ _ _ _ _ _ _ _ _ => by kernel_rfl
theorem stRun_3_8 : StRun 3 8 := fun _ _ _ _ _ _ _ _ _ _ _ => by kernel_rfl
theorem stRun_3_9 : StRun 3 9 := fun _ _ _ _ _ _ _ _ _ _ _ => by kernel_rfl
theorem stRun_3_10 : StRun 3 10 := fun _ _ _ _ _ _ _ _ _ _ _ => by kernel_rfl
theorem stRun_3_11 : StRun 3 11 := fun _ _ _ _ _ _ _ _ _ _ _ => by kernel_rfl
theorem stRun_3_12 : StRun 3 12 := fun _ _ _ _ _ _ _ _ _ _ _ => by kernel_rfl
theorem stRun_3_13 : StRun 3 13 := fun _ _ _ _ _ _ _ _ _ _ _ => by kernel_rfl
theorem stRun_3_14 : StRun 3 14 := fun _ _ _ _ _ _ _ _ _ _ _ => by kernel_rfl
theorem stRun_3_15 : StRun 3 15 := fun _ _ _ _ _ _ _ _ _ _ _ => by kernel_rfl
theorem stRun_3_16 : StRun 3 16 := fun _ _ _ _ _ _ _ _ _ _ _ => by kernel_rfl
theorem stRun_3_17 : StRun 3 17 := fun _ _ _ _ _ _ _ _ _ _ _ => by kernel_rfl
theorem stRun_3_18 : StRun 3 18 := fun _ _ _ _ _ _ _ _ _ _ _ => by kernel_rfl
theorem stRun_3_19 : StRun 3 19 := fun _ _ _ _ _ _ _ _ _ _ _ => by kernel_rfl
theorem stRun_3_20 : StRun 3 20 := fun _ _ _ _ _ _ _ _ _ _ _ => by kernel_rfl
theorem stRun_3_21 : StRun 3 21 := fun _ _ _ _ _ _ _ _ _ _ _ => by kernel_rfl
theorem stRun_3_22 : StRun 3 22 := fun _ _ _ _ _ _ _ _ _ _ _ => by kernel_rfl
theorem stRun_3_23 : StRun 3 23 := fun _ _ _ _ _ _ _ _ _ _ _ => by kernel_rfl
theorem stRun_3_24 : StRun 3 24 := fun _ _ _ _ _ _ _ _ _ _ _ => by kernel_rfl
theorem stRun_3_25 : StRun 3 25 := fun _ _ _ _ _ _ _ _ _ _ _ => by kernel_rfl
theorem stRun_3_26 : StRun 3 26 := fun _ _ _ _ _ _ _ _ _ _ _ => by kernel_rfl
theorem stRun_3_27 : StRun 3 27 := fun _ _ _ _ _ _ _ _ _ _ _ => by kernel_rfl
theorem stRun_3_28 : StRun 3 28 := fun _ _ _ _ _ _ _ _ _ _ _ => by kernel_rfl
theorem stRun_3_29 : StRun 3 29 := fun _ _ _ _ _ _ _ _ _ _ _ => by kernel_rfl
theorem stRun_3_30 : StRun 3 30 := fun _ _ _ _ _ _ _ _ _ _ _ => by kernel_rfl
theorem stRun_3_31 : StRun 3 31 := fun _ _ _ _ _ _ _ _ _ _ _ => by kernel_rfl
theorem stRun_3_32 : StRun 3 32 := fun _ _ _ _ _ _ _ _ _ _ _ => by kernel_rfl
theorem st_run3 {w : Nat} (h : w ≤ 32) : StRun 3 w := by
  have hw : w = 0 ∨ w = 1 ∨ w = 2 ∨ w = 3 ∨ w = 4 ∨ w = 5 ∨ w = 6 ∨ w = 7 ∨ w = 8 ∨ w = 9 ∨ w = 10 ∨ w = 11 ∨ w = 12 ∨ w = 13 ∨ w = 14 ∨ w = 15 ∨ w = 16 ∨ w = 17 ∨ w = 18 ∨ w = 19 ∨ w = 20 ∨ w = 21 ∨ w = 22 ∨ w = 23 ∨ w = 24 ∨ w = 25 ∨ w = 26 ∨ w = 27 ∨ w = 28 ∨ w = 29 ∨ w = 30 ∨ w = 31 ∨ w = 32 := by omega
  rcases hw with rfl | rfl | rfl | rfl | rfl | rfl | rfl | rfl | rfl | rfl | rfl | rfl | rfl | rfl | rfl | rfl | rfl | rfl | rfl | rfl | rfl | rfl | rfl | rfl | rfl | rfl | rfl | rfl | rfl | rfl | rfl | rfl | rfl
  · exact stRun_3_0
  · exact stRun_3_1
  · exact stRun_3_2
  · exact stRun_3_3
  · exact stRun_3_4
  · exact stRun_3_5
  · exact stRun_3_6
  · exact stRun_3_7
  · exact stRun_3_8
  · exact stRun_3_9
  · exact stRun_3_10
  · exact stRun_3_11
  · exact stRun_3_12
  · exact stRun_3_13
  · exact stRun_3_14
  · exact stRun_3_15
  · exact stRun_3_16
  · exact stRun_3_17
  · exact stRun_3_18
  · exact stRun_3_19
  · exact stRun_3_20
  · exact stRun_3_21
  · exact stRun_3_22
  · exact stRun_3_23
  · exact stRun_3_24
  · exact stRun_3_25
  · exact stRun_3_26
  · exact stRun_3_27
  · exact stRun_3_28
  · exact stRun_3_29
  · exact stRun_3_30
  · exact stRun_3_31
  · exact stRun_3_32

end Go.Proofs.Ytclphdmaedpipaa
