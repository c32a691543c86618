/- The law ModelLine: its runs, and numbers (0). -/
import Derived.Test.YtnbbmihlokajaaaModelLn
namespace Go.Proofs.Ytnbbmihlokajaaa
open Go
set_option linter.unusedVariables false
set_option linter.unusedSimpArgs false
set_option maxRecDepth 100000

theorem lnR_0_0 : LnR 0 0 := fun _ _ _ _ _ _ => by kernel_rfl
theorem lnOk_0_0 : lnOk 0 0 = true := by decide +kernel
theorem lnR_0_1 : LnR 0 1 := fun _ _ _ _ _ _ => by kernel_rfl
theorem lnOk_0_1 : lnOk 0 1 = true := by decide +kernel
theorem lnR_0_2 : LnR 0 2 := fun _ _ _ _ _ _ => by kernel_rfl
theorem lnOk_0_2 : lnOk 0 2 = true := by decide +kernel
theorem lnR_0_3 : LnR 0 3 := fun _ _ _ _ _ _ => by kernel_rfl
theorem lnOk_0_3 : lnOk 0 3 = true := by decide +kernel
theorem lnR_0_4 : LnR 0 4 := fun _ _ _ _ _ _ => by kernel_rfl
theorem lnOk_0_4 : lnOk 0 4 = true := by decide +kernel
theorem lnR_0_5 : LnR 0 5 := fun _ _ _ _ _ _ => by kernel_rfl
theorem lnOk_0_5 : lnOk 0 5 = true := by decide +kernel
theorem lnR_0_6 : LnR 0 6 := fun _ _ _ _ _ _ => by kernel_rfl
theorem lnOk_0_6 : lnOk 0 6 = true := by decide +kernel
theorem lnR_0_7 : LnR 0 7 := fun _ _ _ _ _ _ => by kernel_rfl
theorem lnOk_0_7 : lnOk 0 7 = true := by decide +kernel
theorem lnR_0_8 : LnR 0 8 := fun _ _ _ _ _ _ => by kernel_rfl
theorem lnOk_0_8 : lnOk 0 8 = true := by decide +kernel
theorem lnR_1_0 : LnR 1 0 := fun _ _ _ _ _ _ => by kernel_rfl
theorem lnOk_1_0 : lnOk 1 0 = true := by decide +kernel
theorem lnR_1_1 : LnR 1 1 := fun _ _ _ _ _ _ => by kernel_rfl
theorem lnOk_1_1 : lnOk 1 1 = true := by decide +kernel
theorem lnR_1_2 : LnR 1 2 := fun _ _ _ _ _ _ => by kernel_rfl
theorem lnOk_1_2 : lnOk 1 2 = true := by decide +kernel
theorem lnR_1_3 : LnR 1 3 := fun _ _ _ _ _ _ => by kernel_rfl
theorem lnOk_1_3 : lnOk 1 3 = true := by decide +kernel
theorem lnR_1_4 : LnR 1 4 := fun _ _ _ _ _ _ => by kernel_rfl
theorem lnOk_1_4 : lnOk 1 4 = true := by decide +kernel
theorem lnR_1_5 : LnR 1 5 := fun _ _ _ _ _ _ => by kernel_rfl
theorem lnOk_1_5 : lnOk 1 5 = true := by decide +kernel
theorem lnR_1_6 : LnR 1 6 := fun _ _ _ _ _ _ => by kernel_rfl
theorem lnOk_1_6 : lnOk 1 6 = true := by decide +kernel
theorem lnR_1_7 : LnR 1 7 := fun _ _ _ _ _ _ => by kernel_rfl
theorem lnOk_1_7 : lnOk 1 7 = true := by decide +kernel
theorem lnR_1_8 : LnR 1 8 := fun _ _ _ _ _ _ => by kernel_rfl
theorem lnOk_1_8 : lnOk 1 8 = true := by decide +kernel
theorem lnR_2_0 : LnR 2 0 := fun _ _ _ _ _ _ => by kernel_rfl
theorem lnOk_2_0 : lnOk 2 0 = true := by decide +kernel
theorem lnR_2_1 : LnR 2 1 := fun _ _ _ _ _ _ => by kernel_rfl
theorem lnOk_2_1 : lnOk 2 1 = true := by decide +kernel
theorem lnR_2_2 : LnR 2 2 := fun _ _ _ _ _ _ => by kernel_rfl
theorem lnOk_2_2 : lnOk 2 2 = true := by decide +kernel
theorem lnR_2_3 : LnR 2 3 := fun _ _ _ _ _ _ => by kernel_rfl
theorem lnOk_2_3 : lnOk 2 3 = true := by decide +kernel
theorem lnR_2_4 : LnR 2 4 := fun _ _ _ _ _ _ => by kernel_rfl
theorem lnOk_2_4 : lnOk 2 4 = true := by decide +kernel
theorem lnR_2_5 : LnR 2 5 := fun _ _ _ _ _ _ => by kernel_rfl
theorem lnOk_2_5 : lnOk 2 5 = true := by decide +kernel
theorem lnR_2_6 : LnR 2 6 := fun _ _ _ _ _ _ => by kernel_rfl
theorem lnOk_2_6 : lnOk 2 6 = true := by decide +kernel
theorem lnR_2_7 : LnR 2 7 := fun _ _ _ _ _ _ => by kernel_rfl
theorem lnOk_2_7 : lnOk 2 7 = true := by decide +kernel
theorem lnR_2_8 : LnR 2 8 := fun _ _ _ _ _ _ => by kernel_rfl
theorem lnOk_2_8 : lnOk 2 8 = true := by decide +kernel

end Go.Proofs.Ytnbbmihlokajaaa
