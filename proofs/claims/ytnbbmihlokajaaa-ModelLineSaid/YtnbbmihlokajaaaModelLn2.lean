/- The law ModelLine: its runs, and numbers (2). -/
import Derived.Test.YtnbbmihlokajaaaModelLn
namespace Go.Proofs.Ytnbbmihlokajaaa
open Go
set_option linter.unusedVariables false
set_option linter.unusedSimpArgs false
set_option maxRecDepth 100000

theorem lnR_6_0 : LnR 6 0 := fun _ _ _ _ _ _ => by kernel_rfl
theorem lnOk_6_0 : lnOk 6 0 = true := by decide +kernel
theorem lnR_6_1 : LnR 6 1 := fun _ _ _ _ _ _ => by kernel_rfl
theorem lnOk_6_1 : lnOk 6 1 = true := by decide +kernel
theorem lnR_6_2 : LnR 6 2 := fun _ _ _ _ _ _ => by kernel_rfl
theorem lnOk_6_2 : lnOk 6 2 = true := by decide +kernel
theorem lnR_6_3 : LnR 6 3 := fun _ _ _ _ _ _ => by kernel_rfl
theorem lnOk_6_3 : lnOk 6 3 = true := by decide +kernel
theorem lnR_6_4 : LnR 6 4 := fun _ _ _ _ _ _ => by kernel_rfl
theorem lnOk_6_4 : lnOk 6 4 = true := by decide +kernel
theorem lnR_6_5 : LnR 6 5 := fun _ _ _ _ _ _ => by kernel_rfl
theorem lnOk_6_5 : lnOk 6 5 = true := by decide +kernel
theorem lnR_6_6 : LnR 6 6 := fun _ _ _ _ _ _ => by kernel_rfl
theorem lnOk_6_6 : lnOk 6 6 = true := by decide +kernel
theorem lnR_6_7 : LnR 6 7 := fun _ _ _ _ _ _ => by kernel_rfl
theorem lnOk_6_7 : lnOk 6 7 = true := by decide +kernel
theorem lnR_6_8 : LnR 6 8 := fun _ _ _ _ _ _ => by kernel_rfl
theorem lnOk_6_8 : lnOk 6 8 = true := by decide +kernel
theorem lnR_7_0 : LnR 7 0 := fun _ _ _ _ _ _ => by kernel_rfl
theorem lnOk_7_0 : lnOk 7 0 = true := by decide +kernel
theorem lnR_7_1 : LnR 7 1 := fun _ _ _ _ _ _ => by kernel_rfl
theorem lnOk_7_1 : lnOk 7 1 = true := by decide +kernel
theorem lnR_7_2 : LnR 7 2 := fun _ _ _ _ _ _ => by kernel_rfl
theorem lnOk_7_2 : lnOk 7 2 = true := by decide +kernel
theorem lnR_7_3 : LnR 7 3 := fun _ _ _ _ _ _ => by kernel_rfl
theorem lnOk_7_3 : lnOk 7 3 = true := by decide +kernel
theorem lnR_7_4 : LnR 7 4 := fun _ _ _ _ _ _ => by kernel_rfl
theorem lnOk_7_4 : lnOk 7 4 = true := by decide +kernel
theorem lnR_7_5 : LnR 7 5 := fun _ _ _ _ _ _ => by kernel_rfl
theorem lnOk_7_5 : lnOk 7 5 = true := by decide +kernel
theorem lnR_7_6 : LnR 7 6 := fun _ _ _ _ _ _ => by kernel_rfl
theorem lnOk_7_6 : lnOk 7 6 = true := by decide +kernel
theorem lnR_7_7 : LnR 7 7 := fun _ _ _ _ _ _ => by kernel_rfl
theorem lnOk_7_7 : lnOk 7 7 = true := by decide +kernel
theorem lnR_7_8 : LnR 7 8 := fun _ _ _ _ _ _ => by kernel_rfl
theorem lnOk_7_8 : lnOk 7 8 = true := by decide +kernel
theorem lnR_8_0 : LnR 8 0 := fun _ _ _ _ _ _ => by kernel_rfl
theorem lnOk_8_0 : lnOk 8 0 = true := by decide +kernel
theorem lnR_8_1 : LnR 8 1 := fun _ _ _ _ _ _ => by kernel_rfl
theorem lnOk_8_1 : lnOk 8 1 = true := by decide +kernel
theorem lnR_8_2 : LnR 8 2 := fun _ _ _ _ _ _ => by kernel_rfl
theorem lnOk_8_2 : lnOk 8 2 = true := by decide +kernel
theorem lnR_8_3 : LnR 8 3 := fun _ _ _ _ _ _ => by kernel_rfl
theorem lnOk_8_3 : lnOk 8 3 = true := by decide +kernel
theorem lnR_8_4 : LnR 8 4 := fun _ _ _ _ _ _ => by kernel_rfl
theorem lnOk_8_4 : lnOk 8 4 = true := by decide +kernel
theorem lnR_8_5 : LnR 8 5 := fun _ _ _ _ _ _ => by kernel_rfl
theorem lnOk_8_5 : lnOk 8 5 = true := by decide +kernel
theorem lnR_8_6 : LnR 8 6 := fun _ _ _ _ _ _ => by kernel_rfl
theorem lnOk_8_6 : lnOk 8 6 = true := by decide +kernel
theorem lnR_8_7 : LnR 8 7 := fun _ _ _ _ _ _ => by kernel_rfl
theorem lnOk_8_7 : lnOk 8 7 = true := by decide +kernel
theorem lnR_8_8 : LnR 8 8 := fun _ _ _ _ _ _ => by kernel_rfl
theorem lnOk_8_8 : lnOk 8 8 = true := by decide +kernel

end Go.Proofs.Ytnbbmihlokajaaa
