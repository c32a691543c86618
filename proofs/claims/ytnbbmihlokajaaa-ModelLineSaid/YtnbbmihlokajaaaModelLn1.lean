/- The law ModelLine: its runs, and numbers (1). -/
import Derived.Test.YtnbbmihlokajaaaModelLn
namespace Go.Proofs.Ytnbbmihlokajaaa
open Go
set_option linter.unusedVariables false
set_option linter.unusedSimpArgs false
set_option maxRecDepth 100000

theorem lnR_3_0 : LnR 3 0 := fun _ _ _ _ _ _ => by kernel_rfl
theorem lnOk_3_0 : lnOk 3 0 = true := by decide +kernel
theorem lnR_3_1 : LnR 3 1 := fun _ _ _ _ _ _ => by kernel_rfl
theorem lnOk_3_1 : lnOk 3 1 = true := by decide +kernel
theorem lnR_3_2 : LnR 3 2 := fun _ _ _ _ _ _ => by kernel_rfl
theorem lnOk_3_2 : lnOk 3 2 = true := by decide +kernel
theorem lnR_3_3 : LnR 3 3 := fun _ _ _ _ _ _ => by kernel_rfl
theorem lnOk_3_3 : lnOk 3 3 = true := by decide +kernel
theorem lnR_3_4 : LnR 3 4 := fun _ _ _ _ _ _ => by kernel_rfl
theorem lnOk_3_4 : lnOk 3 4 = true := by decide +kernel
theorem lnR_3_5 : LnR 3 5 := fun _ _ _ _ _ _ => by kernel_rfl
theorem lnOk_3_5 : lnOk 3 5 = true := by decide +kernel
theorem lnR_3_6 : LnR 3 6 := fun _ _ _ _ _ _ => by kernel_rfl
theorem lnOk_3_6 : lnOk 3 6 = true := by decide +kernel
theorem lnR_3_7 : LnR 3 7 := fun _ _ _ _ _ _ => by kernel_rfl
theorem lnOk_3_7 : lnOk 3 7 = true := by decide +kernel
theorem lnR_3_8 : LnR 3 8 := fun _ _ _ _ _ _ => by kernel_rfl
theorem lnOk_3_8 : lnOk 3 8 = true := by decide +kernel
theorem lnR_4_0 : LnR 4 0 := fun _ _ _ _ _ _ => by kernel_rfl
theorem lnOk_4_0 : lnOk 4 0 = true := by decide +kernel
theorem lnR_4_1 : LnR 4 1 := fun _ _ _ _ _ _ => by kernel_rfl
theorem lnOk_4_1 : lnOk 4 1 = true := by decide +kernel
theorem lnR_4_2 : LnR 4 2 := fun _ _ _ _ _ _ => by kernel_rfl
theorem lnOk_4_2 : lnOk 4 2 = true := by decide +kernel
theorem lnR_4_3 : LnR 4 3 := fun _ _ _ _ _ _ => by kernel_rfl
theorem lnOk_4_3 : lnOk 4 3 = true := by decide +kernel
theorem lnR_4_4 : LnR 4 4 := fun _ _ _ _ _ _ => by kernel_rfl
theorem lnOk_4_4 : lnOk 4 4 = true := by decide +kernel
theorem lnR_4_5 : LnR 4 5 := fun _ _ _ _ _ _ => by kernel_rfl
theorem lnOk_4_5 : lnOk 4 5 = true := by decide +kernel
theorem lnR_4_6 : LnR 4 6 := fun _ _ _ _ _ _ => by kernel_rfl
theorem lnOk_4_6 : lnOk 4 6 = true := by decide +kernel
theorem lnR_4_7 : LnR 4 7 := fun _ _ _ _ _ _ => by kernel_rfl
theorem lnOk_4_7 : lnOk 4 7 = true := by decide +kernel
theorem lnR_4_8 : LnR 4 8 := fun _ _ _ _ _ _ => by kernel_rfl
theorem lnOk_4_8 : lnOk 4 8 = true := by decide +kernel
theorem lnR_5_0 : LnR 5 0 := fun _ _ _ _ _ _ => by kernel_rfl
theorem lnOk_5_0 : lnOk 5 0 = true := by decide +kernel
theorem lnR_5_1 : LnR 5 1 := fun _ _ _ _ _ _ => by kernel_rfl
theorem lnOk_5_1 : lnOk 5 1 = true := by decide +kernel
theorem lnR_5_2 : LnR 5 2 := fun _ _ _ _ _ _ => by kernel_rfl
theorem lnOk_5_2 : lnOk 5 2 = true := by decide +kernel
theorem lnR_5_3 : LnR 5 3 := fun _ _ _ _ _ _ => by kernel_rfl
theorem lnOk_5_3 : lnOk 5 3 = true := by decide +kernel
theorem lnR_5_4 : LnR 5 4 := fun _ _ _ _ _ _ => by kernel_rfl
theorem lnOk_5_4 : lnOk 5 4 = true := by decide +kernel
theorem lnR_5_5 : LnR 5 5 := fun _ _ _ _ _ _ => by kernel_rfl
theorem lnOk_5_5 : lnOk 5 5 = true := by decide +kernel
theorem lnR_5_6 : LnR 5 6 := fun _ _ _ _ _ _ => by kernel_rfl
theorem lnOk_5_6 : lnOk 5 6 = true := by decide +kernel
theorem lnR_5_7 : LnR 5 7 := fun _ _ _ _ _ _ => by kernel_rfl
theorem lnOk_5_7 : lnOk 5 7 = true := by decide +kernel
theorem lnR_5_8 : LnR 5 8 := fun _ _ _ _ _ _ => by kernel_rfl
theorem lnOk_5_8 : lnOk 5 8 = true := by decide +kernel

end Go.Proofs.Ytnbbmihlokajaaa
