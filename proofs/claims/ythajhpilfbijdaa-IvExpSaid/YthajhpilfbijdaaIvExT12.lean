/- IvExp: its places, part 12. -/
import Derived.Test.YthajhpilfbijdaaIvExT
namespace Go.Proofs.Ythajhpilfbijdaa
open Go
set_option linter.unusedVariables false
set_option linter.unusedSimpArgs false
set_option maxRecDepth 100000

theorem chk_1380 : allR chkE 1380 23 = true := by decide +kernel
theorem chk_1403 : allR chkE 1403 23 = true := by decide +kernel
theorem chk_1426 : allR chkE 1426 23 = true := by decide +kernel
theorem chk_1449 : allR chkE 1449 23 = true := by decide +kernel
theorem chk_1472 : allR chkE 1472 23 = true := by decide +kernel
theorem chkA_12 (k : Nat) (h1 : 1380 ≤ k) (h2 : k < 1495) : chkE k = true := by
  by_cases c0 : k < 1403
  · obtain ⟨i, rfl⟩ : ∃ i, k = 1380 + i := ⟨k - 1380, by omega⟩
    exact allR_at chk_1380 (by omega)
  by_cases c23 : k < 1426
  · obtain ⟨i, rfl⟩ : ∃ i, k = 1403 + i := ⟨k - 1403, by omega⟩
    exact allR_at chk_1403 (by omega)
  by_cases c46 : k < 1449
  · obtain ⟨i, rfl⟩ : ∃ i, k = 1426 + i := ⟨k - 1426, by omega⟩
    exact allR_at chk_1426 (by omega)
  by_cases c69 : k < 1472
  · obtain ⟨i, rfl⟩ : ∃ i, k = 1449 + i := ⟨k - 1449, by omega⟩
    exact allR_at chk_1449 (by omega)
  by_cases c92 : k < 1495
  · obtain ⟨i, rfl⟩ : ∃ i, k = 1472 + i := ⟨k - 1472, by omega⟩
    exact allR_at chk_1472 (by omega)
  omega

end Go.Proofs.Ythajhpilfbijdaa
