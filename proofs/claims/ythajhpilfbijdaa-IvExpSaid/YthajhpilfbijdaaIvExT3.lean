/- IvExp: its places, part 3. -/
import Derived.Test.YthajhpilfbijdaaIvExT
namespace Go.Proofs.Ythajhpilfbijdaa
open Go
set_option linter.unusedVariables false
set_option linter.unusedSimpArgs false
set_option maxRecDepth 100000

theorem chk_345 : allR chkE 345 23 = true := by decide +kernel
theorem chk_368 : allR chkE 368 23 = true := by decide +kernel
theorem chk_391 : allR chkE 391 23 = true := by decide +kernel
theorem chk_414 : allR chkE 414 23 = true := by decide +kernel
theorem chk_437 : allR chkE 437 23 = true := by decide +kernel
theorem chkA_3 (k : Nat) (h1 : 345 ≤ k) (h2 : k < 460) : chkE k = true := by
  by_cases c0 : k < 368
  · obtain ⟨i, rfl⟩ : ∃ i, k = 345 + i := ⟨k - 345, by omega⟩
    exact allR_at chk_345 (by omega)
  by_cases c23 : k < 391
  · obtain ⟨i, rfl⟩ : ∃ i, k = 368 + i := ⟨k - 368, by omega⟩
    exact allR_at chk_368 (by omega)
  by_cases c46 : k < 414
  · obtain ⟨i, rfl⟩ : ∃ i, k = 391 + i := ⟨k - 391, by omega⟩
    exact allR_at chk_391 (by omega)
  by_cases c69 : k < 437
  · obtain ⟨i, rfl⟩ : ∃ i, k = 414 + i := ⟨k - 414, by omega⟩
    exact allR_at chk_414 (by omega)
  by_cases c92 : k < 460
  · obtain ⟨i, rfl⟩ : ∃ i, k = 437 + i := ⟨k - 437, by omega⟩
    exact allR_at chk_437 (by omega)
  omega

end Go.Proofs.Ythajhpilfbijdaa
