/- IvExp: its places, part 2. -/
import Derived.Test.YthajhpilfbijdaaIvExT
namespace Go.Proofs.Ythajhpilfbijdaa
open Go
set_option linter.unusedVariables false
set_option linter.unusedSimpArgs false
set_option maxRecDepth 100000

theorem chk_230 : allR chkE 230 23 = true := by decide +kernel
theorem chk_253 : allR chkE 253 23 = true := by decide +kernel
theorem chk_276 : allR chkE 276 23 = true := by decide +kernel
theorem chk_299 : allR chkE 299 23 = true := by decide +kernel
theorem chk_322 : allR chkE 322 23 = true := by decide +kernel
theorem chkA_2 (k : Nat) (h1 : 230 ≤ k) (h2 : k < 345) : chkE k = true := by
  by_cases c0 : k < 253
  · obtain ⟨i, rfl⟩ : ∃ i, k = 230 + i := ⟨k - 230, by omega⟩
    exact allR_at chk_230 (by omega)
  by_cases c23 : k < 276
  · obtain ⟨i, rfl⟩ : ∃ i, k = 253 + i := ⟨k - 253, by omega⟩
    exact allR_at chk_253 (by omega)
  by_cases c46 : k < 299
  · obtain ⟨i, rfl⟩ : ∃ i, k = 276 + i := ⟨k - 276, by omega⟩
    exact allR_at chk_276 (by omega)
  by_cases c69 : k < 322
  · obtain ⟨i, rfl⟩ : ∃ i, k = 299 + i := ⟨k - 299, by omega⟩
    exact allR_at chk_299 (by omega)
  by_cases c92 : k < 345
  · obtain ⟨i, rfl⟩ : ∃ i, k = 322 + i := ⟨k - 322, by omega⟩
    exact allR_at chk_322 (by omega)
  omega

end Go.Proofs.Ythajhpilfbijdaa
