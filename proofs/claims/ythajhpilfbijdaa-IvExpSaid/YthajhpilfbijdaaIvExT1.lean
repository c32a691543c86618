/- IvExp: its places, part 1. -/
import Derived.Test.YthajhpilfbijdaaIvExT
namespace Go.Proofs.Ythajhpilfbijdaa
open Go
set_option linter.unusedVariables false
set_option linter.unusedSimpArgs false
set_option maxRecDepth 100000

theorem chk_115 : allR chkE 115 23 = true := by decide +kernel
theorem chk_138 : allR chkE 138 23 = true := by decide +kernel
theorem chk_161 : allR chkE 161 23 = true := by decide +kernel
theorem chk_184 : allR chkE 184 23 = true := by decide +kernel
theorem chk_207 : allR chkE 207 23 = true := by decide +kernel
theorem chkA_1 (k : Nat) (h1 : 115 ≤ k) (h2 : k < 230) : chkE k = true := by
  by_cases c0 : k < 138
  · obtain ⟨i, rfl⟩ : ∃ i, k = 115 + i := ⟨k - 115, by omega⟩
    exact allR_at chk_115 (by omega)
  by_cases c23 : k < 161
  · obtain ⟨i, rfl⟩ : ∃ i, k = 138 + i := ⟨k - 138, by omega⟩
    exact allR_at chk_138 (by omega)
  by_cases c46 : k < 184
  · obtain ⟨i, rfl⟩ : ∃ i, k = 161 + i := ⟨k - 161, by omega⟩
    exact allR_at chk_161 (by omega)
  by_cases c69 : k < 207
  · obtain ⟨i, rfl⟩ : ∃ i, k = 184 + i := ⟨k - 184, by omega⟩
    exact allR_at chk_184 (by omega)
  by_cases c92 : k < 230
  · obtain ⟨i, rfl⟩ : ∃ i, k = 207 + i := ⟨k - 207, by omega⟩
    exact allR_at chk_207 (by omega)
  omega

end Go.Proofs.Ythajhpilfbijdaa
