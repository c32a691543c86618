/- IvExp: its places, part 11. -/
import Derived.Test.YthajhpilfbijdaaIvExT
namespace Go.Proofs.Ythajhpilfbijdaa
open Go
set_option linter.unusedVariables false
set_option linter.unusedSimpArgs false
set_option maxRecDepth 100000

theorem chk_1265 : allR chkE 1265 23 = true := by decide +kernel
theorem chk_1288 : allR chkE 1288 23 = true := by decide +kernel
theorem chk_1311 : allR chkE 1311 23 = true := by decide +kernel
theorem chk_1334 : allR chkE 1334 23 = true := by decide +kernel
theorem chk_1357 : allR chkE 1357 23 = true := by decide +kernel
theorem chkA_11 (k : Nat) (h1 : 1265 ≤ k) (h2 : k < 1380) : chkE k = true := by
  by_cases c0 : k < 1288
  · obtain ⟨i, rfl⟩ : ∃ i, k = 1265 + i := ⟨k - 1265, by omega⟩
    exact allR_at chk_1265 (by omega)
  by_cases c23 : k < 1311
  · obtain ⟨i, rfl⟩ : ∃ i, k = 1288 + i := ⟨k - 1288, by omega⟩
    exact allR_at chk_1288 (by omega)
  by_cases c46 : k < 1334
  · obtain ⟨i, rfl⟩ : ∃ i, k = 1311 + i := ⟨k - 1311, by omega⟩
    exact allR_at chk_1311 (by omega)
  by_cases c69 : k < 1357
  · obtain ⟨i, rfl⟩ : ∃ i, k = 1334 + i := ⟨k - 1334, by omega⟩
    exact allR_at chk_1334 (by omega)
  by_cases c92 : k < 1380
  · obtain ⟨i, rfl⟩ : ∃ i, k = 1357 + i := ⟨k - 1357, by omega⟩
    exact allR_at chk_1357 (by omega)
  omega

end Go.Proofs.Ythajhpilfbijdaa
