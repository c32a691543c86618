/- IvExp: its places, part 0. -/
import Derived.Test.YthajhpilfbijdaaIvExT
namespace Go.Proofs.Ythajhpilfbijdaa
open Go
set_option linter.unusedVariables false
set_option linter.unusedSimpArgs false
set_option maxRecDepth 100000

theorem chk_0 : allR chkE 0 23 = true := by decide +kernel
theorem chk_23 : allR chkE 23 23 = true := by decide +kernel
theorem chk_46 : allR chkE 46 23 = true := by decide +kernel
theorem chk_69 : allR chkE 69 23 = true := by decide +kernel
theorem chk_92 : allR chkE 92 23 = true := by decide +kernel
theorem chkA_0 (k : Nat) (h1 : 0 ≤ k) (h2 : k < 115) : chkE k = true := by
  by_cases c0 : k < 23
  · obtain ⟨i, rfl⟩ : ∃ i, k = 0 + i := ⟨k - 0, by omega⟩
    exact allR_at chk_0 (by omega)
  by_cases c23 : k < 46
  · obtain ⟨i, rfl⟩ : ∃ i, k = 23 + i := ⟨k - 23, by omega⟩
    exact allR_at chk_23 (by omega)
  by_cases c46 : k < 69
  · obtain ⟨i, rfl⟩ : ∃ i, k = 46 + i := ⟨k - 46, by omega⟩
    exact allR_at chk_46 (by omega)
  by_cases c69 : k < 92
  · obtain ⟨i, rfl⟩ : ∃ i, k = 69 + i := ⟨k - 69, by omega⟩
    exact allR_at chk_69 (by omega)
  by_cases c92 : k < 115
  · obtain ⟨i, rfl⟩ : ∃ i, k = 92 + i := ⟨k - 92, by omega⟩
    exact allR_at chk_92 (by omega)
  omega

end Go.Proofs.Ythajhpilfbijdaa
