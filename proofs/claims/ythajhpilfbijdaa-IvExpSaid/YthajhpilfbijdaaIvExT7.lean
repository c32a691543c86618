/- IvExp: its places, part 7. -/
import Derived.Test.YthajhpilfbijdaaIvExT
namespace Go.Proofs.Ythajhpilfbijdaa
open Go
set_option linter.unusedVariables false
set_option linter.unusedSimpArgs false
set_option maxRecDepth 100000

theorem chk_805 : allR chkE 805 23 = true := by decide +kernel
theorem chk_828 : allR chkE 828 23 = true := by decide +kernel
theorem chk_851 : allR chkE 851 23 = true := by decide +kernel
theorem chk_874 : allR chkE 874 23 = true := by decide +kernel
theorem chk_897 : allR chkE 897 23 = true := by decide +kernel
theorem chkA_7 (k : Nat) (h1 : 805 ≤ k) (h2 : k < 920) : chkE k = true := by
  by_cases c0 : k < 828
  · obtain ⟨i, rfl⟩ : ∃ i, k = 805 + i := ⟨k - 805, by omega⟩
    exact allR_at chk_805 (by omega)
  by_cases c23 : k < 851
  · obtain ⟨i, rfl⟩ : ∃ i, k = 828 + i := ⟨k - 828, by omega⟩
    exact allR_at chk_828 (by omega)
  by_cases c46 : k < 874
  · obtain ⟨i, rfl⟩ : ∃ i, k = 851 + i := ⟨k - 851, by omega⟩
    exact allR_at chk_851 (by omega)
  by_cases c69 : k < 897
  · obtain ⟨i, rfl⟩ : ∃ i, k = 874 + i := ⟨k - 874, by omega⟩
    exact allR_at chk_874 (by omega)
  by_cases c92 : k < 920
  · obtain ⟨i, rfl⟩ : ∃ i, k = 897 + i := ⟨k - 897, by omega⟩
    exact allR_at chk_897 (by omega)
  omega

end Go.Proofs.Ythajhpilfbijdaa
