/- IvExp: its places, part 14. -/
import Derived.Test.YthajhpilfbijdaaIvExT
namespace Go.Proofs.Ythajhpilfbijdaa
open Go
set_option linter.unusedVariables false
set_option linter.unusedSimpArgs false
set_option maxRecDepth 100000

theorem chk_1610 : allR chkE 1610 23 = true := by decide +kernel
theorem chk_1633 : allR chkE 1633 23 = true := by decide +kernel
theorem chk_1656 : allR chkE 1656 23 = true := by decide +kernel
theorem chk_1679 : allR chkE 1679 23 = true := by decide +kernel
theorem chk_1702 : allR chkE 1702 23 = true := by decide +kernel
theorem chk_1725 : allR chkE 1725 23 = true := by decide +kernel
theorem chk_1748 : allR chkE 1748 23 = true := by decide +kernel
theorem chk_1771 : allR chkE 1771 23 = true := by decide +kernel
theorem chk_1794 : allR chkE 1794 23 = true := by decide +kernel
theorem chk_1817 : allR chkE 1817 23 = true := by decide +kernel
theorem chk_1840 : allR chkE 1840 23 = true := by decide +kernel
theorem chk_1863 : allR chkE 1863 23 = true := by decide +kernel
theorem chk_1886 : allR chkE 1886 23 = true := by decide +kernel
theorem chk_1909 : allR chkE 1909 23 = true := by decide +kernel
theorem chk_1932 : allR chkE 1932 23 = true := by decide +kernel
theorem chk_1955 : allR chkE 1955 23 = true := by decide +kernel
theorem chk_1978 : allR chkE 1978 23 = true := by decide +kernel
theorem chkA_14 (k : Nat) (h1 : 1610 ≤ k) (h2 : k < 2001) : chkE k = true := by
  by_cases c0 : k < 1633
  · obtain ⟨i, rfl⟩ : ∃ i, k = 1610 + i := ⟨k - 1610, by omega⟩
    exact allR_at chk_1610 (by omega)
  by_cases c23 : k < 1656
  · obtain ⟨i, rfl⟩ : ∃ i, k = 1633 + i := ⟨k - 1633, by omega⟩
    exact allR_at chk_1633 (by omega)
  by_cases c46 : k < 1679
  · obtain ⟨i, rfl⟩ : ∃ i, k = 1656 + i := ⟨k - 1656, by omega⟩
    exact allR_at chk_1656 (by omega)
  by_cases c69 : k < 1702
  · obtain ⟨i, rfl⟩ : ∃ i, k = 1679 + i := ⟨k - 1679, by omega⟩
    exact allR_at chk_1679 (by omega)
  by_cases c92 : k < 1725
  · obtain ⟨i, rfl⟩ : ∃ i, k = 1702 + i := ⟨k - 1702, by omega⟩
    exact allR_at chk_1702 (by omega)
  by_cases c115 : k < 1748
  · obtain ⟨i, rfl⟩ : ∃ i, k = 1725 + i := ⟨k - 1725, by omega⟩
    exact allR_at chk_1725 (by omega)
  by_cases c138 : k < 1771
  · obtain ⟨i, rfl⟩ : ∃ i, k = 1748 + i := ⟨k - 1748, by omega⟩
    exact allR_at chk_1748 (by omega)
  by_cases c161 : k < 1794
  · obtain ⟨i, rfl⟩ : ∃ i, k = 1771 + i := ⟨k - 1771, by omega⟩
    exact allR_at chk_1771 (by omega)
  by_cases c184 : k < 1817
  · obtain ⟨i, rfl⟩ : ∃ i, k = 1794 + i := ⟨k - 1794, by omega⟩
    exact allR_at chk_1794 (by omega)
  by_cases c207 : k < 1840
  · obtain ⟨i, rfl⟩ : ∃ i, k = 1817 + i := ⟨k - 1817, by omega⟩
    exact allR_at chk_1817 (by omega)
  by_cases c230 : k < 1863
  · obtain ⟨i, rfl⟩ : ∃ i, k = 1840 + i := ⟨k - 1840, by omega⟩
    exact allR_at chk_1840 (by omega)
  by_cases c253 : k < 1886
  · obtain ⟨i, rfl⟩ : ∃ i, k = 1863 + i := ⟨k - 1863, by omega⟩
    exact allR_at chk_1863 (by omega)
  by_cases c276 : k < 1909
  · obtain ⟨i, rfl⟩ : ∃ i, k = 1886 + i := ⟨k - 1886, by omega⟩
    exact allR_at chk_1886 (by omega)
  by_cases c299 : k < 1932
  · obtain ⟨i, rfl⟩ : ∃ i, k = 1909 + i := ⟨k - 1909, by omega⟩
    exact allR_at chk_1909 (by omega)
  by_cases c322 : k < 1955
  · obtain ⟨i, rfl⟩ : ∃ i, k = 1932 + i := ⟨k - 1932, by omega⟩
    exact allR_at chk_1932 (by omega)
  by_cases c345 : k < 1978
  · obtain ⟨i, rfl⟩ : ∃ i, k = 1955 + i := ⟨k - 1955, by omega⟩
    exact allR_at chk_1955 (by omega)
  by_cases c368 : k < 2001
  · obtain ⟨i, rfl⟩ : ∃ i, k = 1978 + i := ⟨k - 1978, by omega⟩
    exact allR_at chk_1978 (by omega)
  omega

end Go.Proofs.Ythajhpilfbijdaa
