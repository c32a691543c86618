/- IvExp: its places, part 13. -/
import Derived.Test.YthajhpilfbijdaaIvExT
namespace Go.Proofs.Ythajhpilfbijdaa
open Go
set_option linter.unusedVariables false
set_option linter.unusedSimpArgs false
set_option maxRecDepth 100000

theorem chk_1495 : allR chkE 1495 23 = true := by decide +kernel
theorem chk_1518 : allR chkE 1518 23 = true := by decide +kernel
theorem chk_1541 : allR chkE 1541 23 = true := by decide +kernel
theorem chk_1564 : allR chkE 1564 23 = true := by decide +kernel
theorem chk_1587 : allR chkE 1587 23 = true := by decide +kernel
theorem chkA_13 (k : Nat) (h1 : 1495 ≤ k) (h2 : k < 1610) : chkE k = true := by
  by_cases c0 : k < 1518
  · obtain ⟨i, rfl⟩ : ∃ i, k = 1495 + i := ⟨k - 1495, by omega⟩
    exact allR_at chk_1495 (by omega)
  by_cases c23 : k < 1541
  · obtain ⟨i, rfl⟩ : ∃ i, k = 1518 + i := ⟨k - 1518, by omega⟩
    exact allR_at chk_1518 (by omega)
  by_cases c46 : k < 1564
  · obtain ⟨i, rfl⟩ : ∃ i, k = 1541 + i := ⟨k - 1541, by omega⟩
    exact allR_at chk_1541 (by omega)
  by_cases c69 : k < 1587
  · obtain ⟨i, rfl⟩ : ∃ i, k = 1564 + i := ⟨k - 1564, by omega⟩
    exact allR_at chk_1564 (by omega)
  by_cases c92 : k < 1610
  · obtain ⟨i, rfl⟩ : ∃ i, k = 1587 + i := ⟨k - 1587, by omega⟩
    exact allR_at chk_1587 (by omega)
  omega

end Go.Proofs.Ythajhpilfbijdaa
