/- IvExp: its places, part 5. -/
import Derived.Test.YthajhpilfbijdaaIvExT
namespace Go.Proofs.Ythajhpilfbijdaa
open Go
set_option linter.unusedVariables false
set_option linter.unusedSimpArgs false
set_option maxRecDepth 100000

theorem chk_575 : allR chkE 575 23 = true := by decide +kernel
theorem chk_598 : allR chkE 598 23 = true := by decide +kernel
theorem chk_621 : allR chkE 621 23 = true := by decide +kernel
theorem chk_644 : allR chkE 644 23 = true := by decide +kernel
theorem chk_667 : allR chkE 667 23 = true := by decide +kernel
theorem chkA_5 (k : Nat) (h1 : 575 ≤ k) (h2 : k < 690) : chkE k = true := by
  by_cases c0 : k < 598
  · obtain ⟨i, rfl⟩ : ∃ i, k = 575 + i := ⟨k - 575, by omega⟩
    exact allR_at chk_575 (by omega)
  by_cases c23 : k < 621
  · obtain ⟨i, rfl⟩ : ∃ i, k = 598 + i := ⟨k - 598, by omega⟩
    exact allR_at chk_598 (by omega)
  by_cases c46 : k < 644
  · obtain ⟨i, rfl⟩ : ∃ i, k = 621 + i := ⟨k - 621, by omega⟩
    exact allR_at chk_621 (by omega)
  by_cases c69 : k < 667
  · obtain ⟨i, rfl⟩ : ∃ i, k = 644 + i := ⟨k - 644, by omega⟩
    exact allR_at chk_644 (by omega)
  by_cases c92 : k < 690
  · obtain ⟨i, rfl⟩ : ∃ i, k = 667 + i := ⟨k - 667, by omega⟩
    exact allR_at chk_667 (by omega)
  omega

end Go.Proofs.Ythajhpilfbijdaa
