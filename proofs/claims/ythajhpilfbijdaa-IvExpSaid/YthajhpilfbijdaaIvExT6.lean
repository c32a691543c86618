/- IvExp: its places, part 6. -/
import Derived.Test.YthajhpilfbijdaaIvExT
namespace Go.Proofs.Ythajhpilfbijdaa
open Go
set_option linter.unusedVariables false
set_option linter.unusedSimpArgs false
set_option maxRecDepth 100000

theorem chk_690 : allR chkE 690 23 = true := by decide +kernel
theorem chk_713 : allR chkE 713 23 = true := by decide +kernel
theorem chk_736 : allR chkE 736 23 = true := by decide +kernel
theorem chk_759 : allR chkE 759 23 = true := by decide +kernel
theorem chk_782 : allR chkE 782 23 = true := by decide +kernel
theorem chkA_6 (k : Nat) (h1 : 690 ≤ k) (h2 : k < 805) : chkE k = true := by
  by_cases c0 : k < 713
  · obtain ⟨i, rfl⟩ : ∃ i, k = 690 + i := ⟨k - 690, by omega⟩
    exact allR_at chk_690 (by omega)
  by_cases c23 : k < 736
  · obtain ⟨i, rfl⟩ : ∃ i, k = 713 + i := ⟨k - 713, by omega⟩
    exact allR_at chk_713 (by omega)
  by_cases c46 : k < 759
  · obtain ⟨i, rfl⟩ : ∃ i, k = 736 + i := ⟨k - 736, by omega⟩
    exact allR_at chk_736 (by omega)
  by_cases c69 : k < 782
  · obtain ⟨i, rfl⟩ : ∃ i, k = 759 + i := ⟨k - 759, by omega⟩
    exact allR_at chk_759 (by omega)
  by_cases c92 : k < 805
  · obtain ⟨i, rfl⟩ : ∃ i, k = 782 + i := ⟨k - 782, by omega⟩
    exact allR_at chk_782 (by omega)
  omega

end Go.Proofs.Ythajhpilfbijdaa
