/- IvExp: its places, part 9. -/
import Derived.Test.YthajhpilfbijdaaIvExT
namespace Go.Proofs.Ythajhpilfbijdaa
open Go
set_option linter.unusedVariables false
set_option linter.unusedSimpArgs false
set_option maxRecDepth 100000

theorem chk_1035 : allR chkE 1035 23 = true := by decide +kernel
theorem chk_1058 : allR chkE 1058 23 = true := by decide +kernel
theorem chk_1081 : allR chkE 1081 23 = true := by decide +kernel
theorem chk_1104 : allR chkE 1104 23 = true := by decide +kernel
theorem chk_1127 : allR chkE 1127 23 = true := by decide +kernel
theorem chkA_9 (k : Nat) (h1 : 1035 ≤ k) (h2 : k < 1150) : chkE k = true := by
  by_cases c0 : k < 1058
  · obtain ⟨i, rfl⟩ : ∃ i, k = 1035 + i := ⟨k - 1035, by omega⟩
    exact allR_at chk_1035 (by omega)
  by_cases c23 : k < 1081
  · obtain ⟨i, rfl⟩ : ∃ i, k = 1058 + i := ⟨k - 1058, by omega⟩
    exact allR_at chk_1058 (by omega)
  by_cases c46 : k < 1104
  · obtain ⟨i, rfl⟩ : ∃ i, k = 1081 + i := ⟨k - 1081, by omega⟩
    exact allR_at chk_1081 (by omega)
  by_cases c69 : k < 1127
  · obtain ⟨i, rfl⟩ : ∃ i, k = 1104 + i := ⟨k - 1104, by omega⟩
    exact allR_at chk_1104 (by omega)
  by_cases c92 : k < 1150
  · obtain ⟨i, rfl⟩ : ∃ i, k = 1127 + i := ⟨k - 1127, by omega⟩
    exact allR_at chk_1127 (by omega)
  omega

end Go.Proofs.Ythajhpilfbijdaa
