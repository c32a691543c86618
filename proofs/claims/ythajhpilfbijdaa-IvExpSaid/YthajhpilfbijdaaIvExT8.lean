/- IvExp: its places, part 8. -/
import Derived.Test.YthajhpilfbijdaaIvExT
namespace Go.Proofs.Ythajhpilfbijdaa
open Go
set_option linter.unusedVariables false
set_option linter.unusedSimpArgs false
set_option maxRecDepth 100000

theorem chk_920 : allR chkE 920 23 = true := by decide +kernel
theorem chk_943 : allR chkE 943 23 = true := by decide +kernel
theorem chk_966 : allR chkE 966 23 = true := by decide +kernel
theorem chk_989 : allR chkE 989 23 = true := by decide +kernel
theorem chk_1012 : allR chkE 1012 23 = true := by decide +kernel
theorem chkA_8 (k : Nat) (h1 : 920 ≤ k) (h2 : k < 1035) : chkE k = true := by
  by_cases c0 : k < 943
  · obtain ⟨i, rfl⟩ : ∃ i, k = 920 + i := ⟨k - 920, by omega⟩
    exact allR_at chk_920 (by omega)
  by_cases c23 : k < 966
  · obtain ⟨i, rfl⟩ : ∃ i, k = 943 + i := ⟨k - 943, by omega⟩
    exact allR_at chk_943 (by omega)
  by_cases c46 : k < 989
  · obtain ⟨i, rfl⟩ : ∃ i, k = 966 + i := ⟨k - 966, by omega⟩
    exact allR_at chk_966 (by omega)
  by_cases c69 : k < 1012
  · obtain ⟨i, rfl⟩ : ∃ i, k = 989 + i := ⟨k - 989, by omega⟩
    exact allR_at chk_989 (by omega)
  by_cases c92 : k < 1035
  · obtain ⟨i, rfl⟩ : ∃ i, k = 1012 + i := ⟨k - 1012, by omega⟩
    exact allR_at chk_1012 (by omega)
  omega

end Go.Proofs.Ythajhpilfbijdaa
