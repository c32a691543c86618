/- IvExp: its places, part 10. -/
import Derived.Test.YthajhpilfbijdaaIvExT
namespace Go.Proofs.Ythajhpilfbijdaa
open Go
set_option linter.unusedVariables false
set_option linter.unusedSimpArgs false
set_option maxRecDepth 100000

theorem chk_1150 : allR chkE 1150 23 = true := by decide +kernel
theorem chk_1173 : allR chkE 1173 23 = true := by decide +kernel
theorem chk_1196 : allR chkE 1196 23 = true := by decide +kernel
theorem chk_1219 : allR chkE 1219 23 = true := by decide +kernel
theorem chk_1242 : allR chkE 1242 23 = true := by decide +kernel
theorem chkA_10 (k : Nat) (h1 : 1150 ≤ k) (h2 : k < 1265) : chkE k = true := by
  by_cases c0 : k < 1173
  · obtain ⟨i, rfl⟩ : ∃ i, k = 1150 + i := ⟨k - 1150, by omega⟩
    exact allR_at chk_1150 (by omega)
  by_cases c23 : k < 1196
  · obtain ⟨i, rfl⟩ : ∃ i, k = 1173 + i := ⟨k - 1173, by omega⟩
    exact allR_at chk_1173 (by omega)
  by_cases c46 : k < 1219
  · obtain ⟨i, rfl⟩ : ∃ i, k = 1196 + i := ⟨k - 1196, by omega⟩
    exact allR_at chk_1196 (by omega)
  by_cases c69 : k < 1242
  · obtain ⟨i, rfl⟩ : ∃ i, k = 1219 + i := ⟨k - 1219, by omega⟩
    exact allR_at chk_1219 (by omega)
  by_cases c92 : k < 1265
  · obtain ⟨i, rfl⟩ : ∃ i, k = 1242 + i := ⟨k - 1242, by omega⟩
    exact allR_at chk_1242 (by omega)
  omega

end Go.Proofs.Ythajhpilfbijdaa
