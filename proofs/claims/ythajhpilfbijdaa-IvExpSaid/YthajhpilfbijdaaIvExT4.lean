/- IvExp: its places, part 4. -/
import Derived.Test.YthajhpilfbijdaaIvExT
namespace Go.Proofs.Ythajhpilfbijdaa
open Go
set_option linter.unusedVariables false
set_option linter.unusedSimpArgs false
set_option maxRecDepth 100000

theorem chk_460 : allR chkE 460 23 = true := by decide +kernel
theorem chk_483 : allR chkE 483 23 = true := by decide +kernel
theorem chk_506 : allR chkE 506 23 = true := by decide +kernel
theorem chk_529 : allR chkE 529 23 = true := by decide +kernel
theorem chk_552 : allR chkE 552 23 = true := by decide +kernel
theorem chkA_4 (k : Nat) (h1 : 460 ≤ k) (h2 : k < 575) : chkE k = true := by
  by_cases c0 : k < 483
  · obtain ⟨i, rfl⟩ : ∃ i, k = 460 + i := ⟨k - 460, by omega⟩
    exact allR_at chk_460 (by omega)
  by_cases c23 : k < 506
  · obtain ⟨i, rfl⟩ : ∃ i, k = 483 + i := ⟨k - 483, by omega⟩
    exact allR_at chk_483 (by omega)
  by_cases c46 : k < 529
  · obtain ⟨i, rfl⟩ : ∃ i, k = 506 + i := ⟨k - 506, by omega⟩
    exact allR_at chk_506 (by omega)
  by_cases c69 : k < 552
  · obtain ⟨i, rfl⟩ : ∃ i, k = 529 + i := ⟨k - 529, by omega⟩
    exact allR_at chk_529 (by omega)
  by_cases c92 : k < 575
  · obtain ⟨i, rfl⟩ : ∃ i, k = 552 + i := ⟨k - 552, by omega⟩
    exact allR_at chk_552 (by omega)
  omega

end Go.Proofs.Ythajhpilfbijdaa
