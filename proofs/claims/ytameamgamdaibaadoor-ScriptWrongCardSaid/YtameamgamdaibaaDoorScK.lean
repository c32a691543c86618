/- What the statements of chapter 13 ask first: known is true. -/
import Derived.Test.YtameamgamdaibaaDoorScO
namespace Go.Proofs.YtameamgamdaibaaDoor
open Go
set_option linter.unusedVariables false
set_option maxRecDepth 100000

theorem known13 : Runs Tryd.prog 6 #[] #[] (.bool true) #[] := by
  have h : (callL 1000 12 6 #[] #[]).map (·.1) = some (.bool true) := by kernel_rfl
  simp only [Option.map_eq_some_iff] at h
  obtain ⟨⟨v, H'⟩, h1, h2⟩ := h
  simp only at h2
  subst h2
  exact (callL_runs h1).quiet rfl rfl #[]

end Go.Proofs.YtameamgamdaibaaDoor
