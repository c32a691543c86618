/- The law TapeKnown returns true, whatever the number that it is handed. -/
import Derived.Test.YtpmdpbljgidllaaWithin
namespace Go.Proofs.Ytpmdpbljgidllaa
open Go
set_option linter.unusedVariables false
set_option maxRecDepth 100000

noncomputable def tapeKnown_ask (f : FuncId) : Bool := f == 12 || f == 17

theorem tapeKnown_known : Runs Try.prog 12 #[] #[] (.bool true) #[] := by
  have h : (askN noF noC 12 12 #[] #[] []).map (fun r => (r.1, r.2.2)) = some (.bool true, []) := by kernel_rfl
  obtain ⟨H', h⟩ := tells_of (by kernel_rfl) h trivial
  exact h.quiet rfl rfl #[]

theorem tapeKnown_at (a : Int) (k : Int) (hk : a % Int.ofNat (4 + 1) = k)
    (h : (askN tapeKnown_ask noC 12 5 #[.int .i64 a] #[] [yes true, isI k]).map (fun r => (r.1, r.2.2)) = some (.bool true, [.run 12 #[] #[] (.bool true) #[], .run 17 #[.int .i64 a, .int .i64 (Int.ofNat 5)] #[] (.int .i64 k) #[]])) :
    Tells 5 #[.int .i64 a] #[] (.bool true) :=
  tells_of (by kernel_rfl) h ⟨tapeKnown_known, by subst hk; exact within3 a 4 (by decide), trivial⟩

theorem tapeKnown_tells (a : Int) : Tells 5 #[.int .i64 a] #[] (.bool true) := by
  have h1 := Int.emod_nonneg a (b := 5) (by decide)
  have h2 := Int.emod_lt_of_pos a (b := 5) (by decide)
  have h : a % Int.ofNat (4 + 1) = 0 ∨ a % Int.ofNat (4 + 1) = 1 ∨ a % Int.ofNat (4 + 1) = 2 ∨ a % Int.ofNat (4 + 1) = 3 ∨ a % Int.ofNat (4 + 1) = 4 := by
    have e : Int.ofNat (4 + 1) = 5 := rfl
    rw [e]; omega
  rcases h with h | h | h | h | h
  · exact tapeKnown_at a 0 h (by kernel_rfl)
  · exact tapeKnown_at a 1 h (by kernel_rfl)
  · exact tapeKnown_at a 2 h (by kernel_rfl)
  · exact tapeKnown_at a 3 h (by kernel_rfl)
  · exact tapeKnown_at a 4 h (by kernel_rfl)

end Go.Proofs.Ytpmdpbljgidllaa
