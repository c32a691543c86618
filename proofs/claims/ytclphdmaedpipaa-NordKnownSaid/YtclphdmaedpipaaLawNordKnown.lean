/- The law NordKnown returns true, whatever the number that it is handed. -/
import Derived.Test.YtclphdmaedpipaaWithin
namespace Go.Proofs.Ytclphdmaedpipaa
open Go
set_option linter.unusedVariables false
set_option maxRecDepth 100000

theorem nordKnown_at (a : Int) (k : Int) (hk : a % Int.ofNat (3 + 1) = k)
    (h : (askN askW noC 12 9 #[.int .i64 a] #[] [isI k]).map (fun r => (r.1, r.2.2)) = some (.bool true, [.run 15 #[.int .i64 a, .int .i64 (Int.ofNat 4)] #[] (.int .i64 k) #[]])) :
    Tells 9 #[.int .i64 a] #[] (.bool true) :=
  tells_of (by kernel_rfl) h ⟨by subst hk; exact within8 a 3 (by decide), trivial⟩

theorem nordKnown_tells (a : Int) : Tells 9 #[.int .i64 a] #[] (.bool true) := by
  have h1 := Int.emod_nonneg a (b := 4) (by decide)
  have h2 := Int.emod_lt_of_pos a (b := 4) (by decide)
  have h : a % Int.ofNat (3 + 1) = 0 ∨ a % Int.ofNat (3 + 1) = 1 ∨ a % Int.ofNat (3 + 1) = 2 ∨ a % Int.ofNat (3 + 1) = 3 := by
    have e : Int.ofNat (3 + 1) = 4 := rfl
    rw [e]; omega
  rcases h with h | h | h | h
  · exact nordKnown_at a 0 h (by kernel_rfl)
  · exact nordKnown_at a 1 h (by kernel_rfl)
  · exact nordKnown_at a 2 h (by kernel_rfl)
  · exact nordKnown_at a 3 h (by kernel_rfl)

end Go.Proofs.Ytclphdmaedpipaa
