/- The law IvKnown returns true, whatever the number that it is handed. -/
import Derived.Test.YthajhpilfbijdaaWithin
namespace Go.Proofs.Ythajhpilfbijdaa
open Go
set_option linter.unusedVariables false
set_option maxRecDepth 100000

noncomputable def ivKnown_ask (f : FuncId) : Bool := f == 16 || f == 17

theorem ivKnown_known : Runs Try.prog 16 #[] #[] (.bool true) #[] := by
  have h : (askN noF noC 12 16 #[] #[] []).map (fun r => (r.1, r.2.2)) = some (.bool true, []) := by kernel_rfl
  obtain ⟨H', h⟩ := tells_of (by kernel_rfl) h trivial
  exact h.quiet rfl rfl #[]

theorem ivKnown_at (a : Int) (k : Int) (hk : a % Int.ofNat (10 + 1) = k)
    (h : (askN ivKnown_ask noC 12 7 #[.int .i64 a] #[] [yes true, isI k]).map (fun r => (r.1, r.2.2)) = some (.bool true, [.run 16 #[] #[] (.bool true) #[], .run 17 #[.int .i64 a, .int .i64 (Int.ofNat 11)] #[] (.int .i64 k) #[]])) :
    Tells 7 #[.int .i64 a] #[] (.bool true) :=
  tells_of (by kernel_rfl) h ⟨ivKnown_known, by subst hk; exact within2 a 10 (by decide), trivial⟩

theorem ivKnown_tells (a : Int) : Tells 7 #[.int .i64 a] #[] (.bool true) := by
  have h1 := Int.emod_nonneg a (b := 11) (by decide)
  have h2 := Int.emod_lt_of_pos a (b := 11) (by decide)
  have h : a % Int.ofNat (10 + 1) = 0 ∨ a % Int.ofNat (10 + 1) = 1 ∨ a % Int.ofNat (10 + 1) = 2 ∨ a % Int.ofNat (10 + 1) = 3 ∨ a % Int.ofNat (10 + 1) = 4 ∨ a % Int.ofNat (10 + 1) = 5 ∨ a % Int.ofNat (10 + 1) = 6 ∨ a % Int.ofNat (10 + 1) = 7 ∨ a % Int.ofNat (10 + 1) = 8 ∨ a % Int.ofNat (10 + 1) = 9 ∨ a % Int.ofNat (10 + 1) = 10 := by
    have e : Int.ofNat (10 + 1) = 11 := rfl
    rw [e]; omega
  rcases h with h | h | h | h | h | h | h | h | h | h | h
  · exact ivKnown_at a 0 h (by kernel_rfl)
  · exact ivKnown_at a 1 h (by kernel_rfl)
  · exact ivKnown_at a 2 h (by kernel_rfl)
  · exact ivKnown_at a 3 h (by kernel_rfl)
  · exact ivKnown_at a 4 h (by kernel_rfl)
  · exact ivKnown_at a 5 h (by kernel_rfl)
  · exact ivKnown_at a 6 h (by kernel_rfl)
  · exact ivKnown_at a 7 h (by kernel_rfl)
  · exact ivKnown_at a 8 h (by kernel_rfl)
  · exact ivKnown_at a 9 h (by kernel_rfl)
  · exact ivKnown_at a 10 h (by kernel_rfl)

end Go.Proofs.Ythajhpilfbijdaa
