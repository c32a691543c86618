/- The law JacKnown returns true, whatever the number that it is handed. -/
import Derived.Test.YtdlinjijccnaeaaWithin
namespace Go.Proofs.Ytdlinjijccnaeaa
open Go
set_option linter.unusedVariables false
set_option maxRecDepth 100000

noncomputable def jacKnown_ask (f : FuncId) : Nat := bif f == 12 || f == 13 then 1 else 0

theorem jacKnown_known : Runs Try.prog 12 #[] #[] (.bool true) #[] := by
  have h : (askN noF noC 12 12 #[] #[] []).map (fun r => (r.1, r.2.2)) = some (.bool true, []) := by kernel_rfl
  obtain ⟨H', h⟩ := tells_of h trivial
  exact h.quiet rfl rfl #[]

theorem jacKnown_at (a : Int) (k : Int) (hk : a % Int.ofNat (3 + 1) = k)
    (h : (askN jacKnown_ask noC 12 4 #[.int .i64 a] #[] [yes true, isI k]).map (fun r => (r.1, r.2.2)) = some (.bool true, [.run 12 #[] #[] (.bool true) #[], .run 13 #[.int .i64 a, .int .i64 (Int.ofNat 4)] #[] (.int .i64 k) #[]])) :
    Tells 4 #[.int .i64 a] #[] (.bool true) :=
  tells_of h ⟨jacKnown_known, by subst hk; exact within4 a 3 (by decide), trivial⟩

theorem jacKnown_c0 (a : Int) (h : a % Int.ofNat (3 + 1) = 0) : Tells 4 #[.int .i64 a] #[] (.bool true) := jacKnown_at a 0 h (by kernel_rfl)
theorem jacKnown_c1 (a : Int) (h : a % Int.ofNat (3 + 1) = 1) : Tells 4 #[.int .i64 a] #[] (.bool true) := jacKnown_at a 1 h (by kernel_rfl)
theorem jacKnown_c2 (a : Int) (h : a % Int.ofNat (3 + 1) = 2) : Tells 4 #[.int .i64 a] #[] (.bool true) := jacKnown_at a 2 h (by kernel_rfl)
theorem jacKnown_c3 (a : Int) (h : a % Int.ofNat (3 + 1) = 3) : Tells 4 #[.int .i64 a] #[] (.bool true) := jacKnown_at a 3 h (by kernel_rfl)
theorem jacKnown_tells (a : Int) : Tells 4 #[.int .i64 a] #[] (.bool true) := by
  have h1 := Int.emod_nonneg a (b := 4) (by decide)
  have h2 := Int.emod_lt_of_pos a (b := 4) (by decide)
  have h : a % Int.ofNat (3 + 1) = 0 ∨ a % Int.ofNat (3 + 1) = 1 ∨ a % Int.ofNat (3 + 1) = 2 ∨ a % Int.ofNat (3 + 1) = 3 := by
    have e : Int.ofNat (3 + 1) = 4 := rfl
    rw [e]; omega
  rcases h with h | h | h | h
  · exact jacKnown_c0 a h
  · exact jacKnown_c1 a h
  · exact jacKnown_c2 a h
  · exact jacKnown_c3 a h

end Go.Proofs.Ytdlinjijccnaeaa
