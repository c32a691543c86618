/- The law ScriptKnown returns true, whatever the number that it is handed. -/
import Derived.Test.YtameamgamdaibaaDoorScK1
import Derived.Test.YtameamgamdaibaaDoorScK2
import Derived.Test.YtameamgamdaibaaDoorScK3
import Derived.Test.YtameamgamdaibaaDoorScK4
namespace Go.Proofs.YtameamgamdaibaaDoor
open Go
set_option linter.unusedVariables false
set_option maxRecDepth 100000

theorem scriptKnown_tells (a : Int) : Tells 3 #[.int .i64 a] #[] (.bool true) := by
  have h1 := Int.emod_nonneg a (b := 22) (by decide)
  have h2 := Int.emod_lt_of_pos a (b := 22) (by decide)
  have h : a % Int.ofNat (21 + 1) = 0 ∨ a % Int.ofNat (21 + 1) = 1 ∨ a % Int.ofNat (21 + 1) = 2 ∨ a % Int.ofNat (21 + 1) = 3 ∨ a % Int.ofNat (21 + 1) = 4 ∨ a % Int.ofNat (21 + 1) = 5 ∨ a % Int.ofNat (21 + 1) = 6 ∨ a % Int.ofNat (21 + 1) = 7 ∨ a % Int.ofNat (21 + 1) = 8 ∨ a % Int.ofNat (21 + 1) = 9 ∨ a % Int.ofNat (21 + 1) = 10 ∨ a % Int.ofNat (21 + 1) = 11 ∨ a % Int.ofNat (21 + 1) = 12 ∨ a % Int.ofNat (21 + 1) = 13 ∨ a % Int.ofNat (21 + 1) = 14 ∨ a % Int.ofNat (21 + 1) = 15 ∨ a % Int.ofNat (21 + 1) = 16 ∨ a % Int.ofNat (21 + 1) = 17 ∨ a % Int.ofNat (21 + 1) = 18 ∨ a % Int.ofNat (21 + 1) = 19 ∨ a % Int.ofNat (21 + 1) = 20 ∨ a % Int.ofNat (21 + 1) = 21 := by
    have e : Int.ofNat (21 + 1) = 22 := rfl
    rw [e]; omega
  rcases h with h | h | h | h | h | h | h | h | h | h | h | h | h | h | h | h | h | h | h | h | h | h
  · exact kn_at kn_0 a h
  · exact kn_at kn_1 a h
  · exact kn_at kn_2 a h
  · exact kn_at kn_3 a h
  · exact kn_at kn_4 a h
  · exact kn_at kn_5 a h
  · exact kn_at kn_6 a h
  · exact kn_at kn_7 a h
  · exact kn_at kn_8 a h
  · exact kn_at kn_9 a h
  · exact kn_at kn_10 a h
  · exact kn_at kn_11 a h
  · exact kn_at kn_12 a h
  · exact kn_at kn_13 a h
  · exact kn_at kn_14 a h
  · exact kn_at kn_15 a h
  · exact kn_at kn_16 a h
  · exact kn_at kn_17 a h
  · exact kn_at kn_18 a h
  · exact kn_at kn_19 a h
  · exact kn_at kn_20 a h
  · exact kn_at kn_21 a h

end Go.Proofs.YtameamgamdaibaaDoor
