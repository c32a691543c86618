/- Whole numbers over powers of two as floats: sums, differences, products of such are exact, as long as they are small. -/
import Derived.Test.YtdlinjijccnaeaaMemR
import Derived.Test.YtdlinjijccnaeaaBound
namespace Go.Proofs.Ytdlinjijccnaeaa
open Go
set_option linter.unusedVariables false
set_option linter.unusedSimpArgs false

/-- As a rational number. -/
theorem Dy.rat {e : Nat} {N : Int} {x : Nat} (h : Dy e N x) {q : Rat} (hq : (N : Rat) = q * ((pw e : Nat) : Rat)) : kR x = q * uR := by
  have h1 : ((kv x : Int) : Rat) * ((pw e : Nat) : Rat) = ((N : Int) : Rat) * ((un : Nat) : Rat) := by exact_mod_cast h.eq
  have hp : ((pw e : Nat) : Rat) ≠ 0 := by
    have : (0 : Rat) < ((pw e : Nat) : Rat) := by exact_mod_cast pw_pos e
    grind
  show ((kv x : Int) : Rat) = _
  rw [hq] at h1
  have h2 : (((kv x : Int) : Rat) - q * uR) * ((pw e : Nat) : Rat) = 0 := by grind
  rcases Rat.mul_eq_zero.1 h2 with h3 | h3
  · grind
  · exact absurd h3 hp

end Go.Proofs.Ytdlinjijccnaeaa
