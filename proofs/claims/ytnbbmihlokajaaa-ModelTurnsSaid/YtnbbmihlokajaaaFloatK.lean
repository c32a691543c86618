/- Finite floats by their size, in units of the least: how they stand to each other; the next word up is more. -/
import Derived.Test.YtnbbmihlokajaaaFloat
namespace Go.Proofs.Ytnbbmihlokajaaa
open Go
set_option linter.unusedVariables false
set_option maxRecDepth 20000

/-- A finite float, in units of the least. -/
def keyOf : Ieee.Datum → Int
  | .number s m e => Ieee.signed s m (e + 1074).toNat
  | _ => 0
def key (b : Nat) : Int := keyOf (Ieee.double.read b)
def Fin (b : Nat) : Prop := ∃ s m e, Ieee.double.read b = .number s m e

theorem read_place {b : Nat} {s : Bool} {m : Nat} {e : Int} (h : Ieee.double.read b = .number s m e) : -1074 ≤ e := by
  unfold Ieee.Format.read at h
  simp only [d_sign, d_binade, d_inf, d_least] at h
  split at h
  · injection h with _ _ h; omega
  · split at h
    · injection h with _ _ h; omega
    · split at h <;> cases h

theorem signed_shift (s : Bool) (m a b : Nat) : Ieee.signed s m (a + b) = Ieee.signed s m a * ((2 ^ b : Nat) : Int) := by
  unfold Ieee.signed
  rw [Nat.shiftLeft_eq, Nat.shiftLeft_eq, Nat.pow_add, ← Nat.mul_assoc]
  cases s
  · simp only [Bool.false_eq_true, if_false, Int.natCast_mul]
  · simp only [if_true, Int.natCast_mul, Int.neg_mul]

theorem order_key {x y : Nat} (hx : Fin x) (hy : Fin y) : Ieee.double.order x y = some (compare (key x) (key y)) := by
  obtain ⟨s, m, i, h1⟩ := hx
  obtain ⟨t, n, j, g1⟩ := hy
  have hi := read_place h1
  have hj := read_place g1
  unfold Ieee.Format.order key
  rw [h1, g1]
  simp only [Ieee.Datum.order, keyOf]
  have e1 : (i + 1074).toNat = (i - min i j).toNat + (min i j + 1074).toNat := by omega
  have e2 : (j + 1074).toNat = (j - min i j).toNat + (min i j + 1074).toNat := by omega
  rw [e1, e2, signed_shift, signed_shift]
  have hp : (0 : Int) < ((2 ^ (min i j + 1074).toNat : Nat) : Int) := by
    have := Nat.two_pow_pos (min i j + 1074).toNat
    omega
  generalize ((2 ^ (min i j + 1074).toNat : Nat) : Int) = p at hp
  generalize Ieee.signed s m (i - min i j).toNat = a
  generalize Ieee.signed t n (j - min i j).toNat = b
  congr 1
  simp only [compare, compareOfLessAndEq]
  by_cases hlt : a < b
  · rw [if_pos hlt, if_pos (Int.mul_lt_mul_of_pos_right hlt hp)]
  · by_cases heq : a = b
    · subst heq; simp
    · have := Int.mul_lt_mul_of_pos_right (show b < a by omega) hp
      rw [if_neg hlt, if_neg heq, if_neg (by omega), if_neg (by omega)]

/-- The size of a rung. -/
def rungK (r : Nat) : Nat := if r < 4503599627370496 then r else (4503599627370496 + r % 4503599627370496) * 2 ^ (r / 4503599627370496 - 1)

theorem rungK_up (r : Nat) : rungK r < rungK (r + 1) := by
  unfold rungK
  by_cases h1 : r + 1 < 4503599627370496
  · rw [if_pos (by omega), if_pos h1]; omega
  · rw [if_neg h1]
    by_cases h2 : r < 4503599627370496
    · have : r + 1 = 4503599627370496 := by omega
      rw [if_pos h2, this]
      simp
      omega
    · rw [if_neg h2]
      have hp : 0 < 2 ^ (r / 4503599627370496 - 1) := Nat.two_pow_pos _
      by_cases h3 : r % 4503599627370496 + 1 < 4503599627370496
      · have e1 : (r + 1) / 4503599627370496 = r / 4503599627370496 := by omega
        have e2 : (r + 1) % 4503599627370496 = r % 4503599627370496 + 1 := by omega
        rw [e1, e2]
        exact Nat.mul_lt_mul_of_pos_right (by omega) hp
      · have e1 : (r + 1) / 4503599627370496 - 1 = (r / 4503599627370496 - 1) + 1 := by omega
        have e2 : (r + 1) % 4503599627370496 = 0 := by omega
        rw [e1, e2, Nat.pow_succ]
        have : (4503599627370496 + r % 4503599627370496) * 2 ^ (r / 4503599627370496 - 1) < 4503599627370496 * 2 * 2 ^ (r / 4503599627370496 - 1) := Nat.mul_lt_mul_of_pos_right (by omega) hp
        rw [Nat.mul_assoc, Nat.mul_comm 2] at this
        simpa using this

/-- A word with its sign and its rung. -/
theorem key_word (s : Bool) {r : Nat} (h : r < 9218868437227405312) : Fin (Ieee.double.word s r) ∧ key (Ieee.double.word s r) = if s then -(rungK r : Int) else rungK r := by
  have hr : Ieee.double.read (Ieee.double.word s r) = if r < 4503599627370496 then .number s r (-1074) else .number s (4503599627370496 + r % 4503599627370496) (-1074 + (r / 4503599627370496 - 1 : Nat)) := by
    unfold Ieee.Format.read Ieee.Format.word
    simp only [d_sign, d_binade, d_inf, d_least]
    cases s
    · have e1 : r / 9223372036854775808 % 2 = 0 := by omega
      have e2 : r % 9223372036854775808 = r := by omega
      simp only [Bool.false_eq_true, if_false, e1, e2, if_pos h]
      rfl
    · have e1 : (9223372036854775808 + r) / 9223372036854775808 % 2 = 1 := by omega
      have e2 : (9223372036854775808 + r) % 9223372036854775808 = r := by omega
      simp only [if_true, e1, e2, if_pos h]
      rfl
  unfold key Fin rungK
  rw [hr]
  by_cases hb : r < 4503599627370496
  · rw [if_pos hb, if_pos hb]
    refine ⟨⟨_, _, _, rfl⟩, ?_⟩
    simp [keyOf, Ieee.signed]
  · rw [if_neg hb, if_neg hb]
    refine ⟨⟨_, _, _, rfl⟩, ?_⟩
    have e : (-1074 + ((r / 4503599627370496 - 1 : Nat) : Int) + 1074).toNat = r / 4503599627370496 - 1 := by omega
    simp only [keyOf, Ieee.signed, e, Nat.shiftLeft_eq]

theorem IsZ.key {x : Nat} {n : Int} (h : IsZ x n) : Fin x ∧ key x = n * ((2 ^ 1074 : Nat) : Int) := by
  obtain ⟨s, m, d, h1, h2, h3⟩ := h
  refine ⟨⟨_, _, _, h1⟩, ?_⟩
  have hd := read_place h1
  unfold Go.Proofs.Ytnbbmihlokajaaa.key
  rw [h1]
  simp only [keyOf]
  rw [signed_eq h2 h3, show d + (-(d : Int) + 1074).toNat = 1074 by omega]

end Go.Proofs.Ytnbbmihlokajaaa
