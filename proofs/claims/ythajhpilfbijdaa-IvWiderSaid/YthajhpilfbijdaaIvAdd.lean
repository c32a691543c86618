/- Down and up of whole numbers; the sum of two from-tos of whole numbers. -/
import Derived.Test.YthajhpilfbijdaaNextUp
namespace Go.Proofs.Ythajhpilfbijdaa
open Go
set_option linter.unusedVariables false
set_option maxRecDepth 100000

theorem rung_big (r k : Nat) (hr : r = 9218868437227405311) (hk : k = 971) : rungK r = 9007199254740991 * (2 ^ 1074 * 2 ^ k) := by
  have q1 : r / 4503599627370496 - 1 = 1074 + k := by omega
  have q2 : 4503599627370496 + r % 4503599627370496 = 9007199254740991 := by omega
  have q3 : ¬ r < 4503599627370496 := by omega
  unfold rungK
  rw [if_neg q3, q1, q2, Nat.pow_add]

theorem rung_no {N P Q : Nat} (hn : N < 9007199254740992) (hP : 0 < P) (hQ : 2 ≤ Q) (h : N * P = 9007199254740991 * (P * Q)) : False := by
  have h5 : 9007199254740991 * P * 2 ≤ 9007199254740991 * P * Q := Nat.mul_le_mul_left _ hQ
  have h6 : N * P ≤ 9007199254740991 * P := Nat.mul_le_mul_right _ (by omega)
  have h7 : 0 < 9007199254740991 * P := Nat.mul_pos (by decide) hP
  rw [← Nat.mul_assoc] at h
  omega
theorem two_le (k : Nat) (hk : 1 ≤ k) : 2 ≤ 2 ^ k := by
  have := Nat.pow_le_pow_right (n := 2) (by decide) hk
  simpa using this

theorem rung_small {x : Nat} {n : Int} (hx : x < 18446744073709551616) (h : IsZ x n) (hn : n.natAbs < 9007199254740992) : x % 9223372036854775808 + 1 < 9218868437227405312 := by
  obtain ⟨hf, hk⟩ := h.key
  obtain ⟨s, r, hr, hw, hrx⟩ := fin_word hx hf
  rw [← hrx]
  rcases Nat.lt_or_ge (r + 1) 9218868437227405312 with hlt | hge
  · exact hlt
  · exfalso
    have hr2 : r = 9218868437227405311 := by omega
    have h2 := (key_word s hr).2
    rw [← hw, hk] at h2
    have h3 : n.natAbs * 2 ^ 1074 = rungK r := by
      have : (n * ((2 ^ 1074 : Nat) : Int)).natAbs = rungK r := by
        rw [h2]
        cases s <;> simp
      rw [Int.natAbs_mul, Int.natAbs_natCast] at this
      exact this
    have h4 := rung_big r 971 hr2 rfl
    exact rung_no hn (Nat.two_pow_pos 1074) (two_le 971 (by decide)) (h3.trans h4)

theorem down_z {x : Nat} {n : Int} (hx : x < 18446744073709551616) (h : IsZ x n) (hn : n.natAbs < 9007199254740992) : ∃ d, Runs Try.prog 67 #[.float .f64 x] #[] (.float .f64 d) #[] ∧ Fin d ∧ key d < key x := by
  by_cases h0 : key x = 0
  · obtain ⟨g1, g2⟩ := key_word true (r := 1) (by decide)
    have e : Ieee.double.word true 1 = 9223372036854775809 := by decide +kernel
    rw [e] at g1 g2
    have e1 : rungK 1 = 1 := rfl
    rw [e1] at g2
    exact ⟨_, down_zero h.key.1 h0, g1, by rw [g2, h0]; decide⟩
  · obtain ⟨d, _, h1, h2, h3⟩ := down_key hx h.key.1 h0 (rung_small hx h hn)
    exact ⟨d, h1, h2, h3⟩

theorem up_z {x : Nat} {n : Int} (hx : x < 18446744073709551616) (h : IsZ x n) (hn : n.natAbs < 9007199254740992) : ∃ d, Runs Try.prog 68 #[.float .f64 x] #[] (.float .f64 d) #[] ∧ Fin d ∧ key x < key d := by
  by_cases h0 : key x = 0
  · obtain ⟨g1, g2⟩ := key_word false (r := 1) (by decide)
    have e : Ieee.double.word false 1 = 1 := by decide +kernel
    rw [e] at g1 g2
    have e1 : rungK 1 = 1 := rfl
    rw [e1] at g2
    exact ⟨_, up_zero h.key.1 h0, g1, by rw [g2, h0]; decide⟩
  · obtain ⟨d, _, h1, h2, h3⟩ := up_key hx h.key.1 h0 (rung_small hx h hn)
    exact ⟨d, h1, h2, h3⟩

end Go.Proofs.Ythajhpilfbijdaa
