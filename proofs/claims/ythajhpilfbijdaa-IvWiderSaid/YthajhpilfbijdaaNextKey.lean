/- The next float down is less. -/
import Derived.Test.YthajhpilfbijdaaNext
namespace Go.Proofs.Ythajhpilfbijdaa
open Go
set_option linter.unusedVariables false
set_option maxRecDepth 20000

theorem fin_word {x : Nat} (hx : x < 18446744073709551616) (h : Fin x) : ∃ s r, r < 9218868437227405312 ∧ x = Ieee.double.word s r ∧ r = x % 9223372036854775808 := by
  have hr : x % 9223372036854775808 < 9218868437227405312 := by
    obtain ⟨s, m, e, h⟩ := h
    unfold Ieee.Format.read at h
    simp only [d_sign, d_binade, d_inf, d_least] at h
    split at h
    · omega
    · split at h
      · assumption
      · split at h <;> cases h
  by_cases hs : x < 9223372036854775808
  · refine ⟨false, _, hr, ?_, rfl⟩
    unfold Ieee.Format.word
    simp only [Bool.false_eq_true, if_false]
    omega
  · refine ⟨true, _, hr, ?_, rfl⟩
    unfold Ieee.Format.word
    simp only [if_true, d_sign]
    omega

theorem wrap_u64 {n : Int} (h0 : 0 ≤ n) (h : n < 18446744073709551616) : IntKind.u64.wrap n = n := by
  have hb : IntKind.u64.bits = 64 := rfl
  have hs : IntKind.u64.signed = false := rfl
  unfold IntKind.wrap
  simp only [hb, hs, Bool.false_and, Bool.false_eq_true, if_false]
  have e1 : (2 : Int) ^ 64 = 18446744073709551616 := by decide
  rw [e1]
  omega

theorem rungK_pos {r : Nat} (h : rungK r ≠ 0) : 0 < r := by
  rcases Nat.eq_zero_or_pos r with h0 | h0
  · subst h0; simp [rungK] at h
  · exact h0

theorem down_key {x : Nat} (hx : x < 18446744073709551616) (h : Fin x) (h0 : key x ≠ 0) (hm : x % 9223372036854775808 + 1 < 9218868437227405312) :
    ∃ d, d < 18446744073709551616 ∧ Runs Try.prog 67 #[.float .f64 x] #[] (.float .f64 d) #[] ∧ Fin d ∧ key d < key x := by
  obtain ⟨s, r, hr, hw, hrx⟩ := fin_word hx h
  rw [← hrx] at hm
  have hk := (key_word s hr).2
  rw [← hw] at hk
  cases s with
  | false =>
    simp only [Bool.false_eq_true, if_false] at hk
    have hp : 0 < r := rungK_pos (by omega)
    have hxr : x = r := by rw [hw]; rfl
    have hd := down_pos h (by omega)
    have e : (IntKind.u64.wrap ((x : Int) - 1)).toNat = r - 1 := by rw [wrap_u64 (by omega) (by omega)]; omega
    rw [e] at hd
    obtain ⟨g1, g2⟩ := key_word false (r := r - 1) (by omega)
    have e2 : Ieee.double.word false (r - 1) = r - 1 := rfl
    rw [e2] at g1 g2
    simp only [Bool.false_eq_true, if_false] at g2
    have := rungK_up (r - 1)
    rw [show r - 1 + 1 = r by omega] at this
    exact ⟨r - 1, by omega, hd, g1, by omega⟩
  | true =>
    simp only [if_true] at hk
    have hxr : x = 9223372036854775808 + r := by rw [hw]; unfold Ieee.Format.word; simp only [if_true, d_sign]
    have hd := down_neg h (by omega)
    have e : (IntKind.u64.wrap ((x : Int) + 1)).toNat = 9223372036854775808 + (r + 1) := by rw [wrap_u64 (by omega) (by omega)]; omega
    rw [e] at hd
    obtain ⟨g1, g2⟩ := key_word true (r := r + 1) hm
    have e2 : Ieee.double.word true (r + 1) = 9223372036854775808 + (r + 1) := by unfold Ieee.Format.word; simp only [if_true, d_sign]
    rw [e2] at g1 g2
    simp only [if_true] at g2
    have := rungK_up r
    exact ⟨9223372036854775808 + (r + 1), by omega, hd, g1, by omega⟩

end Go.Proofs.Ythajhpilfbijdaa
