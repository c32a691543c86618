/- Floats as whole numbers of rungs with a sign: what rounding tells, how rungs stand to each other. -/
import Derived.Test.YthajhpilfbijdaaReal
import Derived.Test.YthajhpilfbijdaaFloatK
namespace Go.Proofs.Ythajhpilfbijdaa
open Go
set_option linter.unusedVariables false
set_option maxRecDepth 20000

/-- A rung with its sign. -/
def rk (i : Int) : Int := if 0 ≤ i then rg i.toNat else -(rg (-i).toNat : Int)
/-- The rung of a word, with its sign. -/
def ix (b : Nat) : Int := if b < 9223372036854775808 then (b : Int) else -((b - 9223372036854775808 : Nat) : Int)

theorem rk_neg (i : Int) : rk (-i) = -rk i := by
  unfold rk
  rcases Int.lt_trichotomy i 0 with h | h | h
  · rw [if_pos (by omega), if_neg (by omega)]; omega
  · subst h; rfl
  · rw [if_neg (by omega), if_pos (by omega)]
    rw [Int.neg_neg]
theorem rk_nat (n : Nat) : rk (n : Int) = rg n := by
  unfold rk
  rw [if_pos (by omega), Int.toNat_natCast]
theorem rk_zero : rk 0 = 0 := rfl
theorem rk_one : rk 1 = 1 := rfl

theorem rk_lt {i j : Int} (h : i < j) : rk i < rk j := by
  unfold rk
  by_cases hi : 0 ≤ i
  · rw [if_pos hi, if_pos (by omega)]
    have := rg_mono (a := i.toNat) (b := j.toNat) (by omega)
    omega
  · rw [if_neg hi]
    by_cases hj : 0 ≤ j
    · rw [if_pos hj]
      have := rg_mono (a := 0) (b := (-i).toNat) (by omega)
      omega
    · rw [if_neg hj]
      have := rg_mono (a := (-j).toNat) (b := (-i).toNat) (by omega)
      omega
theorem rk_le {i j : Int} (h : i ≤ j) : rk i ≤ rk j := by
  rcases Int.lt_or_le i j with h1 | h1
  · exact Int.le_of_lt (rk_lt h1)
  · have : i = j := by omega
    subst this; exact Int.le_refl _
theorem rk_le_iff {i j : Int} : rk i ≤ rk j ↔ i ≤ j := by
  constructor
  · intro h
    rcases Int.lt_or_le j i with h1 | h1
    · have := rk_lt h1; omega
    · exact h1
  · exact rk_le
theorem rk_lt_iff {i j : Int} : rk i < rk j ↔ i < j := by
  have := rk_le_iff (i := j) (j := i)
  omega
theorem rk_inj {i j : Int} (h : rk i = rk j) : i = j := by
  have h1 := rk_le_iff (i := i) (j := j)
  have h2 := rk_le_iff (i := j) (j := i)
  omega

/-- The rung i is the nearest to Z of Q of the least, of two the even one. -/
def Rd (Q : Nat) (Z : Int) (i : Int) : Prop :=
  -9218868437227405312 ≤ i ∧ i ≤ 9218868437227405312 ∧
  (i < 9218868437227405312 → 2 * Z ≤ (rk i + rk (i + 1)) * Q ∧ (2 * Z = (rk i + rk (i + 1)) * Q → i % 2 = 0)) ∧
  (-9218868437227405312 < i → (rk (i - 1) + rk i) * Q ≤ 2 * Z ∧ ((rk (i - 1) + rk i) * Q = 2 * Z → i % 2 = 0))

theorem Rd.neg {Q : Nat} {Z i : Int} (h : Rd Q Z i) : Rd Q (-Z) (-i) := by
  obtain ⟨h1, h2, h3, h4⟩ := h
  refine ⟨by omega, by omega, fun hl => ?_, fun hl => ?_⟩
  · obtain ⟨g1, g2⟩ := h4 (by omega)
    rw [rk_neg, show -i + 1 = -(i - 1) by omega, rk_neg]
    have e : (-rk i + -rk (i - 1)) * (Q : Int) = -((rk (i - 1) + rk i) * Q) := by rw [← Int.neg_mul]; congr 1; omega
    rw [e]
    exact ⟨by omega, fun h => by have := g2 (by omega); omega⟩
  · obtain ⟨g1, g2⟩ := h3 (by omega)
    rw [rk_neg, show -i - 1 = -(i + 1) by omega, rk_neg]
    have e : (-rk (i + 1) + -rk i) * (Q : Int) = -((rk i + rk (i + 1)) * Q) := by rw [← Int.neg_mul]; congr 1; omega
    rw [e]
    exact ⟨by omega, fun h => by have := g2 (by omega); omega⟩

theorem Rd.of_near {Q M r : Nat} (hQ : 0 < Q) (h : NearN Q M r) : Rd Q (M : Int) (r : Int) := by
  obtain ⟨h1, h2, h3⟩ := h
  refine ⟨by omega, by omega, fun hl => ?_, fun hl => ?_⟩
  · obtain ⟨g1, g2⟩ := h2 (by omega)
    rw [show (r : Int) + 1 = ((r + 1 : Nat) : Int) by omega, rk_nat, rk_nat]
    have e : ((rg r : Int) + (rg (r + 1) : Int)) * (Q : Int) = (((rg r + rg (r + 1)) * Q : Nat) : Int) := by rw [Int.natCast_mul, Int.natCast_add]
    rw [e]
    exact ⟨by omega, fun h => by have := g2 (by omega); omega⟩
  · rcases Nat.eq_zero_or_pos r with h0 | h0
    · subst h0
      rw [show ((0 : Nat) : Int) - 1 = -1 by rfl, rk_neg, rk_one]
      have e : (-1 + rk ((0 : Nat) : Int)) * (Q : Int) = -(Q : Int) := by
        rw [show rk ((0 : Nat) : Int) = 0 from rfl]; omega
      rw [e]
      exact ⟨by omega, fun h => by omega⟩
    · obtain ⟨g1, g2⟩ := h3 h0
      rw [show (r : Int) - 1 = ((r - 1 : Nat) : Int) by omega, rk_nat, rk_nat]
      have e : ((rg (r - 1) : Int) + (rg r : Int)) * (Q : Int) = (((rg (r - 1) + rg r) * Q : Nat) : Int) := by rw [Int.natCast_mul, Int.natCast_add]
      rw [e]
      exact ⟨by omega, fun h => by have := g2 (by omega); omega⟩

theorem Rd.mono {Q Q' : Nat} {Z Z' i i' : Int} (hQ : 0 < Q) (hQ' : 0 < Q') (h : Rd Q Z i) (h' : Rd Q' Z' i') (hle : Z * Q' ≤ Z' * Q) : i ≤ i' := by
  obtain ⟨h1, h2, _, h4⟩ := h
  obtain ⟨k1, k2, k3, _⟩ := h'
  rcases Int.lt_or_le i' i with hlt | hge
  · exfalso
    obtain ⟨a1, a2⟩ := h4 (by omega)
    obtain ⟨b1, b2⟩ := k3 (by omega)
    have hq : (0 : Int) < (Q : Int) := by omega
    have hq' : (0 : Int) < (Q' : Int) := by omega
    have e0 : rk i' + rk (i' + 1) ≤ rk (i - 1) + rk i := by
      have := rk_le (i := i') (j := i - 1) (by omega)
      have := rk_le (i := i' + 1) (j := i) (by omega)
      omega
    have a3 := Int.mul_le_mul_of_nonneg_right a1 (Int.le_of_lt hq')
    have b3 := Int.mul_le_mul_of_nonneg_right b1 (Int.le_of_lt hq)
    have e1 : 2 * Z * (Q' : Int) = 2 * (Z * Q') := Int.mul_assoc ..
    have e2 : 2 * Z' * (Q : Int) = 2 * (Z' * Q) := Int.mul_assoc ..
    have e3 : (rk i' + rk (i' + 1)) * (Q' : Int) * (Q : Int) = (rk i' + rk (i' + 1)) * (Q : Int) * (Q' : Int) := Int.mul_right_comm ..
    have e4 := Int.mul_le_mul_of_nonneg_right (Int.mul_le_mul_of_nonneg_right e0 (Int.le_of_lt hq)) (Int.le_of_lt hq')
    have p1 : (rk (i - 1) + rk i) * (Q : Int) * (Q' : Int) = 2 * Z * (Q' : Int) := by omega
    have p2 : 2 * Z' * (Q : Int) = (rk i' + rk (i' + 1)) * (Q' : Int) * (Q : Int) := by omega
    have p3 : (rk i' + rk (i' + 1)) * (Q : Int) * (Q' : Int) = (rk (i - 1) + rk i) * (Q : Int) * (Q' : Int) := by omega
    have q1 := a2 (Int.eq_of_mul_eq_mul_right (by omega) p1)
    have q2 := b2 (Int.eq_of_mul_eq_mul_right (by omega) p2)
    have q3 := Int.eq_of_mul_eq_mul_right (by omega) (Int.eq_of_mul_eq_mul_right (by omega) p3)
    have : i = i' + 1 := by
      rcases Int.lt_or_le (i' + 1) i with h | h
      · have := rk_lt (i := i') (j := i - 1) (by omega)
        have := rk_lt h
        omega
      · omega
    omega
  · exact hge

theorem Rd.same {Q : Nat} {j : Int} (hQ : 0 < Q) (h1 : -9218868437227405312 ≤ j) (h2 : j ≤ 9218868437227405312) : Rd Q (rk j * Q) j := by
  have hq : (0 : Int) < (Q : Int) := by omega
  have a1 := Int.mul_lt_mul_of_pos_right (rk_lt (i := j) (j := j + 1) (by omega)) hq
  have a2 := Int.mul_lt_mul_of_pos_right (rk_lt (i := j - 1) (j := j) (by omega)) hq
  refine ⟨h1, h2, fun _ => ?_, fun _ => ?_⟩ <;> rw [Int.add_mul] <;> exact ⟨by omega, fun _ => by omega⟩

theorem Rd.le {Q : Nat} {Z i j : Int} (hQ : 0 < Q) (h : Rd Q Z i) (h1 : -9218868437227405312 ≤ j) (h2 : j ≤ 9218868437227405312) (hle : Z ≤ rk j * Q) : i ≤ j :=
  h.mono hQ hQ (Rd.same hQ h1 h2) (Int.mul_le_mul_of_nonneg_right hle (by omega))
theorem Rd.ge {Q : Nat} {Z i j : Int} (hQ : 0 < Q) (h : Rd Q Z i) (h1 : -9218868437227405312 ≤ j) (h2 : j ≤ 9218868437227405312) (hle : rk j * Q ≤ Z) : j ≤ i :=
  (Rd.same hQ h1 h2).mono hQ hQ h (Int.mul_le_mul_of_nonneg_right hle (by omega))
theorem Rd.eq {Q : Nat} {i j : Int} (hQ : 0 < Q) (h : Rd Q (rk j * Q) i) (h1 : -9218868437227405312 ≤ j) (h2 : j ≤ 9218868437227405312) : i = j := by
  have := h.le hQ h1 h2 (Int.le_refl _)
  have := h.ge hQ h1 h2 (Int.le_refl _)
  omega
theorem Rd.uniq {Q : Nat} {Z i j : Int} (hQ : 0 < Q) (h : Rd Q Z i) (h' : Rd Q Z j) : i = j := by
  have := h.mono hQ hQ h' (Int.le_refl _)
  have := h'.mono hQ hQ h (Int.le_refl _)
  omega
/-- One rung further down is less; one further up is more. -/
theorem Rd.down {Q : Nat} {Z i : Int} (hQ : 0 < Q) (h : Rd Q Z i) (hi : -9218868437227405312 < i) : rk (i - 1) * Q < Z := by
  obtain ⟨a1, _⟩ := h.2.2.2 hi
  have hq : (0 : Int) < (Q : Int) := by omega
  have := Int.mul_lt_mul_of_pos_right (rk_lt (i := i - 1) (j := i) (by omega)) hq
  rw [Int.add_mul] at a1
  omega
theorem Rd.up {Q : Nat} {Z i : Int} (hQ : 0 < Q) (h : Rd Q Z i) (hi : i < 9218868437227405312) : Z < rk (i + 1) * Q := by
  obtain ⟨a1, _⟩ := h.2.2.1 hi
  have hq : (0 : Int) < (Q : Int) := by omega
  have := Int.mul_lt_mul_of_pos_right (rk_lt (i := i) (j := i + 1) (by omega)) hq
  rw [Int.add_mul] at a1
  omega

/-! words -/
def Word (b : Nat) : Prop := b < 18446744073709551616
/-- Not a NaN. -/
def NN (b : Nat) : Prop := b < 18446744073709551616 ∧ -9218868437227405312 ≤ ix b ∧ ix b ≤ 9218868437227405312
/-- Finite. -/
def Fi (b : Nat) : Prop := b < 18446744073709551616 ∧ -9218868437227405312 < ix b ∧ ix b < 9218868437227405312
theorem Fi.nn {b : Nat} (h : Fi b) : NN b := ⟨h.1, Int.le_of_lt h.2.1, Int.le_of_lt h.2.2⟩
/-- The number, in units of the least. -/
def kv (b : Nat) : Int := rk (ix b)
/-- The word is what Z of Q of the least is rounded to. -/
def IsR (Q : Nat) (Z : Int) (b : Nat) : Prop := b < 18446744073709551616 ∧ Rd Q Z (ix b)
theorem IsR.nn {Q : Nat} {Z : Int} {b : Nat} (h : IsR Q Z b) : NN b := ⟨h.1, h.2.1, h.2.2.1⟩

theorem ix_word (s : Bool) {r : Nat} (h : r ≤ 9218868437227405312) : Ieee.double.word s r < 18446744073709551616 ∧ ix (Ieee.double.word s r) = if s then -(r : Int) else r := by
  unfold Ieee.Format.word ix
  cases s
  · simp only [Bool.false_eq_true, if_false]
    rw [if_pos (by omega)]
    exact ⟨by omega, rfl⟩
  · simp only [if_true, d_sign]
    rw [if_neg (by omega)]
    exact ⟨by omega, by omega⟩

theorem IsR.of_near {Q M r : Nat} {s : Bool} {Z : Int} (hQ : 0 < Q) (h : NearN Q M r) (hs : s = true → Z = -(M : Int)) (ht : s = false → Z = M) : IsR Q Z (Ieee.double.word s r) := by
  obtain ⟨w1, w2⟩ := ix_word s h.1
  refine ⟨w1, ?_⟩
  rw [w2]
  cases s
  · rw [ht rfl]; exact Rd.of_near hQ h
  · rw [hs rfl]; exact (Rd.of_near hQ h).neg

theorem read_fi {b : Nat} (h : Fi b) : ∃ s m e, Ieee.double.read b = .number s m e ∧ -1074 ≤ e ∧ Ieee.signed s m (e + 1074).toNat = kv b := by
  obtain ⟨h1, h2, h3⟩ := h
  have hw : ∃ s r, r < 9218868437227405312 ∧ b = Ieee.double.word s r := by
    by_cases hs : b < 9223372036854775808
    · refine ⟨false, b, ?_, rfl⟩
      unfold ix at h2 h3
      rw [if_pos hs] at h2 h3
      omega
    · refine ⟨true, b - 9223372036854775808, ?_, ?_⟩
      · unfold ix at h2 h3
        rw [if_neg hs] at h2 h3
        omega
      · unfold Ieee.Format.word
        simp only [if_true, d_sign]
        omega
  obtain ⟨s, r, hr, rfl⟩ := hw
  obtain ⟨⟨s', m, e, g⟩, k⟩ := key_word s hr
  refine ⟨s', m, e, g, read_place g, ?_⟩
  unfold key at k
  rw [g] at k
  simp only [keyOf] at k
  rw [k]
  unfold kv
  rw [(ix_word s (Nat.le_of_lt hr)).2]
  have : rungK r = rg r := rfl
  rw [this]
  cases s
  · simp only [Bool.false_eq_true, if_false]; rw [rk_nat]
  · simp only [if_true]; rw [rk_neg, rk_nat]

theorem read_inf {b : Nat} (h : NN b) : ¬ Fi b → b = 9218868437227405312 ∧ ix b = 9218868437227405312 ∨ b = 18442240474082181120 ∧ ix b = -9218868437227405312 := by
  intro hf
  obtain ⟨h1, h2, h3⟩ := h
  unfold Fi at hf
  unfold ix at *
  by_cases hs : b < 9223372036854775808
  · rw [if_pos hs] at *
    left; omega
  · rw [if_neg hs] at *
    right; omega

end Go.Proofs.Ythajhpilfbijdaa
