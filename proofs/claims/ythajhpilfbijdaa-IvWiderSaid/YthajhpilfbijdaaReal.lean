/- Rounding of the model's floats: the nearest rung, of two the even one, of any number whole or broken. -/
import Derived.Test.YthajhpilfbijdaaFloat
namespace Go.Proofs.Ythajhpilfbijdaa
open Go
set_option linter.unusedVariables false
set_option maxRecDepth 20000

/-- The size of a rung, in units of the least. -/
def rg (r : Nat) : Nat := if r < 4503599627370496 then r else (4503599627370496 + r % 4503599627370496) * 2 ^ (r / 4503599627370496 - 1)

theorem rg_lt (r : Nat) : rg r < rg (r + 1) := by
  unfold rg
  by_cases h1 : r + 1 < 4503599627370496
  · rw [if_pos (by omega), if_pos h1]; omega
  · rw [if_neg h1]
    by_cases h2 : r < 4503599627370496
    · have : r + 1 = 4503599627370496 := by omega
      rw [if_pos h2, this]
      simp
      omega
    · rw [if_neg h2]
      have hp : 0 < 2 ^ (r / 4503599627370496 - 1) := Nat.two_pow_pos _
      by_cases h3 : r % 4503599627370496 + 1 < 4503599627370496
      · have e1 : (r + 1) / 4503599627370496 = r / 4503599627370496 := by omega
        have e2 : (r + 1) % 4503599627370496 = r % 4503599627370496 + 1 := by omega
        rw [e1, e2]
        exact Nat.mul_lt_mul_of_pos_right (by omega) hp
      · have e1 : (r + 1) / 4503599627370496 - 1 = (r / 4503599627370496 - 1) + 1 := by omega
        have e2 : (r + 1) % 4503599627370496 = 0 := by omega
        rw [e1, e2, Nat.pow_succ]
        have : (4503599627370496 + r % 4503599627370496) * 2 ^ (r / 4503599627370496 - 1) < 4503599627370496 * 2 * 2 ^ (r / 4503599627370496 - 1) := Nat.mul_lt_mul_of_pos_right (by omega) hp
        rw [Nat.mul_assoc, Nat.mul_comm 2] at this
        simpa using this

theorem rg_mono {a b : Nat} (h : a < b) : rg a < rg b := by
  induction b with
  | zero => omega
  | succ n ih =>
    have := rg_lt n
    rcases Nat.lt_or_ge a n with h1 | h1
    · have := ih h1; omega
    · have : a = n := by omega
      subst this; assumption

theorem rg_mono' {a b : Nat} (h : a ≤ b) : rg a ≤ rg b := by
  rcases Nat.lt_or_ge a b with h1 | h1
  · exact Nat.le_of_lt (rg_mono h1)
  · have : a = b := by omega
    subst this; exact Nat.le_refl _

theorem rg_zero : rg 0 = 0 := rfl

/-- A rung by its binade and its significand. -/
theorem rg_at {E k : Nat} (h : E = 0 ∨ 4503599627370496 ≤ k) (hk : k ≤ 9007199254740992) : rg (E * 4503599627370496 + k) = k * 2 ^ E := by
  unfold rg
  by_cases h1 : E * 4503599627370496 + k < 4503599627370496
  · have : E = 0 := by omega
    subst this
    rw [if_pos h1]; simp
  · rw [if_neg h1]
    by_cases h2 : k < 9007199254740992
    · have e1 : (E * 4503599627370496 + k) / 4503599627370496 - 1 = E := by omega
      have e2 : 4503599627370496 + (E * 4503599627370496 + k) % 4503599627370496 = k := by omega
      rw [e1, e2]
    · have e1 : (E * 4503599627370496 + k) / 4503599627370496 - 1 = E + 1 := by omega
      have e2 : (E * 4503599627370496 + k) % 4503599627370496 = 0 := by omega
      have e3 : k = 4503599627370496 * 2 := by omega
      rw [e1, e2, e3, Nat.pow_succ, Nat.mul_assoc, Nat.mul_comm 2 (2 ^ E)]

/-- What 'cut' tells: the nearest, and between two the even one. -/
theorem cut_spec (s : Bool) {M D k : Nat} (hk : Ieee.Toward.even.cut s M D = k) :
    2 * M ≤ (2 * k + 1) * 2 ^ D ∧ 2 * k * 2 ^ D ≤ 2 * M + 2 ^ D ∧ (2 * M = (2 * k + 1) * 2 ^ D → k % 2 = 0) ∧ (2 * k * 2 ^ D = 2 * M + 2 ^ D → k % 2 = 0) ∧ M / 2 ^ D ≤ k ∧ k ≤ M / 2 ^ D + 1 := by
  have key : ∀ G, 0 < G → k = M / G + (decide (G < 2 * (M % G)) || (G == 2 * (M % G) && M / G % 2 == 1)).toNat → 2 * M ≤ (2 * k + 1) * G ∧ 2 * k * G ≤ 2 * M + G ∧ (2 * M = (2 * k + 1) * G → k % 2 = 0) ∧ (2 * k * G = 2 * M + G → k % 2 = 0) ∧ M / G ≤ k ∧ k ≤ M / G + 1 := by
    intro G hG hk
    have hdm := Nat.div_add_mod M G
    have hlt := Nat.mod_lt M hG
    generalize M / G = q at *
    generalize M % G = t at *
    by_cases h1 : G < 2 * t
    · have e : k = q + 1 := by rw [decide_eq_true h1, Bool.true_or] at hk; exact hk
      subst e
      have e1 : (2 * (q + 1) + 1) * G = 2 * (G * q) + 3 * G := by rw [Nat.add_mul, Nat.mul_assoc, Nat.add_mul, Nat.mul_comm q]; omega
      have e2 : 2 * (q + 1) * G = 2 * (G * q) + 2 * G := by rw [Nat.mul_assoc, Nat.add_mul, Nat.mul_comm q]; omega
      rw [e1, e2]
      generalize G * q = Gq at *
      refine ⟨?_, ?_, ?_, ?_, ?_, ?_⟩ <;> omega
    · by_cases h2 : G = 2 * t
      · have e1 : ∀ k, (2 * k + 1) * G = 2 * (G * k) + G := by intro k; rw [Nat.add_mul, Nat.mul_assoc, Nat.mul_comm k]; omega
        have e2 : ∀ k, 2 * k * G = 2 * (G * k) := by intro k; rw [Nat.mul_assoc, Nat.mul_comm k]
        by_cases h3 : q % 2 = 1
        · have e : k = q + 1 := by rw [decide_eq_false h1, beq_iff_eq.2 h2, beq_iff_eq.2 h3] at hk; exact hk
          subst e
          rw [e1, e2, Nat.mul_add, Nat.mul_one]
          generalize G * q = Gq at *
          refine ⟨?_, ?_, ?_, ?_, ?_, ?_⟩ <;> omega
        · have e : k = q := by rw [decide_eq_false h1, beq_eq_false_iff_ne.2 h3, Bool.and_false] at hk; exact hk
          subst e
          rw [e1, e2]
          generalize G * k = Gq at *
          refine ⟨?_, ?_, ?_, ?_, ?_, ?_⟩ <;> omega
      · have e : k = q := by rw [decide_eq_false h1, beq_eq_false_iff_ne.2 h2, Bool.false_and] at hk; exact hk
        subst e
        have e1 : (2 * k + 1) * G = 2 * (G * k) + G := by rw [Nat.add_mul, Nat.mul_assoc, Nat.mul_comm k]; omega
        have e2 : 2 * k * G = 2 * (G * k) := by rw [Nat.mul_assoc, Nat.mul_comm k]
        rw [e1, e2]
        generalize G * k = Gq at *
        refine ⟨?_, ?_, ?_, ?_, ?_, ?_⟩ <;> omega
  unfold Ieee.Toward.cut at hk
  simp only [Nat.shiftLeft_eq, Nat.one_mul] at hk
  rcases Nat.lt_or_ge (M.log2 + 2) D with hD | hD
  · -- all is dropped
    have hM : M < 2 ^ (M.log2 + 1) := Nat.lt_log2_self
    have h2 : 2 ^ (M.log2 + 1) * 2 ≤ 2 ^ D := by rw [← Nat.pow_succ]; exact Nat.pow_le_pow_right (by decide) (by omega)
    have h3 : 2 ^ (M.log2 + 2) = 2 ^ (M.log2 + 1) * 2 := Nat.pow_succ ..
    rw [Nat.min_eq_right (by omega), h3] at hk
    generalize 2 ^ (M.log2 + 1) = A at *
    have e1 : M / (A * 2) = 0 := Nat.div_eq_of_lt (by omega)
    have e2 : M % (A * 2) = M := Nat.mod_eq_of_lt (by omega)
    rw [e1, e2] at hk
    have e3 : ¬ A * 2 < 2 * M := by omega
    have e4 : ¬ A * 2 = 2 * M := by omega
    rw [decide_eq_false e3, beq_eq_false_iff_ne.2 e4, Bool.false_and] at hk
    have hk : k = 0 := hk.symm
    subst hk
    refine key _ (Nat.two_pow_pos D) ?_
    generalize 2 ^ D = G at *
    have e5 : M / G = 0 := Nat.div_eq_of_lt (by omega)
    have e6 : M % G = M := Nat.mod_eq_of_lt (by omega)
    rw [e5, e6]
    have e7 : ¬ G < 2 * M := by omega
    have e8 : ¬ G = 2 * M := by omega
    rw [decide_eq_false e7, beq_eq_false_iff_ne.2 e8, Bool.false_and]
    rfl
  · rw [Nat.min_eq_left (by omega)] at hk
    refine key _ (Nat.two_pow_pos D) ?_
    rw [← hk]

/-- The rung that is nearest. -/
def nearR (m : Nat) (e : Int) : Nat :=
  if m = 0 then 0 else
  let last := max (e + m.log2 - 52) (-1074)
  min ((last + 1074).toNat * 4503599627370496 + Ieee.Toward.even.cut false (m <<< (e - last).toNat) (last - e).toNat) 9218868437227405312

/-- A rung r is nearest to M of Q of the least, of two the even one. -/
def NearN (Q M r : Nat) : Prop :=
  r ≤ 9218868437227405312 ∧ (r < 9218868437227405312 → 2 * M ≤ (rg r + rg (r + 1)) * Q ∧ (2 * M = (rg r + rg (r + 1)) * Q → r % 2 = 0)) ∧
  (0 < r → (rg (r - 1) + rg r) * Q ≤ 2 * M ∧ ((rg (r - 1) + rg r) * Q = 2 * M → r % 2 = 0))

theorem near_cap {R Q Z r : Nat} (ha : 2 * Z ≤ (rg R + rg (R + 1)) * Q ∧ (2 * Z = (rg R + rg (R + 1)) * Q → R % 2 = 0))
    (hb : 0 < R → (rg (R - 1) + rg R) * Q ≤ 2 * Z ∧ ((rg (R - 1) + rg R) * Q = 2 * Z → R % 2 = 0)) (hr : r = min R 9218868437227405312) : NearN Q Z r := by
  rcases Nat.lt_or_ge R 9218868437227405312 with hR | hR
  · rw [Nat.min_eq_left (Nat.le_of_lt hR)] at hr
    subst hr
    exact ⟨Nat.le_of_lt hR, fun _ => ha, hb⟩
  · rw [Nat.min_eq_right hR] at hr
    subst hr
    refine ⟨Nat.le_refl _, fun h => absurd h (Nat.lt_irrefl _), fun h0 => ⟨?_, fun _ => by decide⟩⟩
    obtain ⟨hb1, _⟩ := hb (Nat.lt_of_lt_of_le h0 hR)
    refine Nat.le_trans (Nat.mul_le_mul_right _ (Nat.add_le_add ?_ ?_)) hb1
    · exact rg_mono' (Nat.sub_le_sub_right hR 1)
    · exact rg_mono' hR

theorem near_main {E D K k n Z r : Nat} (hn : 0 < n) (hD : D = E + K) (c1 : 2 * Z ≤ (2 * k + 1) * (2 ^ D * n)) (c2 : 2 * k * (2 ^ D * n) ≤ 2 * Z + 2 ^ D * n)
    (c3 : 2 * Z = (2 * k + 1) * (2 ^ D * n) → k % 2 = 0) (c4 : 2 * k * (2 ^ D * n) = 2 * Z + 2 ^ D * n → k % 2 = 0)
    (hlo : E = 0 ∨ 4503599627370496 ≤ k ∧ 4503599627370496 * (2 ^ D * n) ≤ Z) (hhi : k ≤ 9007199254740992 ∧ (k = 9007199254740992 → Z < 9007199254740992 * (2 ^ D * n)))
    (hr : r = min (E * 4503599627370496 + k) 9218868437227405312) : NearN (2 ^ K * n) Z r := by
  have hP : 0 < 2 ^ K * n := Nat.mul_pos (Nat.two_pow_pos K) hn
  obtain ⟨hk2, hk9⟩ := hhi
  have hpd : 0 < 2 ^ D * n := Nat.mul_pos (Nat.two_pow_pos D) hn
  have hEk : E = 0 ∨ 4503599627370496 ≤ k := hlo.elim Or.inl fun h => Or.inr h.1
  have hDE : 2 ^ D * n = 2 ^ E * (2 ^ K * n) := by rw [hD, Nat.pow_add, Nat.mul_assoc]
  have hrg : rg (E * 4503599627370496 + k) * (2 ^ K * n) = k * (2 ^ D * n) := by rw [rg_at hEk hk2, hDE, Nat.mul_assoc]
  have hpar : k % 2 = 0 → (E * 4503599627370496 + k) % 2 = 0 := by omega
  have ha : 2 * Z ≤ (rg (E * 4503599627370496 + k) + rg (E * 4503599627370496 + k + 1)) * (2 ^ K * n) ∧ (2 * Z = (rg (E * 4503599627370496 + k) + rg (E * 4503599627370496 + k + 1)) * (2 ^ K * n) → (E * 4503599627370496 + k) % 2 = 0) := by
    have e1 : (2 * k + 1) * (2 ^ D * n) = 2 * (k * (2 ^ D * n)) + (2 ^ D * n) := by rw [Nat.add_mul, Nat.mul_assoc]; omega
    rw [e1] at c1 c3
    rw [Nat.add_mul, hrg]
    rcases Nat.lt_or_ge k 9007199254740992 with hlt | hge
    · have hrg1 : rg (E * 4503599627370496 + k + 1) * (2 ^ K * n) = k * (2 ^ D * n) + 2 ^ D * n := by
        rw [Nat.add_assoc, rg_at (by omega) (by omega), hDE, Nat.mul_assoc, Nat.add_mul, Nat.one_mul]
      rw [hrg1]
      refine ⟨by omega, fun h => hpar (c3 (by omega))⟩
    · have hk3 : k = 9007199254740992 := by omega
      have hrg1 : k * (2 ^ D * n) ≤ rg (E * 4503599627370496 + k + 1) * (2 ^ K * n) := by
        rw [← hrg]; exact Nat.mul_le_mul_right _ (Nat.le_of_lt (rg_lt _))
      have hM2 : 2 * Z < 2 * (k * (2 ^ D * n)) := by have := hk9 hk3; rw [hk3]; omega
      refine ⟨by omega, fun h => hpar (by omega)⟩
  have hb : 0 < E * 4503599627370496 + k → (rg (E * 4503599627370496 + k - 1) + rg (E * 4503599627370496 + k)) * (2 ^ K * n) ≤ 2 * Z ∧ ((rg (E * 4503599627370496 + k - 1) + rg (E * 4503599627370496 + k)) * (2 ^ K * n) = 2 * Z → (E * 4503599627370496 + k) % 2 = 0) := by
    intro hpos
    rw [Nat.mul_assoc] at c2 c4
    rw [Nat.add_mul, hrg]
    by_cases hbase : E = 0 ∨ 4503599627370496 < k
    · obtain ⟨j, rfl⟩ : ∃ j, k = j + 1 := ⟨k - 1, by omega⟩
      have hrg1 : rg (E * 4503599627370496 + (j + 1) - 1) * (2 ^ K * n) = j * (2 ^ D * n) := by
        rw [show E * 4503599627370496 + (j + 1) - 1 = E * 4503599627370496 + j by omega, rg_at (by omega) (by omega), hDE, Nat.mul_assoc]
      rw [hrg1]
      rw [Nat.add_mul, Nat.one_mul] at *
      refine ⟨by omega, fun h => hpar (c4 (by omega))⟩
    · have hk3 : k = 4503599627370496 := by omega
      have hM2 : k * (2 ^ D * n) ≤ Z := by
        rcases hlo with h | ⟨_, h⟩
        · omega
        · rw [hk3]; exact h
      have hlt : rg (E * 4503599627370496 + k - 1) * (2 ^ K * n) < k * (2 ^ D * n) := by
        rw [← hrg]; exact Nat.mul_lt_mul_of_pos_right (rg_mono (by omega)) hP
      refine ⟨by omega, fun h => hpar (by omega)⟩
  exact near_cap ha hb hr

theorem nearest_eq (s : Bool) (m : Nat) (e : Int) : Ieee.double.nearest s m e = Ieee.double.word s (nearR m e) := by
  have hf : Ieee.double.fractionBits = 52 := rfl
  have hs : ∀ n d, Ieee.Toward.even.cut s n d = Ieee.Toward.even.cut false n d := fun n d => rfl
  unfold Ieee.Format.nearest nearR
  by_cases h : m = 0
  · rw [if_pos h, if_pos h]
  · rw [if_neg h, if_neg h]
    simp only [hf, d_binade, d_inf, d_least, hs]
    rfl

theorem cut_bounds {M D L k : Nat} (hL : M.log2 = L) (h0 : M ≠ 0) (hk : Ieee.Toward.even.cut false M D = k) (hD : L ≤ D + 52) : k ≤ 9007199254740992 ∧ (k = 9007199254740992 → M < 9007199254740992 * 2 ^ D) ∧ (D + 52 = L → 4503599627370496 ≤ k ∧ 4503599627370496 * 2 ^ D ≤ M) := by
  obtain ⟨_, _, _, _, c5, c6⟩ := cut_spec false hk
  have hML : 2 ^ M.log2 ≤ M := Nat.log2_self_le h0
  have hMU : M < 2 ^ (M.log2 + 1) := Nat.lt_log2_self
  rw [hL] at hML hMU
  have hpd : 0 < 2 ^ D := Nat.two_pow_pos D
  have hU : M < 9007199254740992 * 2 ^ D := by
    have h1 : 2 ^ (L + 1) ≤ 2 ^ (53 + D) := Nat.pow_le_pow_right (by decide) (by omega)
    rw [Nat.pow_add 2 53 D] at h1
    have : (2 : Nat) ^ 53 = 9007199254740992 := by decide
    rw [this] at h1
    omega
  have := (Nat.div_lt_iff_lt_mul hpd).2 hU
  refine ⟨by omega, fun _ => hU, fun he => ?_⟩
  have h2 : 4503599627370496 * 2 ^ D ≤ M := by
    have h1 : 2 ^ L = 2 ^ (52 + D) := by rw [← he, Nat.add_comm]
    rw [Nat.pow_add 2 52 D] at h1
    have : (2 : Nat) ^ 52 = 4503599627370496 := by decide
    rw [this] at h1
    omega
  have := (Nat.le_div_iff_mul_le hpd).2 h2
  exact ⟨by omega, h2⟩

theorem nearR_eq {m : Nat} {e : Int} (h : m ≠ 0) : nearR m e = min ((max (e + m.log2 - 52) (-1074) + 1074).toNat * 4503599627370496 + Ieee.Toward.even.cut false (m <<< (e - max (e + m.log2 - 52) (-1074)).toNat) (max (e + m.log2 - 52) (-1074) - e).toNat) 9218868437227405312 := by
  unfold nearR
  rw [if_neg h]

theorem near_zero {Q : Nat} : NearN Q 0 0 :=
  ⟨by decide, fun _ => ⟨by omega, fun h => by decide⟩, fun h => absurd h (by decide)⟩

/-- To round a whole number of some place. -/
theorem near_spec {M J K : Nat} {e : Int} (he : e = (J : Int) - K - 1074) : NearN (2 ^ K) (M * 2 ^ J) (nearR M e) := by
  by_cases h0 : M = 0
  · subst h0
    rw [Nat.zero_mul]
    exact near_zero
  · have hr := nearR_eq (e := e) h0
    rw [show (2 : Nat) ^ K = 2 ^ K * 1 by omega]
    rcases Int.lt_or_le (max (e + (M.log2 : Int) - 52) (-1074)) e with hc | hc
    · -- shifted up: nothing is dropped
      generalize hlast : max (e + (M.log2 : Int) - 52) (-1074) = last at hc hr
      obtain ⟨a, ha⟩ : ∃ a : Nat, e - last = a := ⟨(e - last).toNat, by omega⟩
      have e1 : (e - last).toNat = a := by omega
      have e2 : (last - e).toNat = 0 := by omega
      rw [e1, e2, Nat.shiftLeft_eq] at hr
      obtain ⟨E, hE⟩ : ∃ E : Nat, last + 1074 = E := ⟨(last + 1074).toNat, by omega⟩
      have e3 : (last + 1074).toNat = E := by omega
      rw [e3] at hr
      have hJ : J = E + K + a := by omega
      have hkk : Ieee.Toward.even.cut false (M * 2 ^ a) 0 = M * 2 ^ a := by
        obtain ⟨_, _, _, _, c5, c6⟩ := cut_spec false (M := M * 2 ^ a) (D := 0) rfl
        simp only [Nat.pow_zero, Nat.div_one] at c5 c6
        obtain ⟨c1, c2, c3, c4, _, _⟩ := cut_spec false (M := M * 2 ^ a) (D := 0) rfl
        omega
      have hlog : (M * 2 ^ a).log2 = M.log2 + a := log2_mul_pow h0 a
      have hne : M * 2 ^ a ≠ 0 := Nat.mul_ne_zero h0 (Nat.ne_of_gt (Nat.two_pow_pos a))
      obtain ⟨b1, b2, b3⟩ := cut_bounds (D := 0) hlog hne hkk (by omega)
      rw [hkk] at hr
      have hZ : M * 2 ^ J = (M * 2 ^ a) * 2 ^ (E + K) := by rw [hJ, Nat.pow_add, Nat.mul_comm (2 ^ (E + K)), Nat.mul_assoc]
      rw [hZ]
      have hpE : 0 < 2 ^ (E + K) := Nat.two_pow_pos _
      generalize M * 2 ^ a = k at *
      refine near_main (D := E + K) (by decide) rfl ?_ ?_ ?_ ?_ ?_ ⟨b1, ?_⟩ hr <;> (try rw [Nat.mul_one])
      · rw [Nat.add_mul, Nat.mul_assoc]; omega
      · rw [Nat.mul_assoc]; omega
      · rw [Nat.add_mul, Nat.mul_assoc]; omega
      · rw [Nat.mul_assoc]; omega
      · by_cases hE0 : E = 0
        · exact Or.inl hE0
        · obtain ⟨g1, g2⟩ := b3 (by omega)
          refine Or.inr ⟨g1, Nat.mul_le_mul_right _ g1⟩
      · intro h; have := b2 h; simp at this; omega
    · obtain ⟨D, hD⟩ : ∃ D : Nat, max (e + (M.log2 : Int) - 52) (-1074) - e = D := ⟨(max (e + (M.log2 : Int) - 52) (-1074) - e).toNat, by omega⟩
      obtain ⟨E, hE⟩ : ∃ E : Nat, max (e + (M.log2 : Int) - 52) (-1074) + 1074 = E := ⟨(max (e + (M.log2 : Int) - 52) (-1074) + 1074).toNat, by omega⟩
      have e1 : (e - max (e + (M.log2 : Int) - 52) (-1074)).toNat = 0 := by omega
      have e2 : (max (e + (M.log2 : Int) - 52) (-1074) - e).toNat = D := by omega
      have e3 : (max (e + (M.log2 : Int) - 52) (-1074) + 1074).toNat = E := by omega
      simp only [e1, e2, e3, Nat.shiftLeft_zero] at hr
      generalize hk : Ieee.Toward.even.cut false M D = k at hr
      obtain ⟨b1, b2, b3⟩ := cut_bounds rfl h0 hk (by omega)
      obtain ⟨c1, c2, c3, c4, _, _⟩ := cut_spec false hk
      have hDJ : D + J = E + K := by omega
      have hpj : 0 < 2 ^ J := Nat.two_pow_pos J
      have hpp : 2 ^ (D + J) = 2 ^ D * 2 ^ J := Nat.pow_add ..
      refine near_main (D := D + J) (by decide) hDJ ?_ ?_ ?_ ?_ ?_ ⟨b1, ?_⟩ hr <;> rw [Nat.mul_one, hpp]
      · have := Nat.mul_le_mul_right (2 ^ J) c1
        rw [Nat.mul_assoc, Nat.mul_assoc] at this; exact this
      · have := Nat.mul_le_mul_right (2 ^ J) c2
        rw [Nat.add_mul, Nat.mul_assoc, Nat.mul_assoc 2 M] at this; exact this
      · intro h
        refine c3 (Nat.eq_of_mul_eq_mul_right hpj ?_)
        rw [Nat.mul_assoc, Nat.mul_assoc]; exact h
      · intro h
        refine c4 (Nat.eq_of_mul_eq_mul_right hpj ?_)
        rw [Nat.add_mul, Nat.mul_assoc, Nat.mul_assoc 2 M]; exact h
      · by_cases hE0 : E = 0
        · exact Or.inl hE0
        · obtain ⟨g1, g2⟩ := b3 (by omega)
          refine Or.inr ⟨g1, ?_⟩
          rw [← Nat.mul_assoc]; exact Nat.mul_le_mul_right _ g2
      · intro h
        rw [← Nat.mul_assoc]; exact Nat.mul_lt_mul_of_pos_right (b2 h) hpj

theorem quot_up {A n q t s M X : Nat} (hn : 0 < n) (hdm : n * q + t = A) (hlt : t < n) (hs : s = 0 ∧ t = 0 ∨ s = 1 ∧ 0 < t) (hM : 2 * q + s = M) (hX : M ≤ 2 * X) : 2 * A ≤ 2 * (X * n) ∧ (2 * A = 2 * (X * n) → M = 2 * X) := by
  have hqX : s = 0 ∧ q ≤ X ∨ s = 1 ∧ q + 1 ≤ X := by omega
  rcases hqX with ⟨h1, h2⟩ | ⟨h1, h2⟩
  · have ht : t = 0 := by omega
    have := Nat.mul_le_mul_right n h2
    rw [Nat.mul_comm] at this
    refine ⟨by omega, fun h => ?_⟩
    have h3 : n * q = n * X := by rw [Nat.mul_comm n X]; omega
    have := Nat.eq_of_mul_eq_mul_left hn h3
    omega
  · have := Nat.mul_le_mul_right n h2
    rw [Nat.add_mul, Nat.mul_comm q] at this
    exact ⟨by omega, fun h => by omega⟩

theorem quot_dn {A n q t s M X : Nat} (hn : 0 < n) (hdm : n * q + t = A) (hlt : t < n) (hs : s = 0 ∧ t = 0 ∨ s = 1 ∧ 0 < t) (hM : 2 * q + s = M) (hX : 2 * X ≤ M) : 2 * (X * n) ≤ 2 * A ∧ (2 * (X * n) = 2 * A → 2 * X = M) := by
  have h2 : X ≤ q := by omega
  have := Nat.mul_le_mul_right n h2
  rw [Nat.mul_comm q] at this
  refine ⟨by omega, fun h => ?_⟩
  have h3 : t = 0 := by omega
  have h4 : X * n = q * n := by rw [Nat.mul_comm q]; omega
  have := Nat.eq_of_mul_eq_mul_right hn h4
  omega

theorem quot_cut {A n k G M : Nat} (hn : 0 < n) (hM : 2 * (A / n) + (A % n != 0).toNat = M) (c1 : 2 * M ≤ (2 * k + 1) * (4 * G)) (c2 : 2 * k * (4 * G) ≤ 2 * M + 4 * G)
    (c3 : 2 * M = (2 * k + 1) * (4 * G) → k % 2 = 0) (c4 : 2 * k * (4 * G) = 2 * M + 4 * G → k % 2 = 0) :
    2 * (2 * A) ≤ (2 * k + 1) * (4 * G * n) ∧ (2 * (2 * A) = (2 * k + 1) * (4 * G * n) → k % 2 = 0) ∧ 2 * k * (4 * G * n) ≤ 2 * (2 * A) + 4 * G * n ∧ (2 * k * (4 * G * n) = 2 * (2 * A) + 4 * G * n → k % 2 = 0) ∧
    (∀ B, B * (4 * G) ≤ M → B * (4 * G * n) ≤ 2 * A) ∧ ∀ B, M < B * (4 * G) → 2 * A < B * (4 * G * n) := by
  have hdm := Nat.div_add_mod A n
  have hlt := Nat.mod_lt A hn
  have hs : (A % n != 0).toNat = 0 ∧ A % n = 0 ∨ (A % n != 0).toNat = 1 ∧ 0 < A % n := by
    by_cases h : A % n = 0
    · left; simp [h]
    · right
      have : 0 < A % n := by omega
      refine ⟨?_, this⟩
      simp [h]
  generalize A / n = q at *
  generalize A % n = t at *
  generalize (t != 0).toNat = s at *
  have up : ∀ X, M ≤ 2 * X → 2 * A ≤ 2 * (X * n) ∧ (2 * A = 2 * (X * n) → M = 2 * X) := fun X h => quot_up hn hdm hlt hs hM h
  have dn : ∀ X, 2 * X ≤ M → 2 * (X * n) ≤ 2 * A ∧ (2 * (X * n) = 2 * A → 2 * X = M) := fun X h => quot_dn hn hdm hlt hs hM h
  clear hdm hlt hs hM
  have ee : ∀ c, c * (4 * G) = 4 * (c * G) := fun c => Nat.mul_left_comm c 4 G
  have en : ∀ c, c * (4 * G * n) = 4 * (c * G * n) := fun c => by rw [Nat.mul_assoc 4, Nat.mul_left_comm c 4, Nat.mul_assoc c]
  have e2 : ∀ c, c * (2 * G) * n = 2 * (c * G * n) := fun c => by rw [Nat.mul_left_comm c 2, Nat.mul_assoc 2]
  have e3 : ∀ c, c * (2 * G) = 2 * (c * G) := fun c => Nat.mul_left_comm c 2 G
  refine ⟨?_, ?_, ?_, ?_, ?_, ?_⟩
  · have := (up ((2 * k + 1) * G) (by rw [ee] at c1; omega)).1
    rw [en]; omega
  · intro h
    rw [en] at h
    rw [ee] at c1 c3
    have := (up ((2 * k + 1) * G) (by omega)).2 (by omega)
    exact c3 (by omega)
  · rcases Nat.eq_zero_or_pos k with h | h
    · subst h; simp
    · obtain ⟨j, rfl⟩ : ∃ j, k = j + 1 := ⟨k - 1, by omega⟩
      have e5 : ∀ c, 2 * (j + 1) * c = (2 * j + 1) * c + c := fun c => by rw [show 2 * (j + 1) = 2 * j + 1 + 1 by omega, Nat.add_mul (2 * j + 1) 1, Nat.one_mul]
      rw [e5, ee] at c2
      have := (dn ((2 * j + 1) * G) (by omega)).1
      rw [e5, en]; omega
  · intro h
    rcases Nat.eq_zero_or_pos k with h0 | h0
    · subst h0; rfl
    · obtain ⟨j, rfl⟩ : ∃ j, k = j + 1 := ⟨k - 1, by omega⟩
      have e5 : ∀ c, 2 * (j + 1) * c = (2 * j + 1) * c + c := fun c => by rw [show 2 * (j + 1) = 2 * j + 1 + 1 by omega, Nat.add_mul (2 * j + 1) 1, Nat.one_mul]
      rw [e5, ee] at c2 c4
      rw [e5, en] at h
      have := (dn ((2 * j + 1) * G) (by omega)).2 (by omega)
      exact c4 (by omega)
  · intro B h
    have := (dn (B * (2 * G)) (by rw [ee] at h; rw [e3]; omega)).1
    rw [e2] at this
    rw [en]; omega
  · intro B h
    rw [ee] at h
    obtain ⟨h1, h2⟩ := up (B * (2 * G)) (by rw [e3]; omega)
    rw [e2, e3] at *
    rw [en]
    rcases Nat.lt_or_ge (2 * A) (4 * (B * G * n)) with h3 | h3
    · exact h3
    · have := h2 (by omega)
      omega

/-- To round a quotient, told with one digit that says whether anything is left. -/
theorem near_quot {A n J K M : Nat} {e : Int} (hn : 0 < n) (hM : 2 * (A / n) + (A % n != 0).toNat = M) (hL : 54 ≤ M.log2) (he : e = (J : Int) - K - 1074) : NearN (2 ^ K * n) (2 * A * 2 ^ J) (nearR M e) := by
  have h0 : M ≠ 0 := by intro h; rw [h] at hL; simp at hL
  have hr := nearR_eq (e := e) h0
  obtain ⟨D, hD⟩ : ∃ D : Nat, max (e + (M.log2 : Int) - 52) (-1074) - e = D := ⟨(max (e + (M.log2 : Int) - 52) (-1074) - e).toNat, by omega⟩
  obtain ⟨E, hE⟩ : ∃ E : Nat, max (e + (M.log2 : Int) - 52) (-1074) + 1074 = E := ⟨(max (e + (M.log2 : Int) - 52) (-1074) + 1074).toNat, by omega⟩
  have e1 : (e - max (e + (M.log2 : Int) - 52) (-1074)).toNat = 0 := by omega
  have e2 : (max (e + (M.log2 : Int) - 52) (-1074) - e).toNat = D := by omega
  have e3 : (max (e + (M.log2 : Int) - 52) (-1074) + 1074).toNat = E := by omega
  simp only [e1, e2, e3, Nat.shiftLeft_zero] at hr
  generalize hk : Ieee.Toward.even.cut false M D = k at hr
  obtain ⟨b1, b2, b3⟩ := cut_bounds rfl h0 hk (by omega)
  obtain ⟨c1, c2, c3, c4, _, _⟩ := cut_spec false hk
  have hDJ : D + J = E + K := by omega
  have hEL : E = 0 ∨ D + 52 = M.log2 := by omega
  have hD2 : 2 ≤ D := by omega
  clear e1 e2 e3 hE hD he hk
  have hpj : 0 < 2 ^ J := Nat.two_pow_pos J
  have hpp : 2 ^ (D + J) * n = 2 ^ D * n * 2 ^ J := by rw [Nat.pow_add, Nat.mul_right_comm]
  obtain ⟨G, hG⟩ : ∃ G, 2 ^ D = 4 * G := ⟨2 ^ (D - 2), by rw [show (4 : Nat) = 2 ^ 2 by rfl, ← Nat.pow_add]; congr 1; omega⟩
  rw [hG] at c1 c2 c3 c4 b2 b3 hpp
  obtain ⟨a1, a3, a2, a4, alo, ahi⟩ := quot_cut hn hM c1 c2 c3 c4
  have hlo := fun h => (b3 h).imp id (alo _)
  have hhi := fun h => ahi _ (b2 h)
  clear alo ahi b2 b3 c1 c2 c3 c4 hG hM
  generalize 4 * G * n = V at *
  refine near_main (D := D + J) hn hDJ ?_ ?_ ?_ ?_ ?_ ⟨b1, ?_⟩ hr <;> rw [hpp]
  · have := Nat.mul_le_mul_right (2 ^ J) a1
    rw [Nat.mul_assoc 2 (2 * A), Nat.mul_assoc (2 * k + 1)] at this; exact this
  · have := Nat.mul_le_mul_right (2 ^ J) a2
    rw [Nat.add_mul, Nat.mul_assoc, Nat.mul_assoc 2 (2 * A)] at this; exact this
  · intro h
    refine a3 (Nat.eq_of_mul_eq_mul_right hpj ?_)
    rw [Nat.mul_assoc 2 (2 * A), Nat.mul_assoc (2 * k + 1)]; exact h
  · intro h
    refine a4 (Nat.eq_of_mul_eq_mul_right hpj ?_)
    rw [Nat.add_mul, Nat.mul_assoc, Nat.mul_assoc 2 (2 * A)]; exact h
  · rcases hEL with h | h
    · exact Or.inl h
    · obtain ⟨g1, g2⟩ := hlo h
      refine Or.inr ⟨g1, ?_⟩
      rw [← Nat.mul_assoc]; exact Nat.mul_le_mul_right _ g2
  · intro h
    rw [← Nat.mul_assoc]; exact Nat.mul_lt_mul_of_pos_right (hhi h) hpj

end Go.Proofs.Ythajhpilfbijdaa
