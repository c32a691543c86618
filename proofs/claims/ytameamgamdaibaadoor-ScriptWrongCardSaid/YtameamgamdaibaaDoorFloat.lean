/- Whole numbers as floats: added, taken away, multiplied, compared: exactly, below 2 to the 53. -/
import Derived.Test.YtameamgamdaibaaDoorAbsA
namespace Go.Proofs.YtameamgamdaibaaDoor
open Go
set_option linter.unusedVariables false
set_option linter.unusedSimpArgs false
set_option maxRecDepth 20000

/-- The word's number is n. -/
def IsZ (b : Nat) (n : Int) : Prop :=
  ∃ (s : Bool) (m d : Nat), Ieee.double.read b = .number s m (-(d : Int)) ∧ m = n.natAbs * 2 ^ d ∧ (n ≠ 0 → s = decide (n < 0))

theorem signed_eq {s : Bool} {m d : Nat} {n : Int} (h : m = n.natAbs * 2 ^ d) (hs : n ≠ 0 → s = decide (n < 0)) (k : Nat) : Ieee.signed s m k = n * ((2 ^ (d + k) : Nat) : Int) := by
  unfold Ieee.signed
  subst h
  rw [Nat.shiftLeft_eq, Nat.mul_assoc, ← Nat.pow_add]
  by_cases hn : n = 0
  · subst hn; simp
  · have e := hs hn
    subst e
    rw [Int.natCast_mul]
    generalize ((2 ^ (d + k) : Nat) : Int) = p
    by_cases hlt : n < 0
    · have : ((n.natAbs : Nat) : Int) = -n := by omega
      simp [hlt, this, Int.neg_mul]
    · have : ((n.natAbs : Nat) : Int) = n := by omega
      simp [hlt, this]

theorem log2_mul_pow {N : Nat} (h : N ≠ 0) (d : Nat) : (N * 2 ^ d).log2 = N.log2 + d := by
  have hp : 0 < 2 ^ d := Nat.two_pow_pos d
  have h0 : N * 2 ^ d ≠ 0 := Nat.mul_ne_zero h (Nat.ne_of_gt hp)
  apply Nat.le_antisymm
  · have h1 : N < 2 ^ (N.log2 + 1) := (Nat.log2_lt h).1 (Nat.lt_succ_self _)
    have : N * 2 ^ d < 2 ^ (N.log2 + 1 + d) := by rw [Nat.pow_add]; exact Nat.mul_lt_mul_of_pos_right h1 hp
    have := (Nat.log2_lt h0).2 this
    omega
  · rw [Nat.le_log2 h0, Nat.pow_add]
    exact Nat.mul_le_mul_right _ ((Nat.le_log2 h).1 (Nat.le_refl _))

theorem cut_exact (s : Bool) {n drop M : Nat} (h : n = M * 2 ^ drop) (hM : M ≠ 0) : Ieee.Toward.even.cut s n drop = M := by
  have hp : 0 < 2 ^ drop := Nat.two_pow_pos drop
  have hg : 1 <<< min drop (n.log2 + 2) = 2 ^ drop := by
    rw [h, log2_mul_pow hM, Nat.min_eq_left (by omega), Nat.shiftLeft_eq, Nat.one_mul]
  unfold Ieee.Toward.cut
  simp only [hg]
  rw [h, Nat.mul_div_cancel _ hp, Nat.mul_mod_left]
  have : ¬ (2 ^ drop = 0) := Nat.ne_of_gt hp
  simp [this]

theorem d_sign : Ieee.double.signWeight = 9223372036854775808 := by decide +kernel
theorem d_binade : Ieee.double.binade = 4503599627370496 := by decide +kernel
theorem d_inf : Ieee.double.infRung = 9218868437227405312 := by decide +kernel
theorem d_least : Ieee.double.leastPlace = -1074 := by decide +kernel

theorem read_word (s : Bool) {E K : Nat} (h1 : 4503599627370496 ≤ K) (h2 : K < 9007199254740992) (hE : E ≤ 2000) : Ieee.double.read (Ieee.double.word s (E * 4503599627370496 + K)) = .number s K (-1074 + (E : Int)) := by
  unfold Ieee.Format.read Ieee.Format.word
  simp only [d_sign, d_binade, d_inf, d_least]
  cases s
  · have e1 : (E * 4503599627370496 + K) / 9223372036854775808 % 2 = 0 := by omega
    have e2 : (E * 4503599627370496 + K) % 9223372036854775808 = E * 4503599627370496 + K := by omega
    simp only [Bool.false_eq_true, if_false, e1, e2]
    rw [if_neg (by omega), if_pos (by omega)]
    congr 1 <;> omega
  · have e1 : (9223372036854775808 + (E * 4503599627370496 + K)) / 9223372036854775808 % 2 = 1 := by omega
    have e2 : (9223372036854775808 + (E * 4503599627370496 + K)) % 9223372036854775808 = E * 4503599627370496 + K := by omega
    simp only [if_true, e1, e2]
    rw [if_neg (by omega), if_pos (by omega)]
    congr 1 <;> omega

theorem write_int (s : Bool) {N : Nat} (d : Nat) (hN : N ≠ 0) (h : N < 9007199254740992) :
    Ieee.double.read (Ieee.double.nearest s (N * 2 ^ d) (-(d : Int))) = .number s (N * 2 ^ (52 - N.log2)) (-((52 - N.log2 : Nat) : Int)) := by
  have hl : N.log2 ≤ 52 := by
    have := (Nat.log2_lt hN).2 (show N < 2 ^ 53 by simpa using h)
    omega
  have hp : 0 < 2 ^ d := Nat.two_pow_pos d
  have h0 : N * 2 ^ d ≠ 0 := Nat.mul_ne_zero hN (Nat.ne_of_gt hp)
  have hf : Ieee.double.fractionBits = 52 := rfl
  unfold Ieee.Format.nearest
  rw [if_neg h0]
  simp only [log2_mul_pow hN, hf, d_least, d_binade, d_inf]
  have hlast : max (-(d : Int) + ((N.log2 + d : Nat) : Int) - ((52 : Nat) : Int)) (-1074) = (N.log2 : Int) - 52 := by omega
  rw [hlast]
  have hk : Ieee.Toward.even.cut s ((N * 2 ^ d) <<< (-(d : Int) - ((N.log2 : Int) - 52)).toNat) (((N.log2 : Int) - 52) - -(d : Int)).toNat = N * 2 ^ (52 - N.log2) := by
    refine cut_exact s ?_ (Nat.mul_ne_zero hN (Nat.ne_of_gt (Nat.two_pow_pos _)))
    rw [Nat.shiftLeft_eq, Nat.mul_assoc, ← Nat.pow_add, Nat.mul_assoc, ← Nat.pow_add]
    congr 2
    omega
  rw [hk]
  have hlo : 2 ^ N.log2 ≤ N := (Nat.le_log2 hN).1 (Nat.le_refl _)
  have hhi : N < 2 ^ (N.log2 + 1) := (Nat.log2_lt hN).1 (Nat.lt_succ_self _)
  have hpos : 0 < 2 ^ (52 - N.log2) := Nat.two_pow_pos _
  have k1 : 4503599627370496 ≤ N * 2 ^ (52 - N.log2) := by
    have := Nat.mul_le_mul_right (2 ^ (52 - N.log2)) hlo
    rw [← Nat.pow_add, show N.log2 + (52 - N.log2) = 52 by omega] at this
    exact this
  have k2 : N * 2 ^ (52 - N.log2) < 9007199254740992 := by
    have := Nat.mul_lt_mul_of_pos_right hhi hpos
    rw [← Nat.pow_add, show N.log2 + 1 + (52 - N.log2) = 53 by omega] at this
    exact this
  generalize N * 2 ^ (52 - N.log2) = K at k1 k2
  have he : (((N.log2 : Int) - 52) - -1074).toNat = N.log2 + 1022 := by omega
  rw [he, Nat.min_eq_left (by omega), read_word s k1 k2 (by omega)]
  congr 1
  omega

theorem read_zero (s : Bool) : Ieee.double.read (Ieee.double.word s 0) = .number s 0 (-1074) := by
  cases s <;> decide +kernel

theorem write_isZ {s : Bool} {n : Int} {d : Nat} (h : n.natAbs < 9007199254740992) (hs : n ≠ 0 → s = decide (n < 0)) : IsZ (Ieee.double.write (.number s (n.natAbs * 2 ^ d) (-(d : Int)))) n := by
  unfold Ieee.Format.write
  simp only
  by_cases hn : n = 0
  · subst hn
    have hz : ∀ d : Nat, 0 = (0 : Int).natAbs * 2 ^ d := fun d => by simp
    refine ⟨s, 0, 1074, ?_, hz 1074, fun h => absurd rfl h⟩
    have : Ieee.double.nearest s ((0 : Int).natAbs * 2 ^ d) (-(d : Int)) = Ieee.double.word s 0 := by
      unfold Ieee.Format.nearest
      simp
    rw [this, read_zero]
    rfl
  · exact ⟨s, _, _, write_int s d (by omega) h, rfl, hs⟩

theorem sum_isZ {dx dy : Ieee.Datum} {a b : Int} {s t : Bool} {m n i j : Nat} (hx : dx = .number s m (-(i : Int))) (hm : m = a.natAbs * 2 ^ i) (hs : a ≠ 0 → s = decide (a < 0))
    (hy : dy = .number t n (-(j : Int))) (hn : n = b.natAbs * 2 ^ j) (ht : b ≠ 0 → t = decide (b < 0)) (h : (a + b).natAbs < 9007199254740992) :
    ∃ r, (dx.sum dy).map Ieee.double.write = some r ∧ IsZ r (a + b) := by
  subst hx hy
  simp only [Ieee.Datum.sum, Option.map_some]
  refine ⟨_, rfl, ?_⟩
  have hb : min (-(i : Int)) (-(j : Int)) = -((max i j : Nat) : Int) := by omega
  have e1 : (-(i : Int) - -((max i j : Nat) : Int)).toNat = max i j - i := by omega
  have e2 : (-(j : Int) - -((max i j : Nat) : Int)).toNat = max i j - j := by omega
  rw [hb, e1, e2, signed_eq hm hs, signed_eq hn ht]
  rw [show i + (max i j - i) = max i j by omega, show j + (max i j - j) = max i j by omega, ← Int.add_mul, Int.natAbs_mul, Int.natAbs_natCast]
  refine write_isZ h fun hne => ?_
  have hp : (0 : Int) < ((2 ^ max i j : Nat) : Int) := by
    have := Nat.two_pow_pos (max i j)
    omega
  rw [if_neg (Int.mul_ne_zero hne (Int.ne_of_gt hp))]
  generalize ((2 ^ max i j : Nat) : Int) = p at hp
  by_cases hlt : a + b < 0
  · have := Int.mul_neg_of_neg_of_pos hlt hp
    simp [hlt, this]
  · have := Int.mul_nonneg (show 0 ≤ a + b by omega) (Int.le_of_lt hp)
    have h2 : ¬ (a + b) * p < 0 := by omega
    simp [hlt, h2]

theorem IsZ.add {x y : Nat} {a b : Int} (hx : IsZ x a) (hy : IsZ y b) (h : (a + b).natAbs < 9007199254740992) : IsZ (fop .add .f64 x y) (a + b) := by
  obtain ⟨s, m, i, h1, h2, h3⟩ := hx
  obtain ⟨t, n, j, g1, g2, g3⟩ := hy
  obtain ⟨r, e, hr⟩ := sum_isZ h1 h2 h3 g1 g2 g3 h
  have : floatBits .add .f64 x y = some r := e
  unfold fop
  rw [this]
  exact hr

theorem IsZ.sub {x y : Nat} {a b : Int} (hx : IsZ x a) (hy : IsZ y b) (h : (a - b).natAbs < 9007199254740992) : IsZ (fop .sub .f64 x y) (a - b) := by
  obtain ⟨s, m, i, h1, h2, h3⟩ := hx
  obtain ⟨t, n, j, g1, g2, g3⟩ := hy
  have g1' : (Ieee.double.read y).opposite = .number (!t) n (-(j : Int)) := by rw [g1]; rfl
  have g2' : n = (-b).natAbs * 2 ^ j := by rw [Int.natAbs_neg]; exact g2
  have g3' : -b ≠ 0 → (!t) = decide (-b < 0) := by
    intro hb
    rw [g3 (by omega)]
    by_cases hlt : b < 0
    · have : ¬ (-b < 0) := by omega
      rw [decide_eq_true hlt, decide_eq_false this]
      rfl
    · have : -b < 0 := by omega
      rw [decide_eq_false hlt, decide_eq_true this]
      rfl
  obtain ⟨r, e, hr⟩ := sum_isZ h1 h2 h3 g1' g2' g3' (by rw [← Int.sub_eq_add_neg]; exact h)
  have : floatBits .sub .f64 x y = some r := e
  unfold fop
  rw [this, Int.sub_eq_add_neg]
  exact hr

theorem IsZ.mul {x y : Nat} {a b : Int} (hx : IsZ x a) (hy : IsZ y b) (h : (a * b).natAbs < 9007199254740992) : IsZ (fop .mul .f64 x y) (a * b) := by
  obtain ⟨s, m, i, h1, h2, h3⟩ := hx
  obtain ⟨t, n, j, g1, g2, g3⟩ := hy
  have e : floatBits .mul .f64 x y = some (Ieee.double.write (.number (s ^^ t) (m * n) (-(i : Int) + -(j : Int)))) := by
    show ((Ieee.double.read x).product (Ieee.double.read y)).map Ieee.double.write = _
    rw [h1, g1]
    rfl
  unfold fop
  rw [e]
  simp only [Option.getD_some]
  have e2 : m * n = (a * b).natAbs * 2 ^ (i + j) := by
    rw [h2, g2, Int.natAbs_mul, Nat.pow_add]
    simp only [Nat.mul_assoc, Nat.mul_comm, Nat.mul_left_comm]
  have e3 : -(i : Int) + -(j : Int) = -((i + j : Nat) : Int) := by omega
  rw [e2, e3]
  refine write_isZ h fun hne => ?_
  have ha : a ≠ 0 := fun h => hne (by rw [h, Int.zero_mul])
  have hb : b ≠ 0 := fun h => hne (by rw [h, Int.mul_zero])
  rw [h3 ha, g3 hb]
  by_cases p : a < 0 <;> by_cases q : b < 0
  · have : ¬ a * b < 0 := by
      have := Int.mul_pos_of_neg_of_neg p q
      omega
    simp [p, q, this]
  · have : a * b < 0 := Int.mul_neg_of_neg_of_pos p (by omega)
    simp [p, q, this]
  · have : a * b < 0 := Int.mul_neg_of_pos_of_neg (by omega) q
    simp [p, q, this]
  · have : ¬ a * b < 0 := by
      have := Int.mul_pos (show 0 < a by omega) (show 0 < b by omega)
      omega
    simp [p, q, this]

theorem IsZ.ofInt {n : Int} (h : n.natAbs < 9007199254740992) : IsZ (floatOfInt .f64 n) n := by
  have := write_isZ (s := decide (n < 0)) (n := n) (d := 0) h fun _ => rfl
  have e : Ieee.double.write (.number (decide (n < 0)) (n.natAbs * 2 ^ 0) (-((0 : Nat) : Int))) = floatOfInt .f64 n := by
    unfold floatOfInt FloatKind.nearest FloatKind.encode
    simp [FloatKind.format]
  rw [← e]
  exact this

/-- How two whole numbers stand to each other. -/
theorem IsZ.order {x y : Nat} {a b : Int} (hx : IsZ x a) (hy : IsZ y b) : Ieee.double.order x y = some (compare a b) := by
  obtain ⟨s, m, i, h1, h2, h3⟩ := hx
  obtain ⟨t, n, j, g1, g2, g3⟩ := hy
  unfold Ieee.Format.order
  rw [h1, g1]
  simp only [Ieee.Datum.order]
  have hb : min (-(i : Int)) (-(j : Int)) = -((max i j : Nat) : Int) := by omega
  have e1 : (-(i : Int) - -((max i j : Nat) : Int)).toNat = max i j - i := by omega
  have e2 : (-(j : Int) - -((max i j : Nat) : Int)).toNat = max i j - j := by omega
  rw [hb, e1, e2, signed_eq h2 h3, signed_eq g2 g3, show i + (max i j - i) = max i j by omega, show j + (max i j - j) = max i j by omega]
  have hp : (0 : Int) < ((2 ^ max i j : Nat) : Int) := by
    have := Nat.two_pow_pos (max i j)
    omega
  generalize ((2 ^ max i j : Nat) : Int) = p at hp
  congr 1
  simp only [compare, compareOfLessAndEq]
  by_cases hlt : a < b
  · rw [if_pos hlt, if_pos (Int.mul_lt_mul_of_pos_right hlt hp)]
  · by_cases heq : a = b
    · subst heq; simp
    · have hgt : b < a := by omega
      have := Int.mul_lt_mul_of_pos_right hgt hp
      rw [if_neg hlt, if_neg heq, if_neg (by omega), if_neg (by omega)]

theorem IsZ.eql {x y : Nat} {a : Int} (hx : IsZ x a) (hy : IsZ y a) : fcmp .eql .f64 x y = some true := by
  have := hx.order hy
  show some (FloatKind.f64.format.order x y == some .eq) = some true
  have h2 : FloatKind.f64.format.order x y = some (compare a a) := this
  rw [h2]
  simp [compare, compareOfLessAndEq]

end Go.Proofs.YtameamgamdaibaaDoor
