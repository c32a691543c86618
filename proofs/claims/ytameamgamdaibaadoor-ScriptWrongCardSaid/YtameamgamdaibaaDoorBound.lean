/- FloatK / Next / Real / Step / Whole / Bound / Dyad0: several texts in one. -/
import Derived.Test.YtameamgamdaibaaDoorFloat
import Derived.Test.YtameamgamdaibaaDoorWithin
/-!  Finite floats by their size, in units of the least: how they stand to each other; the next word up is more. -/
namespace Go.Proofs.YtameamgamdaibaaDoor
open Go
set_option linter.unusedVariables false
set_option maxRecDepth 20000

/-- A finite float, in units of the least. -/
def keyOf : Ieee.Datum → Int
  | .number s m e => Ieee.signed s m (e + 1074).toNat
  | _ => 0
def key (b : Nat) : Int := keyOf (Ieee.double.read b)
def Fin (b : Nat) : Prop := ∃ s m e, Ieee.double.read b = .number s m e

theorem read_place {b : Nat} {s : Bool} {m : Nat} {e : Int} (h : Ieee.double.read b = .number s m e) : -1074 ≤ e := by
  unfold Ieee.Format.read at h
  simp only [d_sign, d_binade, d_inf, d_least] at h
  split at h
  · injection h with _ _ h; omega
  · split at h
    · injection h with _ _ h; omega
    · split at h <;> cases h

theorem signed_shift (s : Bool) (m a b : Nat) : Ieee.signed s m (a + b) = Ieee.signed s m a * ((2 ^ b : Nat) : Int) := by
  unfold Ieee.signed
  rw [Nat.shiftLeft_eq, Nat.shiftLeft_eq, Nat.pow_add, ← Nat.mul_assoc]
  cases s
  · simp only [Bool.false_eq_true, if_false, Int.natCast_mul]
  · simp only [if_true, Int.natCast_mul, Int.neg_mul]

theorem order_key {x y : Nat} (hx : Fin x) (hy : Fin y) : Ieee.double.order x y = some (compare (key x) (key y)) := by
  obtain ⟨s, m, i, h1⟩ := hx
  obtain ⟨t, n, j, g1⟩ := hy
  have hi := read_place h1
  have hj := read_place g1
  unfold Ieee.Format.order key
  rw [h1, g1]
  simp only [Ieee.Datum.order, keyOf]
  have e1 : (i + 1074).toNat = (i - min i j).toNat + (min i j + 1074).toNat := by omega
  have e2 : (j + 1074).toNat = (j - min i j).toNat + (min i j + 1074).toNat := by omega
  rw [e1, e2, signed_shift, signed_shift]
  have hp : (0 : Int) < ((2 ^ (min i j + 1074).toNat : Nat) : Int) := by
    have := Nat.two_pow_pos (min i j + 1074).toNat
    omega
  generalize ((2 ^ (min i j + 1074).toNat : Nat) : Int) = p at hp
  generalize Ieee.signed s m (i - min i j).toNat = a
  generalize Ieee.signed t n (j - min i j).toNat = b
  congr 1
  simp only [compare, compareOfLessAndEq]
  by_cases hlt : a < b
  · rw [if_pos hlt, if_pos (Int.mul_lt_mul_of_pos_right hlt hp)]
  · by_cases heq : a = b
    · subst heq; simp
    · have := Int.mul_lt_mul_of_pos_right (show b < a by omega) hp
      rw [if_neg hlt, if_neg heq, if_neg (by omega), if_neg (by omega)]

/-- The size of a rung. -/
def rungK (r : Nat) : Nat := if r < 4503599627370496 then r else (4503599627370496 + r % 4503599627370496) * 2 ^ (r / 4503599627370496 - 1)

theorem rungK_up (r : Nat) : rungK r < rungK (r + 1) := by
  unfold rungK
  by_cases h1 : r + 1 < 4503599627370496
  · rw [if_pos (by omega), if_pos h1]; omega
  · rw [if_neg h1]
    by_cases h2 : r < 4503599627370496
    · have : r + 1 = 4503599627370496 := by omega
      rw [if_pos h2, this]
      simp
      omega
    · rw [if_neg h2]
      have hp : 0 < 2 ^ (r / 4503599627370496 - 1) := Nat.two_pow_pos _
      by_cases h3 : r % 4503599627370496 + 1 < 4503599627370496
      · have e1 : (r + 1) / 4503599627370496 = r / 4503599627370496 := by omega
        have e2 : (r + 1) % 4503599627370496 = r % 4503599627370496 + 1 := by omega
        rw [e1, e2]
        exact Nat.mul_lt_mul_of_pos_right (by omega) hp
      · have e1 : (r + 1) / 4503599627370496 - 1 = (r / 4503599627370496 - 1) + 1 := by omega
        have e2 : (r + 1) % 4503599627370496 = 0 := by omega
        rw [e1, e2, Nat.pow_succ]
        have : (4503599627370496 + r % 4503599627370496) * 2 ^ (r / 4503599627370496 - 1) < 4503599627370496 * 2 * 2 ^ (r / 4503599627370496 - 1) := Nat.mul_lt_mul_of_pos_right (by omega) hp
        rw [Nat.mul_assoc, Nat.mul_comm 2] at this
        simpa using this

/-- A word with its sign and its rung. -/
theorem key_word (s : Bool) {r : Nat} (h : r < 9218868437227405312) : Fin (Ieee.double.word s r) ∧ key (Ieee.double.word s r) = if s then -(rungK r : Int) else rungK r := by
  have hr : Ieee.double.read (Ieee.double.word s r) = if r < 4503599627370496 then .number s r (-1074) else .number s (4503599627370496 + r % 4503599627370496) (-1074 + (r / 4503599627370496 - 1 : Nat)) := by
    unfold Ieee.Format.read Ieee.Format.word
    simp only [d_sign, d_binade, d_inf, d_least]
    cases s
    · have e1 : r / 9223372036854775808 % 2 = 0 := by omega
      have e2 : r % 9223372036854775808 = r := by omega
      simp only [Bool.false_eq_true, if_false, e1, e2, if_pos h]
      rfl
    · have e1 : (9223372036854775808 + r) / 9223372036854775808 % 2 = 1 := by omega
      have e2 : (9223372036854775808 + r) % 9223372036854775808 = r := by omega
      simp only [if_true, e1, e2, if_pos h]
      rfl
  unfold key Fin rungK
  rw [hr]
  by_cases hb : r < 4503599627370496
  · rw [if_pos hb, if_pos hb]
    refine ⟨⟨_, _, _, rfl⟩, ?_⟩
    simp [keyOf, Ieee.signed]
  · rw [if_neg hb, if_neg hb]
    refine ⟨⟨_, _, _, rfl⟩, ?_⟩
    have e : (-1074 + ((r / 4503599627370496 - 1 : Nat) : Int) + 1074).toNat = r / 4503599627370496 - 1 := by omega
    simp only [keyOf, Ieee.signed, e, Nat.shiftLeft_eq]

theorem IsZ.key {x : Nat} {n : Int} (h : IsZ x n) : Fin x ∧ key x = n * ((2 ^ 1074 : Nat) : Int) := by
  obtain ⟨s, m, d, h1, h2, h3⟩ := h
  refine ⟨⟨_, _, _, h1⟩, ?_⟩
  have hd := read_place h1
  unfold Go.Proofs.YtameamgamdaibaaDoor.key
  rw [h1]
  simp only [keyOf]
  rw [signed_eq h2 h3, show d + (-(d : Int) + 1074).toNat = 1074 by omega]

end Go.Proofs.YtameamgamdaibaaDoor

/-!  Next / NextKey / NextUp: several texts in one. -/
/-!  The next float down, and up: of a positive number and of a negative one. -/
namespace Go.Proofs.YtameamgamdaibaaDoor
open Go
set_option linter.unusedVariables false
set_option maxRecDepth 100000

noncomputable def askX (f : FuncId) : Nat := if f == 42 then 3 else if f == 45 then 0 else 2
def isU (n : Nat) : Ans := ⟨fun _ => .int .u64 (Int.ofNat n), []⟩

theorem cmp_self {x : Nat} (h : Fin x) : cmpV Tryd.prog .neq 31 (.float .f64 x) (.float .f64 x) = some false := by
  have h2 : FloatKind.f64.format.order x x = some (compare (key x) (key x)) := order_key h h
  show (if FloatKind.f64 = FloatKind.f64 then (if isArith .neq then none else fcmp .neq .f64 x x) else none) = some false
  simp only [if_true, isArith, Bool.false_eq_true, if_false, fcmp]
  rw [h2]
  simp [compare, compareOfLessAndEq]

theorem ord_inf {x : Nat} (h : Fin x) : FloatKind.f64.format.order x 18442240474082181120 = some .gt ∧ FloatKind.f64.format.order 18442240474082181120 x = some .lt := by
  obtain ⟨s, m, e, hx⟩ := h
  have hi : Ieee.double.read 18442240474082181120 = .infinity true := by decide +kernel
  constructor
  · show (Ieee.double.read x).order (Ieee.double.read 18442240474082181120) = some .gt
    rw [hx, hi]; rfl
  · show (Ieee.double.read 18442240474082181120).order (Ieee.double.read x) = some .lt
    rw [hx, hi]; rfl

theorem fin_0 : Fin 0 ∧ key 0 = 0 := by
  have := key_word false (r := 0) (by decide)
  have e : Ieee.double.word false 0 = 0 := rfl
  rw [e] at this
  exact ⟨this.1, by simpa [rungK] using this.2⟩

theorem row_bits {x : Nat} (h : Fin x) : (orcD 12).row 42 #[.float .f64 x] = some (.int .u64 (Int.ofNat x)) := by
  have hn : isNan .f64 x = false := by
    obtain ⟨s, m, e, hx⟩ := h
    show (Ieee.double.read x).isNaN = false
    rw [hx]; rfl
  have e : (orcD 12).row 42 #[.float .f64 x] = if isNan .f64 x then none else some (.int .u64 (Int.ofNat x)) := by kernel_rfl
  rw [e, hn]
  rfl

theorem fc (op : BinOp) (h : isArith op = false) (x y : Nat) : cmpV Tryd.prog op 31 (.float .f64 x) (.float .f64 y) = fcmp op .f64 x y := by
  show (if FloatKind.f64 = FloatKind.f64 then (if isArith op then none else fcmp op .f64 x y) else none) = _
  rw [if_pos rfl, if_neg (by rw [h]; decide)]

theorem cmps {x : Nat} (h : Fin x) (h0 : key x ≠ 0) :
    fcmp .eql .f64 x 18442240474082181120 = some false ∧ fcmp .eql .f64 x 0 = some false ∧ fcmp .gtr .f64 18442240474082181120 x = some false ∧ fcmp .gtr .f64 x 0 = some (decide (0 < key x)) := by
  obtain ⟨o1, o2⟩ := ord_inf h
  have o3 : FloatKind.f64.format.order x 0 = some (compare (key x) (key 0)) := order_key h fin_0.1
  rw [fin_0.2] at o3
  simp only [fcmp, o1, o2, o3]
  refine ⟨rfl, ?_, rfl, ?_⟩
  · simp only [compare, compareOfLessAndEq]
    by_cases hl : key x < 0
    · simp [hl]
    · simp [hl, h0]
  · simp only [compare, compareOfLessAndEq]
    by_cases hl : key x < 0
    · have : ¬ 0 < key x := by omega
      simp [hl, this]
    · have : 0 < key x := by omega
      simp [hl, h0, this]

noncomputable def nObls (x : Nat) (c : Bool) : List Obl :=
  [.cmp .neq 31 (.float .f64 x) (.float .f64 x) false, .cmp .neq 31 (.float .f64 18442240474082181120) (.float .f64 18442240474082181120) false,
   .cmp .eql 31 (.float .f64 x) (.float .f64 18442240474082181120) false, .cmp .eql 31 (.float .f64 x) (.float .f64 0) false,
   .cmp .gtr 31 (.float .f64 18442240474082181120) (.float .f64 x) false, .cmp .gtr 31 (.float .f64 x) (.float .f64 0) c,
   .row (orcD 12).row 42 #[.float .f64 x] (.int .u64 (Int.ofNat x))]

theorem nObls_ok {x : Nat} (h : Fin x) (h0 : key x ≠ 0) : okAll Tryd.prog (nObls x (decide (0 < key x))) := by
  obtain ⟨c1, c2, c3, c4⟩ := cmps h h0
  exact ⟨cmp_self h, (by kernel_rfl : cmpV Tryd.prog .neq 31 (.float .f64 18442240474082181120) (.float .f64 18442240474082181120) = some false), (fc _ rfl _ _).trans c1, (fc _ rfl _ _).trans c2, (fc _ rfl _ _).trans c3, (fc _ rfl _ _).trans c4, row_bits h, trivial⟩



end Go.Proofs.YtameamgamdaibaaDoor

/-!  The next float down is less. -/
namespace Go.Proofs.YtameamgamdaibaaDoor
open Go
set_option linter.unusedVariables false
set_option maxRecDepth 20000

theorem fin_word {x : Nat} (hx : x < 18446744073709551616) (h : Fin x) : ∃ s r, r < 9218868437227405312 ∧ x = Ieee.double.word s r ∧ r = x % 9223372036854775808 := by
  have hr : x % 9223372036854775808 < 9218868437227405312 := by
    obtain ⟨s, m, e, h⟩ := h
    unfold Ieee.Format.read at h
    simp only [d_sign, d_binade, d_inf, d_least] at h
    split at h
    · omega
    · split at h
      · assumption
      · split at h <;> cases h
  by_cases hs : x < 9223372036854775808
  · refine ⟨false, _, hr, ?_, rfl⟩
    unfold Ieee.Format.word
    simp only [Bool.false_eq_true, if_false]
    omega
  · refine ⟨true, _, hr, ?_, rfl⟩
    unfold Ieee.Format.word
    simp only [if_true, d_sign]
    omega

theorem wrap_u64 {n : Int} (h0 : 0 ≤ n) (h : n < 18446744073709551616) : IntKind.u64.wrap n = n := by
  have hb : IntKind.u64.bits = 64 := rfl
  have hs : IntKind.u64.signed = false := rfl
  unfold IntKind.wrap
  simp only [hb, hs, Bool.false_and, Bool.false_eq_true, if_false]
  have e1 : (2 : Int) ^ 64 = 18446744073709551616 := by decide
  rw [e1]
  omega

theorem rungK_pos {r : Nat} (h : rungK r ≠ 0) : 0 < r := by
  rcases Nat.eq_zero_or_pos r with h0 | h0
  · subst h0; simp [rungK] at h
  · exact h0


end Go.Proofs.YtameamgamdaibaaDoor

/-!  The next float up is more; and both at a zero. -/
namespace Go.Proofs.YtameamgamdaibaaDoor
open Go
set_option linter.unusedVariables false
set_option maxRecDepth 100000

theorem ord_pinf {x : Nat} (h : Fin x) : FloatKind.f64.format.order x 9218868437227405312 = some .lt ∧ FloatKind.f64.format.order 9218868437227405312 x = some .gt := by
  obtain ⟨s, m, e, hx⟩ := h
  have hi : Ieee.double.read 9218868437227405312 = .infinity false := by decide +kernel
  constructor
  · show (Ieee.double.read x).order (Ieee.double.read 9218868437227405312) = some .lt
    rw [hx, hi]; rfl
  · show (Ieee.double.read 9218868437227405312).order (Ieee.double.read x) = some .gt
    rw [hx, hi]; rfl

theorem cmps_up {x : Nat} (h : Fin x) : fcmp .eql .f64 x 9218868437227405312 = some false ∧ fcmp .gtr .f64 9218868437227405312 x = some true := by
  obtain ⟨o1, o2⟩ := ord_pinf h
  simp only [fcmp, o1, o2]
  exact ⟨rfl, rfl⟩

theorem eql_zero {x : Nat} (h : Fin x) (h0 : key x = 0) : fcmp .eql .f64 x 0 = some true := by
  have o3 : FloatKind.f64.format.order x 0 = some (compare (key x) (key 0)) := order_key h fin_0.1
  rw [fin_0.2, h0] at o3
  simp only [fcmp, o3]
  rfl
theorem eql_ninf {x : Nat} (h : Fin x) : fcmp .eql .f64 x 18442240474082181120 = some false := by
  simp only [fcmp, (ord_inf h).1]
  rfl

noncomputable def uObls (x : Nat) (c : Bool) : List Obl :=
  [.cmp .neq 31 (.float .f64 x) (.float .f64 x) false, .cmp .neq 31 (.float .f64 9218868437227405312) (.float .f64 9218868437227405312) false,
   .cmp .eql 31 (.float .f64 x) (.float .f64 9218868437227405312) false, .cmp .eql 31 (.float .f64 x) (.float .f64 0) false,
   .cmp .gtr 31 (.float .f64 9218868437227405312) (.float .f64 x) true, .cmp .gtr 31 (.float .f64 x) (.float .f64 0) c,
   .row (orcD 12).row 42 #[.float .f64 x] (.int .u64 (Int.ofNat x))]

theorem pinf_self : cmpV Tryd.prog .neq 31 (.float .f64 9218868437227405312) (.float .f64 9218868437227405312) = some false := by kernel_rfl
theorem ninf_self : cmpV Tryd.prog .neq 31 (.float .f64 18442240474082181120) (.float .f64 18442240474082181120) = some false := by kernel_rfl

theorem uObls_ok {x : Nat} (h : Fin x) (h0 : key x ≠ 0) : okAll Tryd.prog (uObls x (decide (0 < key x))) := by
  obtain ⟨_, c2, _, c4⟩ := cmps h h0
  obtain ⟨u1, u2⟩ := cmps_up h
  exact ⟨cmp_self h, pinf_self, (fc _ rfl _ _).trans u1, (fc _ rfl _ _).trans c2, (fc _ rfl _ _).trans u2, (fc _ rfl _ _).trans c4, row_bits h, trivial⟩






end Go.Proofs.YtameamgamdaibaaDoor

/-!  Real / RealZ / RealOp: several texts in one. -/
/-!  Rounding of the model's floats: the nearest rung, of two the even one, of any number whole or broken. -/
namespace Go.Proofs.YtameamgamdaibaaDoor
open Go
set_option linter.unusedVariables false
set_option maxRecDepth 20000

/-- The size of a rung, in units of the least. -/
def rg (r : Nat) : Nat := if r < 4503599627370496 then r else (4503599627370496 + r % 4503599627370496) * 2 ^ (r / 4503599627370496 - 1)

theorem rg_lt (r : Nat) : rg r < rg (r + 1) := by
  unfold rg
  by_cases h1 : r + 1 < 4503599627370496
  · rw [if_pos (by omega), if_pos h1]; omega
  · rw [if_neg h1]
    by_cases h2 : r < 4503599627370496
    · have : r + 1 = 4503599627370496 := by omega
      rw [if_pos h2, this]
      simp
      omega
    · rw [if_neg h2]
      have hp : 0 < 2 ^ (r / 4503599627370496 - 1) := Nat.two_pow_pos _
      by_cases h3 : r % 4503599627370496 + 1 < 4503599627370496
      · have e1 : (r + 1) / 4503599627370496 = r / 4503599627370496 := by omega
        have e2 : (r + 1) % 4503599627370496 = r % 4503599627370496 + 1 := by omega
        rw [e1, e2]
        exact Nat.mul_lt_mul_of_pos_right (by omega) hp
      · have e1 : (r + 1) / 4503599627370496 - 1 = (r / 4503599627370496 - 1) + 1 := by omega
        have e2 : (r + 1) % 4503599627370496 = 0 := by omega
        rw [e1, e2, Nat.pow_succ]
        have : (4503599627370496 + r % 4503599627370496) * 2 ^ (r / 4503599627370496 - 1) < 4503599627370496 * 2 * 2 ^ (r / 4503599627370496 - 1) := Nat.mul_lt_mul_of_pos_right (by omega) hp
        rw [Nat.mul_assoc, Nat.mul_comm 2] at this
        simpa using this

theorem rg_mono {a b : Nat} (h : a < b) : rg a < rg b := by
  induction b with
  | zero => omega
  | succ n ih =>
    have := rg_lt n
    rcases Nat.lt_or_ge a n with h1 | h1
    · have := ih h1; omega
    · have : a = n := by omega
      subst this; assumption

theorem rg_mono' {a b : Nat} (h : a ≤ b) : rg a ≤ rg b := by
  rcases Nat.lt_or_ge a b with h1 | h1
  · exact Nat.le_of_lt (rg_mono h1)
  · have : a = b := by omega
    subst this; exact Nat.le_refl _

theorem rg_zero : rg 0 = 0 := rfl

/-- A rung by its binade and its significand. -/
theorem rg_at {E k : Nat} (h : E = 0 ∨ 4503599627370496 ≤ k) (hk : k ≤ 9007199254740992) : rg (E * 4503599627370496 + k) = k * 2 ^ E := by
  unfold rg
  by_cases h1 : E * 4503599627370496 + k < 4503599627370496
  · have : E = 0 := by omega
    subst this
    rw [if_pos h1]; simp
  · rw [if_neg h1]
    by_cases h2 : k < 9007199254740992
    · have e1 : (E * 4503599627370496 + k) / 4503599627370496 - 1 = E := by omega
      have e2 : 4503599627370496 + (E * 4503599627370496 + k) % 4503599627370496 = k := by omega
      rw [e1, e2]
    · have e1 : (E * 4503599627370496 + k) / 4503599627370496 - 1 = E + 1 := by omega
      have e2 : (E * 4503599627370496 + k) % 4503599627370496 = 0 := by omega
      have e3 : k = 4503599627370496 * 2 := by omega
      rw [e1, e2, e3, Nat.pow_succ, Nat.mul_assoc, Nat.mul_comm 2 (2 ^ E)]

/-- What 'cut' tells: the nearest, and between two the even one. -/
theorem cut_spec (s : Bool) {M D k : Nat} (hk : Ieee.Toward.even.cut s M D = k) :
    2 * M ≤ (2 * k + 1) * 2 ^ D ∧ 2 * k * 2 ^ D ≤ 2 * M + 2 ^ D ∧ (2 * M = (2 * k + 1) * 2 ^ D → k % 2 = 0) ∧ (2 * k * 2 ^ D = 2 * M + 2 ^ D → k % 2 = 0) ∧ M / 2 ^ D ≤ k ∧ k ≤ M / 2 ^ D + 1 := by
  have key : ∀ G, 0 < G → k = M / G + (decide (G < 2 * (M % G)) || (G == 2 * (M % G) && M / G % 2 == 1)).toNat → 2 * M ≤ (2 * k + 1) * G ∧ 2 * k * G ≤ 2 * M + G ∧ (2 * M = (2 * k + 1) * G → k % 2 = 0) ∧ (2 * k * G = 2 * M + G → k % 2 = 0) ∧ M / G ≤ k ∧ k ≤ M / G + 1 := by
    intro G hG hk
    have hdm := Nat.div_add_mod M G
    have hlt := Nat.mod_lt M hG
    generalize M / G = q at *
    generalize M % G = t at *
    by_cases h1 : G < 2 * t
    · have e : k = q + 1 := by rw [decide_eq_true h1, Bool.true_or] at hk; exact hk
      subst e
      have e1 : (2 * (q + 1) + 1) * G = 2 * (G * q) + 3 * G := by rw [Nat.add_mul, Nat.mul_assoc, Nat.add_mul, Nat.mul_comm q]; omega
      have e2 : 2 * (q + 1) * G = 2 * (G * q) + 2 * G := by rw [Nat.mul_assoc, Nat.add_mul, Nat.mul_comm q]; omega
      rw [e1, e2]
      generalize G * q = Gq at *
      refine ⟨?_, ?_, ?_, ?_, ?_, ?_⟩ <;> omega
    · by_cases h2 : G = 2 * t
      · have e1 : ∀ k, (2 * k + 1) * G = 2 * (G * k) + G := by intro k; rw [Nat.add_mul, Nat.mul_assoc, Nat.mul_comm k]; omega
        have e2 : ∀ k, 2 * k * G = 2 * (G * k) := by intro k; rw [Nat.mul_assoc, Nat.mul_comm k]
        by_cases h3 : q % 2 = 1
        · have e : k = q + 1 := by rw [decide_eq_false h1, beq_iff_eq.2 h2, beq_iff_eq.2 h3] at hk; exact hk
          subst e
          rw [e1, e2, Nat.mul_add, Nat.mul_one]
          generalize G * q = Gq at *
          refine ⟨?_, ?_, ?_, ?_, ?_, ?_⟩ <;> omega
        · have e : k = q := by rw [decide_eq_false h1, beq_eq_false_iff_ne.2 h3, Bool.and_false] at hk; exact hk
          subst e
          rw [e1, e2]
          generalize G * k = Gq at *
          refine ⟨?_, ?_, ?_, ?_, ?_, ?_⟩ <;> omega
      · have e : k = q := by rw [decide_eq_false h1, beq_eq_false_iff_ne.2 h2, Bool.false_and] at hk; exact hk
        subst e
        have e1 : (2 * k + 1) * G = 2 * (G * k) + G := by rw [Nat.add_mul, Nat.mul_assoc, Nat.mul_comm k]; omega
        have e2 : 2 * k * G = 2 * (G * k) := by rw [Nat.mul_assoc, Nat.mul_comm k]
        rw [e1, e2]
        generalize G * k = Gq at *
        refine ⟨?_, ?_, ?_, ?_, ?_, ?_⟩ <;> omega
  unfold Ieee.Toward.cut at hk
  simp only [Nat.shiftLeft_eq, Nat.one_mul] at hk
  rcases Nat.lt_or_ge (M.log2 + 2) D with hD | hD
  · -- all is dropped
    have hM : M < 2 ^ (M.log2 + 1) := Nat.lt_log2_self
    have h2 : 2 ^ (M.log2 + 1) * 2 ≤ 2 ^ D := by rw [← Nat.pow_succ]; exact Nat.pow_le_pow_right (by decide) (by omega)
    have h3 : 2 ^ (M.log2 + 2) = 2 ^ (M.log2 + 1) * 2 := Nat.pow_succ ..
    rw [Nat.min_eq_right (by omega), h3] at hk
    generalize 2 ^ (M.log2 + 1) = A at *
    have e1 : M / (A * 2) = 0 := Nat.div_eq_of_lt (by omega)
    have e2 : M % (A * 2) = M := Nat.mod_eq_of_lt (by omega)
    rw [e1, e2] at hk
    have e3 : ¬ A * 2 < 2 * M := by omega
    have e4 : ¬ A * 2 = 2 * M := by omega
    rw [decide_eq_false e3, beq_eq_false_iff_ne.2 e4, Bool.false_and] at hk
    have hk : k = 0 := hk.symm
    subst hk
    refine key _ (Nat.two_pow_pos D) ?_
    generalize 2 ^ D = G at *
    have e5 : M / G = 0 := Nat.div_eq_of_lt (by omega)
    have e6 : M % G = M := Nat.mod_eq_of_lt (by omega)
    rw [e5, e6]
    have e7 : ¬ G < 2 * M := by omega
    have e8 : ¬ G = 2 * M := by omega
    rw [decide_eq_false e7, beq_eq_false_iff_ne.2 e8, Bool.false_and]
    rfl
  · rw [Nat.min_eq_left (by omega)] at hk
    refine key _ (Nat.two_pow_pos D) ?_
    rw [← hk]

/-- The rung that is nearest. -/
def nearR (m : Nat) (e : Int) : Nat :=
  if m = 0 then 0 else
  let last := max (e + m.log2 - 52) (-1074)
  min ((last + 1074).toNat * 4503599627370496 + Ieee.Toward.even.cut false (m <<< (e - last).toNat) (last - e).toNat) 9218868437227405312

/-- A rung r is nearest to M of Q of the least, of two the even one. -/
def NearN (Q M r : Nat) : Prop :=
  r ≤ 9218868437227405312 ∧ (r < 9218868437227405312 → 2 * M ≤ (rg r + rg (r + 1)) * Q ∧ (2 * M = (rg r + rg (r + 1)) * Q → r % 2 = 0)) ∧
  (0 < r → (rg (r - 1) + rg r) * Q ≤ 2 * M ∧ ((rg (r - 1) + rg r) * Q = 2 * M → r % 2 = 0))

theorem near_cap {R Q Z r : Nat} (ha : 2 * Z ≤ (rg R + rg (R + 1)) * Q ∧ (2 * Z = (rg R + rg (R + 1)) * Q → R % 2 = 0))
    (hb : 0 < R → (rg (R - 1) + rg R) * Q ≤ 2 * Z ∧ ((rg (R - 1) + rg R) * Q = 2 * Z → R % 2 = 0)) (hr : r = min R 9218868437227405312) : NearN Q Z r := by
  rcases Nat.lt_or_ge R 9218868437227405312 with hR | hR
  · rw [Nat.min_eq_left (Nat.le_of_lt hR)] at hr
    subst hr
    exact ⟨Nat.le_of_lt hR, fun _ => ha, hb⟩
  · rw [Nat.min_eq_right hR] at hr
    subst hr
    refine ⟨Nat.le_refl _, fun h => absurd h (Nat.lt_irrefl _), fun h0 => ⟨?_, fun _ => by decide⟩⟩
    obtain ⟨hb1, _⟩ := hb (Nat.lt_of_lt_of_le h0 hR)
    refine Nat.le_trans (Nat.mul_le_mul_right _ (Nat.add_le_add ?_ ?_)) hb1
    · exact rg_mono' (Nat.sub_le_sub_right hR 1)
    · exact rg_mono' hR

theorem near_main {E D K k n Z r : Nat} (hn : 0 < n) (hD : D = E + K) (c1 : 2 * Z ≤ (2 * k + 1) * (2 ^ D * n)) (c2 : 2 * k * (2 ^ D * n) ≤ 2 * Z + 2 ^ D * n)
    (c3 : 2 * Z = (2 * k + 1) * (2 ^ D * n) → k % 2 = 0) (c4 : 2 * k * (2 ^ D * n) = 2 * Z + 2 ^ D * n → k % 2 = 0)
    (hlo : E = 0 ∨ 4503599627370496 ≤ k ∧ 4503599627370496 * (2 ^ D * n) ≤ Z) (hhi : k ≤ 9007199254740992 ∧ (k = 9007199254740992 → Z < 9007199254740992 * (2 ^ D * n)))
    (hr : r = min (E * 4503599627370496 + k) 9218868437227405312) : NearN (2 ^ K * n) Z r := by
  have hP : 0 < 2 ^ K * n := Nat.mul_pos (Nat.two_pow_pos K) hn
  obtain ⟨hk2, hk9⟩ := hhi
  have hpd : 0 < 2 ^ D * n := Nat.mul_pos (Nat.two_pow_pos D) hn
  have hEk : E = 0 ∨ 4503599627370496 ≤ k := hlo.elim Or.inl fun h => Or.inr h.1
  have hDE : 2 ^ D * n = 2 ^ E * (2 ^ K * n) := by rw [hD, Nat.pow_add, Nat.mul_assoc]
  have hrg : rg (E * 4503599627370496 + k) * (2 ^ K * n) = k * (2 ^ D * n) := by rw [rg_at hEk hk2, hDE, Nat.mul_assoc]
  have hpar : k % 2 = 0 → (E * 4503599627370496 + k) % 2 = 0 := by omega
  have ha : 2 * Z ≤ (rg (E * 4503599627370496 + k) + rg (E * 4503599627370496 + k + 1)) * (2 ^ K * n) ∧ (2 * Z = (rg (E * 4503599627370496 + k) + rg (E * 4503599627370496 + k + 1)) * (2 ^ K * n) → (E * 4503599627370496 + k) % 2 = 0) := by
    have e1 : (2 * k + 1) * (2 ^ D * n) = 2 * (k * (2 ^ D * n)) + (2 ^ D * n) := by rw [Nat.add_mul, Nat.mul_assoc]; omega
    rw [e1] at c1 c3
    rw [Nat.add_mul, hrg]
    rcases Nat.lt_or_ge k 9007199254740992 with hlt | hge
    · have hrg1 : rg (E * 4503599627370496 + k + 1) * (2 ^ K * n) = k * (2 ^ D * n) + 2 ^ D * n := by
        rw [Nat.add_assoc, rg_at (by omega) (by omega), hDE, Nat.mul_assoc, Nat.add_mul, Nat.one_mul]
      rw [hrg1]
      refine ⟨by omega, fun h => hpar (c3 (by omega))⟩
    · have hk3 : k = 9007199254740992 := by omega
      have hrg1 : k * (2 ^ D * n) ≤ rg (E * 4503599627370496 + k + 1) * (2 ^ K * n) := by
        rw [← hrg]; exact Nat.mul_le_mul_right _ (Nat.le_of_lt (rg_lt _))
      have hM2 : 2 * Z < 2 * (k * (2 ^ D * n)) := by have := hk9 hk3; rw [hk3]; omega
      refine ⟨by omega, fun h => hpar (by omega)⟩
  have hb : 0 < E * 4503599627370496 + k → (rg (E * 4503599627370496 + k - 1) + rg (E * 4503599627370496 + k)) * (2 ^ K * n) ≤ 2 * Z ∧ ((rg (E * 4503599627370496 + k - 1) + rg (E * 4503599627370496 + k)) * (2 ^ K * n) = 2 * Z → (E * 4503599627370496 + k) % 2 = 0) := by
    intro hpos
    rw [Nat.mul_assoc] at c2 c4
    rw [Nat.add_mul, hrg]
    by_cases hbase : E = 0 ∨ 4503599627370496 < k
    · obtain ⟨j, rfl⟩ : ∃ j, k = j + 1 := ⟨k - 1, by omega⟩
      have hrg1 : rg (E * 4503599627370496 + (j + 1) - 1) * (2 ^ K * n) = j * (2 ^ D * n) := by
        rw [show E * 4503599627370496 + (j + 1) - 1 = E * 4503599627370496 + j by omega, rg_at (by omega) (by omega), hDE, Nat.mul_assoc]
      rw [hrg1]
      rw [Nat.add_mul, Nat.one_mul] at *
      refine ⟨by omega, fun h => hpar (c4 (by omega))⟩
    · have hk3 : k = 4503599627370496 := by omega
      have hM2 : k * (2 ^ D * n) ≤ Z := by
        rcases hlo with h | ⟨_, h⟩
        · omega
        · rw [hk3]; exact h
      have hlt : rg (E * 4503599627370496 + k - 1) * (2 ^ K * n) < k * (2 ^ D * n) := by
        rw [← hrg]; exact Nat.mul_lt_mul_of_pos_right (rg_mono (by omega)) hP
      refine ⟨by omega, fun h => hpar (by omega)⟩
  exact near_cap ha hb hr

theorem nearest_eq (s : Bool) (m : Nat) (e : Int) : Ieee.double.nearest s m e = Ieee.double.word s (nearR m e) := by
  have hf : Ieee.double.fractionBits = 52 := rfl
  have hs : ∀ n d, Ieee.Toward.even.cut s n d = Ieee.Toward.even.cut false n d := fun n d => rfl
  unfold Ieee.Format.nearest nearR
  by_cases h : m = 0
  · rw [if_pos h, if_pos h]
  · rw [if_neg h, if_neg h]
    simp only [hf, d_binade, d_inf, d_least, hs]
    rfl

theorem cut_bounds {M D L k : Nat} (hL : M.log2 = L) (h0 : M ≠ 0) (hk : Ieee.Toward.even.cut false M D = k) (hD : L ≤ D + 52) : k ≤ 9007199254740992 ∧ (k = 9007199254740992 → M < 9007199254740992 * 2 ^ D) ∧ (D + 52 = L → 4503599627370496 ≤ k ∧ 4503599627370496 * 2 ^ D ≤ M) := by
  obtain ⟨_, _, _, _, c5, c6⟩ := cut_spec false hk
  have hML : 2 ^ M.log2 ≤ M := Nat.log2_self_le h0
  have hMU : M < 2 ^ (M.log2 + 1) := Nat.lt_log2_self
  rw [hL] at hML hMU
  have hpd : 0 < 2 ^ D := Nat.two_pow_pos D
  have hU : M < 9007199254740992 * 2 ^ D := by
    have h1 : 2 ^ (L + 1) ≤ 2 ^ (53 + D) := Nat.pow_le_pow_right (by decide) (by omega)
    rw [Nat.pow_add 2 53 D] at h1
    have : (2 : Nat) ^ 53 = 9007199254740992 := by decide
    rw [this] at h1
    omega
  have := (Nat.div_lt_iff_lt_mul hpd).2 hU
  refine ⟨by omega, fun _ => hU, fun he => ?_⟩
  have h2 : 4503599627370496 * 2 ^ D ≤ M := by
    have h1 : 2 ^ L = 2 ^ (52 + D) := by rw [← he, Nat.add_comm]
    rw [Nat.pow_add 2 52 D] at h1
    have : (2 : Nat) ^ 52 = 4503599627370496 := by decide
    rw [this] at h1
    omega
  have := (Nat.le_div_iff_mul_le hpd).2 h2
  exact ⟨by omega, h2⟩

theorem nearR_eq {m : Nat} {e : Int} (h : m ≠ 0) : nearR m e = min ((max (e + m.log2 - 52) (-1074) + 1074).toNat * 4503599627370496 + Ieee.Toward.even.cut false (m <<< (e - max (e + m.log2 - 52) (-1074)).toNat) (max (e + m.log2 - 52) (-1074) - e).toNat) 9218868437227405312 := by
  unfold nearR
  rw [if_neg h]

theorem near_zero {Q : Nat} : NearN Q 0 0 :=
  ⟨by decide, fun _ => ⟨by omega, fun h => by decide⟩, fun h => absurd h (by decide)⟩

/-- To round a whole number of some place. -/
theorem near_spec {M J K : Nat} {e : Int} (he : e = (J : Int) - K - 1074) : NearN (2 ^ K) (M * 2 ^ J) (nearR M e) := by
  by_cases h0 : M = 0
  · subst h0
    rw [Nat.zero_mul]
    exact near_zero
  · have hr := nearR_eq (e := e) h0
    rw [show (2 : Nat) ^ K = 2 ^ K * 1 by omega]
    rcases Int.lt_or_le (max (e + (M.log2 : Int) - 52) (-1074)) e with hc | hc
    · -- shifted up: nothing is dropped
      generalize hlast : max (e + (M.log2 : Int) - 52) (-1074) = last at hc hr
      obtain ⟨a, ha⟩ : ∃ a : Nat, e - last = a := ⟨(e - last).toNat, by omega⟩
      have e1 : (e - last).toNat = a := by omega
      have e2 : (last - e).toNat = 0 := by omega
      rw [e1, e2, Nat.shiftLeft_eq] at hr
      obtain ⟨E, hE⟩ : ∃ E : Nat, last + 1074 = E := ⟨(last + 1074).toNat, by omega⟩
      have e3 : (last + 1074).toNat = E := by omega
      rw [e3] at hr
      have hJ : J = E + K + a := by omega
      have hkk : Ieee.Toward.even.cut false (M * 2 ^ a) 0 = M * 2 ^ a := by
        obtain ⟨_, _, _, _, c5, c6⟩ := cut_spec false (M := M * 2 ^ a) (D := 0) rfl
        simp only [Nat.pow_zero, Nat.div_one] at c5 c6
        obtain ⟨c1, c2, c3, c4, _, _⟩ := cut_spec false (M := M * 2 ^ a) (D := 0) rfl
        omega
      have hlog : (M * 2 ^ a).log2 = M.log2 + a := log2_mul_pow h0 a
      have hne : M * 2 ^ a ≠ 0 := Nat.mul_ne_zero h0 (Nat.ne_of_gt (Nat.two_pow_pos a))
      obtain ⟨b1, b2, b3⟩ := cut_bounds (D := 0) hlog hne hkk (by omega)
      rw [hkk] at hr
      have hZ : M * 2 ^ J = (M * 2 ^ a) * 2 ^ (E + K) := by rw [hJ, Nat.pow_add, Nat.mul_comm (2 ^ (E + K)), Nat.mul_assoc]
      rw [hZ]
      have hpE : 0 < 2 ^ (E + K) := Nat.two_pow_pos _
      generalize M * 2 ^ a = k at *
      refine near_main (D := E + K) (by decide) rfl ?_ ?_ ?_ ?_ ?_ ⟨b1, ?_⟩ hr <;> (try rw [Nat.mul_one])
      · rw [Nat.add_mul, Nat.mul_assoc]; omega
      · rw [Nat.mul_assoc]; omega
      · rw [Nat.add_mul, Nat.mul_assoc]; omega
      · rw [Nat.mul_assoc]; omega
      · by_cases hE0 : E = 0
        · exact Or.inl hE0
        · obtain ⟨g1, g2⟩ := b3 (by omega)
          refine Or.inr ⟨g1, Nat.mul_le_mul_right _ g1⟩
      · intro h; have := b2 h; simp at this; omega
    · obtain ⟨D, hD⟩ : ∃ D : Nat, max (e + (M.log2 : Int) - 52) (-1074) - e = D := ⟨(max (e + (M.log2 : Int) - 52) (-1074) - e).toNat, by omega⟩
      obtain ⟨E, hE⟩ : ∃ E : Nat, max (e + (M.log2 : Int) - 52) (-1074) + 1074 = E := ⟨(max (e + (M.log2 : Int) - 52) (-1074) + 1074).toNat, by omega⟩
      have e1 : (e - max (e + (M.log2 : Int) - 52) (-1074)).toNat = 0 := by omega
      have e2 : (max (e + (M.log2 : Int) - 52) (-1074) - e).toNat = D := by omega
      have e3 : (max (e + (M.log2 : Int) - 52) (-1074) + 1074).toNat = E := by omega
      simp only [e1, e2, e3, Nat.shiftLeft_zero] at hr
      generalize hk : Ieee.Toward.even.cut false M D = k at hr
      obtain ⟨b1, b2, b3⟩ := cut_bounds rfl h0 hk (by omega)
      obtain ⟨c1, c2, c3, c4, _, _⟩ := cut_spec false hk
      have hDJ : D + J = E + K := by omega
      have hpj : 0 < 2 ^ J := Nat.two_pow_pos J
      have hpp : 2 ^ (D + J) = 2 ^ D * 2 ^ J := Nat.pow_add ..
      refine near_main (D := D + J) (by decide) hDJ ?_ ?_ ?_ ?_ ?_ ⟨b1, ?_⟩ hr <;> rw [Nat.mul_one, hpp]
      · have := Nat.mul_le_mul_right (2 ^ J) c1
        rw [Nat.mul_assoc, Nat.mul_assoc] at this; exact this
      · have := Nat.mul_le_mul_right (2 ^ J) c2
        rw [Nat.add_mul, Nat.mul_assoc, Nat.mul_assoc 2 M] at this; exact this
      · intro h
        refine c3 (Nat.eq_of_mul_eq_mul_right hpj ?_)
        rw [Nat.mul_assoc, Nat.mul_assoc]; exact h
      · intro h
        refine c4 (Nat.eq_of_mul_eq_mul_right hpj ?_)
        rw [Nat.add_mul, Nat.mul_assoc, Nat.mul_assoc 2 M]; exact h
      · by_cases hE0 : E = 0
        · exact Or.inl hE0
        · obtain ⟨g1, g2⟩ := b3 (by omega)
          refine Or.inr ⟨g1, ?_⟩
          rw [← Nat.mul_assoc]; exact Nat.mul_le_mul_right _ g2
      · intro h
        rw [← Nat.mul_assoc]; exact Nat.mul_lt_mul_of_pos_right (b2 h) hpj

theorem quot_up {A n q t s M X : Nat} (hn : 0 < n) (hdm : n * q + t = A) (hlt : t < n) (hs : s = 0 ∧ t = 0 ∨ s = 1 ∧ 0 < t) (hM : 2 * q + s = M) (hX : M ≤ 2 * X) : 2 * A ≤ 2 * (X * n) ∧ (2 * A = 2 * (X * n) → M = 2 * X) := by
  have hqX : s = 0 ∧ q ≤ X ∨ s = 1 ∧ q + 1 ≤ X := by omega
  rcases hqX with ⟨h1, h2⟩ | ⟨h1, h2⟩
  · have ht : t = 0 := by omega
    have := Nat.mul_le_mul_right n h2
    rw [Nat.mul_comm] at this
    refine ⟨by omega, fun h => ?_⟩
    have h3 : n * q = n * X := by rw [Nat.mul_comm n X]; omega
    have := Nat.eq_of_mul_eq_mul_left hn h3
    omega
  · have := Nat.mul_le_mul_right n h2
    rw [Nat.add_mul, Nat.mul_comm q] at this
    exact ⟨by omega, fun h => by omega⟩

theorem quot_dn {A n q t s M X : Nat} (hn : 0 < n) (hdm : n * q + t = A) (hlt : t < n) (hs : s = 0 ∧ t = 0 ∨ s = 1 ∧ 0 < t) (hM : 2 * q + s = M) (hX : 2 * X ≤ M) : 2 * (X * n) ≤ 2 * A ∧ (2 * (X * n) = 2 * A → 2 * X = M) := by
  have h2 : X ≤ q := by omega
  have := Nat.mul_le_mul_right n h2
  rw [Nat.mul_comm q] at this
  refine ⟨by omega, fun h => ?_⟩
  have h3 : t = 0 := by omega
  have h4 : X * n = q * n := by rw [Nat.mul_comm q]; omega
  have := Nat.eq_of_mul_eq_mul_right hn h4
  omega

theorem quot_cut {A n k G M : Nat} (hn : 0 < n) (hM : 2 * (A / n) + (A % n != 0).toNat = M) (c1 : 2 * M ≤ (2 * k + 1) * (4 * G)) (c2 : 2 * k * (4 * G) ≤ 2 * M + 4 * G)
    (c3 : 2 * M = (2 * k + 1) * (4 * G) → k % 2 = 0) (c4 : 2 * k * (4 * G) = 2 * M + 4 * G → k % 2 = 0) :
    2 * (2 * A) ≤ (2 * k + 1) * (4 * G * n) ∧ (2 * (2 * A) = (2 * k + 1) * (4 * G * n) → k % 2 = 0) ∧ 2 * k * (4 * G * n) ≤ 2 * (2 * A) + 4 * G * n ∧ (2 * k * (4 * G * n) = 2 * (2 * A) + 4 * G * n → k % 2 = 0) ∧
    (∀ B, B * (4 * G) ≤ M → B * (4 * G * n) ≤ 2 * A) ∧ ∀ B, M < B * (4 * G) → 2 * A < B * (4 * G * n) := by
  have hdm := Nat.div_add_mod A n
  have hlt := Nat.mod_lt A hn
  have hs : (A % n != 0).toNat = 0 ∧ A % n = 0 ∨ (A % n != 0).toNat = 1 ∧ 0 < A % n := by
    by_cases h : A % n = 0
    · left; simp [h]
    · right
      have : 0 < A % n := by omega
      refine ⟨?_, this⟩
      simp [h]
  generalize A / n = q at *
  generalize A % n = t at *
  generalize (t != 0).toNat = s at *
  have up : ∀ X, M ≤ 2 * X → 2 * A ≤ 2 * (X * n) ∧ (2 * A = 2 * (X * n) → M = 2 * X) := fun X h => quot_up hn hdm hlt hs hM h
  have dn : ∀ X, 2 * X ≤ M → 2 * (X * n) ≤ 2 * A ∧ (2 * (X * n) = 2 * A → 2 * X = M) := fun X h => quot_dn hn hdm hlt hs hM h
  clear hdm hlt hs hM
  have ee : ∀ c, c * (4 * G) = 4 * (c * G) := fun c => Nat.mul_left_comm c 4 G
  have en : ∀ c, c * (4 * G * n) = 4 * (c * G * n) := fun c => by rw [Nat.mul_assoc 4, Nat.mul_left_comm c 4, Nat.mul_assoc c]
  have e2 : ∀ c, c * (2 * G) * n = 2 * (c * G * n) := fun c => by rw [Nat.mul_left_comm c 2, Nat.mul_assoc 2]
  have e3 : ∀ c, c * (2 * G) = 2 * (c * G) := fun c => Nat.mul_left_comm c 2 G
  refine ⟨?_, ?_, ?_, ?_, ?_, ?_⟩
  · have := (up ((2 * k + 1) * G) (by rw [ee] at c1; omega)).1
    rw [en]; omega
  · intro h
    rw [en] at h
    rw [ee] at c1 c3
    have := (up ((2 * k + 1) * G) (by omega)).2 (by omega)
    exact c3 (by omega)
  · rcases Nat.eq_zero_or_pos k with h | h
    · subst h; simp
    · obtain ⟨j, rfl⟩ : ∃ j, k = j + 1 := ⟨k - 1, by omega⟩
      have e5 : ∀ c, 2 * (j + 1) * c = (2 * j + 1) * c + c := fun c => by rw [show 2 * (j + 1) = 2 * j + 1 + 1 by omega, Nat.add_mul (2 * j + 1) 1, Nat.one_mul]
      rw [e5, ee] at c2
      have := (dn ((2 * j + 1) * G) (by omega)).1
      rw [e5, en]; omega
  · intro h
    rcases Nat.eq_zero_or_pos k with h0 | h0
    · subst h0; rfl
    · obtain ⟨j, rfl⟩ : ∃ j, k = j + 1 := ⟨k - 1, by omega⟩
      have e5 : ∀ c, 2 * (j + 1) * c = (2 * j + 1) * c + c := fun c => by rw [show 2 * (j + 1) = 2 * j + 1 + 1 by omega, Nat.add_mul (2 * j + 1) 1, Nat.one_mul]
      rw [e5, ee] at c2 c4
      rw [e5, en] at h
      have := (dn ((2 * j + 1) * G) (by omega)).2 (by omega)
      exact c4 (by omega)
  · intro B h
    have := (dn (B * (2 * G)) (by rw [ee] at h; rw [e3]; omega)).1
    rw [e2] at this
    rw [en]; omega
  · intro B h
    rw [ee] at h
    obtain ⟨h1, h2⟩ := up (B * (2 * G)) (by rw [e3]; omega)
    rw [e2, e3] at *
    rw [en]
    rcases Nat.lt_or_ge (2 * A) (4 * (B * G * n)) with h3 | h3
    · exact h3
    · have := h2 (by omega)
      omega

/-- To round a quotient, told with one digit that says whether anything is left. -/
theorem near_quot {A n J K M : Nat} {e : Int} (hn : 0 < n) (hM : 2 * (A / n) + (A % n != 0).toNat = M) (hL : 54 ≤ M.log2) (he : e = (J : Int) - K - 1074) : NearN (2 ^ K * n) (2 * A * 2 ^ J) (nearR M e) := by
  have h0 : M ≠ 0 := by intro h; rw [h] at hL; simp at hL
  have hr := nearR_eq (e := e) h0
  obtain ⟨D, hD⟩ : ∃ D : Nat, max (e + (M.log2 : Int) - 52) (-1074) - e = D := ⟨(max (e + (M.log2 : Int) - 52) (-1074) - e).toNat, by omega⟩
  obtain ⟨E, hE⟩ : ∃ E : Nat, max (e + (M.log2 : Int) - 52) (-1074) + 1074 = E := ⟨(max (e + (M.log2 : Int) - 52) (-1074) + 1074).toNat, by omega⟩
  have e1 : (e - max (e + (M.log2 : Int) - 52) (-1074)).toNat = 0 := by omega
  have e2 : (max (e + (M.log2 : Int) - 52) (-1074) - e).toNat = D := by omega
  have e3 : (max (e + (M.log2 : Int) - 52) (-1074) + 1074).toNat = E := by omega
  simp only [e1, e2, e3, Nat.shiftLeft_zero] at hr
  generalize hk : Ieee.Toward.even.cut false M D = k at hr
  obtain ⟨b1, b2, b3⟩ := cut_bounds rfl h0 hk (by omega)
  obtain ⟨c1, c2, c3, c4, _, _⟩ := cut_spec false hk
  have hDJ : D + J = E + K := by omega
  have hEL : E = 0 ∨ D + 52 = M.log2 := by omega
  have hD2 : 2 ≤ D := by omega
  clear e1 e2 e3 hE hD he hk
  have hpj : 0 < 2 ^ J := Nat.two_pow_pos J
  have hpp : 2 ^ (D + J) * n = 2 ^ D * n * 2 ^ J := by rw [Nat.pow_add, Nat.mul_right_comm]
  obtain ⟨G, hG⟩ : ∃ G, 2 ^ D = 4 * G := ⟨2 ^ (D - 2), by rw [show (4 : Nat) = 2 ^ 2 by rfl, ← Nat.pow_add]; congr 1; omega⟩
  rw [hG] at c1 c2 c3 c4 b2 b3 hpp
  obtain ⟨a1, a3, a2, a4, alo, ahi⟩ := quot_cut hn hM c1 c2 c3 c4
  have hlo := fun h => (b3 h).imp id (alo _)
  have hhi := fun h => ahi _ (b2 h)
  clear alo ahi b2 b3 c1 c2 c3 c4 hG hM
  generalize 4 * G * n = V at *
  refine near_main (D := D + J) hn hDJ ?_ ?_ ?_ ?_ ?_ ⟨b1, ?_⟩ hr <;> rw [hpp]
  · have := Nat.mul_le_mul_right (2 ^ J) a1
    rw [Nat.mul_assoc 2 (2 * A), Nat.mul_assoc (2 * k + 1)] at this; exact this
  · have := Nat.mul_le_mul_right (2 ^ J) a2
    rw [Nat.add_mul, Nat.mul_assoc, Nat.mul_assoc 2 (2 * A)] at this; exact this
  · intro h
    refine a3 (Nat.eq_of_mul_eq_mul_right hpj ?_)
    rw [Nat.mul_assoc 2 (2 * A), Nat.mul_assoc (2 * k + 1)]; exact h
  · intro h
    refine a4 (Nat.eq_of_mul_eq_mul_right hpj ?_)
    rw [Nat.add_mul, Nat.mul_assoc, Nat.mul_assoc 2 (2 * A)]; exact h
  · rcases hEL with h | h
    · exact Or.inl h
    · obtain ⟨g1, g2⟩ := hlo h
      refine Or.inr ⟨g1, ?_⟩
      rw [← Nat.mul_assoc]; exact Nat.mul_le_mul_right _ g2
  · intro h
    rw [← Nat.mul_assoc]; exact Nat.mul_lt_mul_of_pos_right (hhi h) hpj

end Go.Proofs.YtameamgamdaibaaDoor

/-!  Floats as whole numbers of rungs with a sign: what rounding tells, how rungs stand to each other. -/
namespace Go.Proofs.YtameamgamdaibaaDoor
open Go
set_option linter.unusedVariables false
set_option maxRecDepth 20000

/-- A rung with its sign. -/
def rk (i : Int) : Int := if 0 ≤ i then rg i.toNat else -(rg (-i).toNat : Int)
/-- The rung of a word, with its sign. -/
def ix (b : Nat) : Int := if b < 9223372036854775808 then (b : Int) else -((b - 9223372036854775808 : Nat) : Int)

theorem rk_neg (i : Int) : rk (-i) = -rk i := by
  unfold rk
  rcases Int.lt_trichotomy i 0 with h | h | h
  · rw [if_pos (by omega), if_neg (by omega)]; omega
  · subst h; rfl
  · rw [if_neg (by omega), if_pos (by omega)]
    rw [Int.neg_neg]
theorem rk_nat (n : Nat) : rk (n : Int) = rg n := by
  unfold rk
  rw [if_pos (by omega), Int.toNat_natCast]
theorem rk_zero : rk 0 = 0 := rfl
theorem rk_one : rk 1 = 1 := rfl

theorem rk_lt {i j : Int} (h : i < j) : rk i < rk j := by
  unfold rk
  by_cases hi : 0 ≤ i
  · rw [if_pos hi, if_pos (by omega)]
    have := rg_mono (a := i.toNat) (b := j.toNat) (by omega)
    omega
  · rw [if_neg hi]
    by_cases hj : 0 ≤ j
    · rw [if_pos hj]
      have := rg_mono (a := 0) (b := (-i).toNat) (by omega)
      omega
    · rw [if_neg hj]
      have := rg_mono (a := (-j).toNat) (b := (-i).toNat) (by omega)
      omega
theorem rk_le {i j : Int} (h : i ≤ j) : rk i ≤ rk j := by
  rcases Int.lt_or_le i j with h1 | h1
  · exact Int.le_of_lt (rk_lt h1)
  · have : i = j := by omega
    subst this; exact Int.le_refl _
theorem rk_le_iff {i j : Int} : rk i ≤ rk j ↔ i ≤ j := by
  constructor
  · intro h
    rcases Int.lt_or_le j i with h1 | h1
    · have := rk_lt h1; omega
    · exact h1
  · exact rk_le
theorem rk_lt_iff {i j : Int} : rk i < rk j ↔ i < j := by
  have := rk_le_iff (i := j) (j := i)
  omega
theorem rk_inj {i j : Int} (h : rk i = rk j) : i = j := by
  have h1 := rk_le_iff (i := i) (j := j)
  have h2 := rk_le_iff (i := j) (j := i)
  omega

/-- The rung i is the nearest to Z of Q of the least, of two the even one. -/
def Rd (Q : Nat) (Z : Int) (i : Int) : Prop :=
  -9218868437227405312 ≤ i ∧ i ≤ 9218868437227405312 ∧
  (i < 9218868437227405312 → 2 * Z ≤ (rk i + rk (i + 1)) * Q ∧ (2 * Z = (rk i + rk (i + 1)) * Q → i % 2 = 0)) ∧
  (-9218868437227405312 < i → (rk (i - 1) + rk i) * Q ≤ 2 * Z ∧ ((rk (i - 1) + rk i) * Q = 2 * Z → i % 2 = 0))

theorem Rd.neg {Q : Nat} {Z i : Int} (h : Rd Q Z i) : Rd Q (-Z) (-i) := by
  obtain ⟨h1, h2, h3, h4⟩ := h
  refine ⟨by omega, by omega, fun hl => ?_, fun hl => ?_⟩
  · obtain ⟨g1, g2⟩ := h4 (by omega)
    rw [rk_neg, show -i + 1 = -(i - 1) by omega, rk_neg]
    have e : (-rk i + -rk (i - 1)) * (Q : Int) = -((rk (i - 1) + rk i) * Q) := by rw [← Int.neg_mul]; congr 1; omega
    rw [e]
    exact ⟨by omega, fun h => by have := g2 (by omega); omega⟩
  · obtain ⟨g1, g2⟩ := h3 (by omega)
    rw [rk_neg, show -i - 1 = -(i + 1) by omega, rk_neg]
    have e : (-rk (i + 1) + -rk i) * (Q : Int) = -((rk i + rk (i + 1)) * Q) := by rw [← Int.neg_mul]; congr 1; omega
    rw [e]
    exact ⟨by omega, fun h => by have := g2 (by omega); omega⟩

theorem Rd.of_near {Q M r : Nat} (hQ : 0 < Q) (h : NearN Q M r) : Rd Q (M : Int) (r : Int) := by
  obtain ⟨h1, h2, h3⟩ := h
  refine ⟨by omega, by omega, fun hl => ?_, fun hl => ?_⟩
  · obtain ⟨g1, g2⟩ := h2 (by omega)
    rw [show (r : Int) + 1 = ((r + 1 : Nat) : Int) by omega, rk_nat, rk_nat]
    have e : ((rg r : Int) + (rg (r + 1) : Int)) * (Q : Int) = (((rg r + rg (r + 1)) * Q : Nat) : Int) := by rw [Int.natCast_mul, Int.natCast_add]
    rw [e]
    exact ⟨by omega, fun h => by have := g2 (by omega); omega⟩
  · rcases Nat.eq_zero_or_pos r with h0 | h0
    · subst h0
      rw [show ((0 : Nat) : Int) - 1 = -1 by rfl, rk_neg, rk_one]
      have e : (-1 + rk ((0 : Nat) : Int)) * (Q : Int) = -(Q : Int) := by
        rw [show rk ((0 : Nat) : Int) = 0 from rfl]; omega
      rw [e]
      exact ⟨by omega, fun h => by omega⟩
    · obtain ⟨g1, g2⟩ := h3 h0
      rw [show (r : Int) - 1 = ((r - 1 : Nat) : Int) by omega, rk_nat, rk_nat]
      have e : ((rg (r - 1) : Int) + (rg r : Int)) * (Q : Int) = (((rg (r - 1) + rg r) * Q : Nat) : Int) := by rw [Int.natCast_mul, Int.natCast_add]
      rw [e]
      exact ⟨by omega, fun h => by have := g2 (by omega); omega⟩

theorem Rd.mono {Q Q' : Nat} {Z Z' i i' : Int} (hQ : 0 < Q) (hQ' : 0 < Q') (h : Rd Q Z i) (h' : Rd Q' Z' i') (hle : Z * Q' ≤ Z' * Q) : i ≤ i' := by
  obtain ⟨h1, h2, _, h4⟩ := h
  obtain ⟨k1, k2, k3, _⟩ := h'
  rcases Int.lt_or_le i' i with hlt | hge
  · exfalso
    obtain ⟨a1, a2⟩ := h4 (by omega)
    obtain ⟨b1, b2⟩ := k3 (by omega)
    have hq : (0 : Int) < (Q : Int) := by omega
    have hq' : (0 : Int) < (Q' : Int) := by omega
    have e0 : rk i' + rk (i' + 1) ≤ rk (i - 1) + rk i := by
      have := rk_le (i := i') (j := i - 1) (by omega)
      have := rk_le (i := i' + 1) (j := i) (by omega)
      omega
    have a3 := Int.mul_le_mul_of_nonneg_right a1 (Int.le_of_lt hq')
    have b3 := Int.mul_le_mul_of_nonneg_right b1 (Int.le_of_lt hq)
    have e1 : 2 * Z * (Q' : Int) = 2 * (Z * Q') := Int.mul_assoc ..
    have e2 : 2 * Z' * (Q : Int) = 2 * (Z' * Q) := Int.mul_assoc ..
    have e3 : (rk i' + rk (i' + 1)) * (Q' : Int) * (Q : Int) = (rk i' + rk (i' + 1)) * (Q : Int) * (Q' : Int) := Int.mul_right_comm ..
    have e4 := Int.mul_le_mul_of_nonneg_right (Int.mul_le_mul_of_nonneg_right e0 (Int.le_of_lt hq)) (Int.le_of_lt hq')
    have p1 : (rk (i - 1) + rk i) * (Q : Int) * (Q' : Int) = 2 * Z * (Q' : Int) := by omega
    have p2 : 2 * Z' * (Q : Int) = (rk i' + rk (i' + 1)) * (Q' : Int) * (Q : Int) := by omega
    have p3 : (rk i' + rk (i' + 1)) * (Q : Int) * (Q' : Int) = (rk (i - 1) + rk i) * (Q : Int) * (Q' : Int) := by omega
    have q1 := a2 (Int.eq_of_mul_eq_mul_right (by omega) p1)
    have q2 := b2 (Int.eq_of_mul_eq_mul_right (by omega) p2)
    have q3 := Int.eq_of_mul_eq_mul_right (by omega) (Int.eq_of_mul_eq_mul_right (by omega) p3)
    have : i = i' + 1 := by
      rcases Int.lt_or_le (i' + 1) i with h | h
      · have := rk_lt (i := i') (j := i - 1) (by omega)
        have := rk_lt h
        omega
      · omega
    omega
  · exact hge

theorem Rd.same {Q : Nat} {j : Int} (hQ : 0 < Q) (h1 : -9218868437227405312 ≤ j) (h2 : j ≤ 9218868437227405312) : Rd Q (rk j * Q) j := by
  have hq : (0 : Int) < (Q : Int) := by omega
  have a1 := Int.mul_lt_mul_of_pos_right (rk_lt (i := j) (j := j + 1) (by omega)) hq
  have a2 := Int.mul_lt_mul_of_pos_right (rk_lt (i := j - 1) (j := j) (by omega)) hq
  refine ⟨h1, h2, fun _ => ?_, fun _ => ?_⟩ <;> rw [Int.add_mul] <;> exact ⟨by omega, fun _ => by omega⟩

theorem Rd.le {Q : Nat} {Z i j : Int} (hQ : 0 < Q) (h : Rd Q Z i) (h1 : -9218868437227405312 ≤ j) (h2 : j ≤ 9218868437227405312) (hle : Z ≤ rk j * Q) : i ≤ j :=
  h.mono hQ hQ (Rd.same hQ h1 h2) (Int.mul_le_mul_of_nonneg_right hle (by omega))
theorem Rd.ge {Q : Nat} {Z i j : Int} (hQ : 0 < Q) (h : Rd Q Z i) (h1 : -9218868437227405312 ≤ j) (h2 : j ≤ 9218868437227405312) (hle : rk j * Q ≤ Z) : j ≤ i :=
  (Rd.same hQ h1 h2).mono hQ hQ h (Int.mul_le_mul_of_nonneg_right hle (by omega))
theorem Rd.eq {Q : Nat} {i j : Int} (hQ : 0 < Q) (h : Rd Q (rk j * Q) i) (h1 : -9218868437227405312 ≤ j) (h2 : j ≤ 9218868437227405312) : i = j := by
  have := h.le hQ h1 h2 (Int.le_refl _)
  have := h.ge hQ h1 h2 (Int.le_refl _)
  omega
theorem Rd.uniq {Q : Nat} {Z i j : Int} (hQ : 0 < Q) (h : Rd Q Z i) (h' : Rd Q Z j) : i = j := by
  have := h.mono hQ hQ h' (Int.le_refl _)
  have := h'.mono hQ hQ h (Int.le_refl _)
  omega
/-- One rung further down is less; one further up is more. -/
theorem Rd.down {Q : Nat} {Z i : Int} (hQ : 0 < Q) (h : Rd Q Z i) (hi : -9218868437227405312 < i) : rk (i - 1) * Q < Z := by
  obtain ⟨a1, _⟩ := h.2.2.2 hi
  have hq : (0 : Int) < (Q : Int) := by omega
  have := Int.mul_lt_mul_of_pos_right (rk_lt (i := i - 1) (j := i) (by omega)) hq
  rw [Int.add_mul] at a1
  omega
theorem Rd.up {Q : Nat} {Z i : Int} (hQ : 0 < Q) (h : Rd Q Z i) (hi : i < 9218868437227405312) : Z < rk (i + 1) * Q := by
  obtain ⟨a1, _⟩ := h.2.2.1 hi
  have hq : (0 : Int) < (Q : Int) := by omega
  have := Int.mul_lt_mul_of_pos_right (rk_lt (i := i) (j := i + 1) (by omega)) hq
  rw [Int.add_mul] at a1
  omega

/-! words -/
def Word (b : Nat) : Prop := b < 18446744073709551616
/-- Not a NaN. -/
def NN (b : Nat) : Prop := b < 18446744073709551616 ∧ -9218868437227405312 ≤ ix b ∧ ix b ≤ 9218868437227405312
/-- Finite. -/
def Fi (b : Nat) : Prop := b < 18446744073709551616 ∧ -9218868437227405312 < ix b ∧ ix b < 9218868437227405312
theorem Fi.nn {b : Nat} (h : Fi b) : NN b := ⟨h.1, Int.le_of_lt h.2.1, Int.le_of_lt h.2.2⟩
/-- The number, in units of the least. -/
def kv (b : Nat) : Int := rk (ix b)
/-- The word is what Z of Q of the least is rounded to. -/
def IsR (Q : Nat) (Z : Int) (b : Nat) : Prop := b < 18446744073709551616 ∧ Rd Q Z (ix b)
theorem IsR.nn {Q : Nat} {Z : Int} {b : Nat} (h : IsR Q Z b) : NN b := ⟨h.1, h.2.1, h.2.2.1⟩

theorem ix_word (s : Bool) {r : Nat} (h : r ≤ 9218868437227405312) : Ieee.double.word s r < 18446744073709551616 ∧ ix (Ieee.double.word s r) = if s then -(r : Int) else r := by
  unfold Ieee.Format.word ix
  cases s
  · simp only [Bool.false_eq_true, if_false]
    rw [if_pos (by omega)]
    exact ⟨by omega, rfl⟩
  · simp only [if_true, d_sign]
    rw [if_neg (by omega)]
    exact ⟨by omega, by omega⟩

theorem IsR.of_near {Q M r : Nat} {s : Bool} {Z : Int} (hQ : 0 < Q) (h : NearN Q M r) (hs : s = true → Z = -(M : Int)) (ht : s = false → Z = M) : IsR Q Z (Ieee.double.word s r) := by
  obtain ⟨w1, w2⟩ := ix_word s h.1
  refine ⟨w1, ?_⟩
  rw [w2]
  cases s
  · rw [ht rfl]; exact Rd.of_near hQ h
  · rw [hs rfl]; exact (Rd.of_near hQ h).neg

theorem read_fi {b : Nat} (h : Fi b) : ∃ s m e, Ieee.double.read b = .number s m e ∧ -1074 ≤ e ∧ Ieee.signed s m (e + 1074).toNat = kv b := by
  obtain ⟨h1, h2, h3⟩ := h
  have hw : ∃ s r, r < 9218868437227405312 ∧ b = Ieee.double.word s r := by
    by_cases hs : b < 9223372036854775808
    · refine ⟨false, b, ?_, rfl⟩
      unfold ix at h2 h3
      rw [if_pos hs] at h2 h3
      omega
    · refine ⟨true, b - 9223372036854775808, ?_, ?_⟩
      · unfold ix at h2 h3
        rw [if_neg hs] at h2 h3
        omega
      · unfold Ieee.Format.word
        simp only [if_true, d_sign]
        omega
  obtain ⟨s, r, hr, rfl⟩ := hw
  obtain ⟨⟨s', m, e, g⟩, k⟩ := key_word s hr
  refine ⟨s', m, e, g, read_place g, ?_⟩
  unfold key at k
  rw [g] at k
  simp only [keyOf] at k
  rw [k]
  unfold kv
  rw [(ix_word s (Nat.le_of_lt hr)).2]
  have : rungK r = rg r := rfl
  rw [this]
  cases s
  · simp only [Bool.false_eq_true, if_false]; rw [rk_nat]
  · simp only [if_true]; rw [rk_neg, rk_nat]

theorem read_inf {b : Nat} (h : NN b) : ¬ Fi b → b = 9218868437227405312 ∧ ix b = 9218868437227405312 ∨ b = 18442240474082181120 ∧ ix b = -9218868437227405312 := by
  intro hf
  obtain ⟨h1, h2, h3⟩ := h
  unfold Fi at hf
  unfold ix at *
  by_cases hs : b < 9223372036854775808
  · rw [if_pos hs] at *
    left; omega
  · rw [if_neg hs] at *
    right; omega

end Go.Proofs.YtameamgamdaibaaDoor

/-!  What sums, differences, products, quotients of floats are rounded from; comparisons by rungs. -/
namespace Go.Proofs.YtameamgamdaibaaDoor
open Go
set_option linter.unusedVariables false
set_option maxRecDepth 20000

/-- How many of the least one is. -/
def pw (k : Nat) : Nat := 2 ^ k
def un : Nat := pw 1074
theorem pw_pos (k : Nat) : 0 < pw k := Nat.two_pow_pos k
theorem un_pos : 0 < un := pw_pos 1074
theorem pow_un {K : Nat} (h : K = 1074) : 2 ^ K = un := by
  show pw K = pw 1074
  rw [h]
theorem has_K : ∃ K : Nat, K = 1074 := ⟨_, rfl⟩

theorem sgn_natAbs {Z P : Int} (hP : 0 ≤ P) (s : Bool) (h : Z ≠ 0 → s = decide (Z < 0)) : (s = true → Z * P = -((Z.natAbs : Int) * P)) ∧ (s = false → Z * P = (Z.natAbs : Int) * P) := by
  by_cases h0 : Z = 0
  · subst h0; simp
  · have e := h h0
    by_cases hl : Z < 0
    · rw [decide_eq_true hl] at e
      refine ⟨fun _ => ?_, fun h => by rw [e] at h; cases h⟩
      rw [← Int.neg_mul]; congr 1; omega
    · rw [decide_eq_false hl] at e
      refine ⟨(fun h => by rw [e] at h; cases h), fun _ => ?_⟩
      congr 1; omega

theorem signed_up (s : Bool) (m : Nat) {a b c : Nat} (h : a + b = c) : Ieee.signed s m c = Ieee.signed s m a * ((2 ^ b : Nat) : Int) := by
  subst h; exact signed_shift s m a b

theorem sum_fi {x : Nat} {dy : Ieee.Datum} {t : Bool} {n : Nat} {j Y : Int} (hx : Fi x) (hy : dy = .number t n j) (hj : -1074 ≤ j) (hY : Ieee.signed t n (j + 1074).toNat = Y) :
    ∃ r, ((Ieee.double.read x).sum dy).map Ieee.double.write = some r ∧ IsR 1 (kv x + Y) r := by
  obtain ⟨s, m, i, h1, h2, h3⟩ := read_fi hx
  subst hy
  rw [h1]
  simp only [Ieee.Datum.sum, Option.map_some]
  refine ⟨_, rfl, ?_⟩
  unfold Ieee.Format.write
  simp only
  rw [nearest_eq]
  have hb : min i j = ((min i j + 1074).toNat : Int) - ((0 : Nat) : Int) - 1074 := by omega
  have hZ : Ieee.signed s m (i - min i j).toNat * ((2 ^ (min i j + 1074).toNat : Nat) : Int) + Ieee.signed t n (j - min i j).toNat * ((2 ^ (min i j + 1074).toNat : Nat) : Int) = kv x + Y := by
    rw [← signed_up s m (a := (i - min i j).toNat) (b := (min i j + 1074).toNat) (c := (i + 1074).toNat) (by omega), ← signed_up t n (a := (j - min i j).toNat) (b := (min i j + 1074).toNat) (c := (j + 1074).toNat) (by omega), h3, hY]
  rw [← Int.add_mul] at hZ
  generalize Ieee.signed s m (i - min i j).toNat + Ieee.signed t n (j - min i j).toNat = T at hZ
  have hn := near_spec (M := T.natAbs) hb
  generalize (min i j + 1074).toNat = J at hZ hn
  have hs := sgn_natAbs (Z := T) (P := ((2 ^ J : Nat) : Int)) (Int.natCast_nonneg _) (if T = 0 then s && t else decide (T < 0)) (fun h => by rw [if_neg h])
  rw [hZ] at hs
  refine IsR.of_near (by decide) (by simpa using hn) (fun h => ?_) (fun h => ?_)
  · rw [hs.1 h, Int.natCast_mul]
  · rw [hs.2 h, Int.natCast_mul]

theorem add_rd {x y : Nat} (hx : Fi x) (hy : Fi y) : IsR 1 (kv x + kv y) (fop .add .f64 x y) := by
  obtain ⟨t, n, j, g1, g2, g3⟩ := read_fi hy
  obtain ⟨r, e, h⟩ := sum_fi hx g1 g2 g3
  have : floatBits .add .f64 x y = some r := e
  unfold fop
  rw [this]
  exact h

theorem sub_rd {x y : Nat} (hx : Fi x) (hy : Fi y) : IsR 1 (kv x - kv y) (fop .sub .f64 x y) := by
  obtain ⟨t, n, j, g1, g2, g3⟩ := read_fi hy
  have g1' : (Ieee.double.read y).opposite = .number (!t) n j := by rw [g1]; rfl
  have g3' : Ieee.signed (!t) n (j + 1074).toNat = -kv y := by
    rw [← g3]
    unfold Ieee.signed
    cases t <;> simp
  obtain ⟨r, e, h⟩ := sum_fi hx g1' g2 g3'
  have : floatBits .sub .f64 x y = some r := e
  unfold fop
  rw [this, Int.sub_eq_add_neg]
  exact h

theorem signed_val (s : Bool) (m k : Nat) : Ieee.signed s m k = (if s then -1 else 1) * ((m * 2 ^ k : Nat) : Int) := by
  unfold Ieee.signed
  rw [Nat.shiftLeft_eq]
  cases s <;> simp

theorem mul_rd {x y : Nat} (hx : Fi x) (hy : Fi y) : IsR un (kv x * kv y) (fop .mul .f64 x y) := by
  obtain ⟨s, m, i, h1, h2, h3⟩ := read_fi hx
  obtain ⟨t, n, j, g1, g2, g3⟩ := read_fi hy
  have e : floatBits .mul .f64 x y = some (Ieee.double.write (.number (s ^^ t) (m * n) (i + j))) := by
    show ((Ieee.double.read x).product (Ieee.double.read y)).map Ieee.double.write = _
    rw [h1, g1]
    rfl
  unfold fop
  rw [e, Option.getD_some]
  unfold Ieee.Format.write
  simp only
  rw [nearest_eq]
  have hb : ∀ K : Nat, K = 1074 → i + j = (((i + 1074).toNat + (j + 1074).toNat : Nat) : Int) - ((K : Nat) : Int) - 1074 := by omega
  obtain ⟨K, hK⟩ := has_K
  have hn := near_spec (M := m * n) (hb K hK)
  rw [pow_un hK] at hn
  have hv : kv x * kv y = (if s ^^ t then -1 else 1) * ((m * n * 2 ^ ((i + 1074).toNat + (j + 1074).toNat) : Nat) : Int) := by
    rw [← h3, ← g3, signed_val, signed_val, Nat.pow_add]
    generalize 2 ^ (i + 1074).toNat = a
    generalize 2 ^ (j + 1074).toNat = b
    rw [show m * n * (a * b) = m * a * (n * b) by simp only [Nat.mul_assoc, Nat.mul_left_comm n], Int.natCast_mul (m * a)]
    generalize ((m * a : Nat) : Int) = p
    generalize ((n * b : Nat) : Int) = q
    cases s <;> cases t <;> simp [Int.neg_mul, Int.mul_neg]
  refine IsR.of_near un_pos hn (fun h => ?_) (fun h => ?_)
  · rw [hv, h]; simp
  · rw [hv, h]; simp

theorem log2_ge {A n k : Nat} (hn : 0 < n) (h : n * 2 ^ k ≤ A) : 2 ^ k ≤ A / n := (Nat.le_div_iff_mul_le hn).2 (by rw [Nat.mul_comm]; exact h)

theorem quot_fi {s t : Bool} {m n : Nat} {i j : Int} (hm : m ≠ 0) (hn : n ≠ 0) (hi : -1074 ≤ i) (hj : -1074 ≤ j) :
    ∃ (M : Nat) (e : Int) (A J K : Nat), (Ieee.Datum.number s m i).quotient 54 (.number t n j) = some (.number (s ^^ t) M e) ∧ NearN (2 ^ K * n) (2 * A * 2 ^ J) (nearR M e) ∧ ∃ w : Nat, A = m * 2 ^ w ∧ (w : Int) + 1 + J + j = i + K + 1074 := by
  have hn0 : 0 < n := by omega
  have ed : (Ieee.Datum.number s m i).quotient 54 (.number t n j) = some (.number (s ^^ t) (2 * ((m <<< (54 + n.log2 - m.log2)) / n) + ((m <<< (54 + n.log2 - m.log2)) % n != 0).toNat) (i - j - ((54 + n.log2 - m.log2 : Nat) : Int) - 1)) := by
    unfold Ieee.Datum.quotient
    simp only [if_neg hn]
  rw [Nat.shiftLeft_eq] at ed
  generalize hw : 54 + n.log2 - m.log2 = w at ed
  have hL : 54 ≤ (2 * (m * 2 ^ w / n) + (m * 2 ^ w % n != 0).toNat).log2 := by
    have h1 : n < 2 ^ (n.log2 + 1) := Nat.lt_log2_self
    have h2 : 2 ^ m.log2 ≤ m := Nat.log2_self_le hm
    have h3 : n * 2 ^ 53 ≤ m * 2 ^ w := by
      have a1 : n * 2 ^ 53 ≤ 2 ^ (n.log2 + 1) * 2 ^ 53 := Nat.mul_le_mul_right _ (Nat.le_of_lt h1)
      have a2 : 2 ^ m.log2 * 2 ^ w ≤ m * 2 ^ w := Nat.mul_le_mul_right _ h2
      rw [← Nat.pow_add] at a1 a2
      have a3 : 2 ^ (n.log2 + 1 + 53) ≤ 2 ^ (m.log2 + w) := Nat.pow_le_pow_right (by decide) (by omega)
      omega
    have h4 := log2_ge hn0 h3
    have h5 : 2 ^ 54 ≤ 2 * (m * 2 ^ w / n) + (m * 2 ^ w % n != 0).toNat := by
      have : (2 : Nat) ^ 54 = 2 * 2 ^ 53 := by decide
      omega
    exact (Nat.le_log2 (by have := Nat.two_pow_pos 54; omega)).2 h5
  obtain ⟨J, K, hJK⟩ : ∃ J K : Nat, i - j - (w : Int) - 1 = (J : Int) - K - 1074 := ⟨(i - j - (w : Int) - 1 + 1074).toNat, (-(i - j - (w : Int) - 1 + 1074)).toNat, by omega⟩
  exact ⟨_, _, _, J, K, ed, near_quot hn0 rfl hL hJK, w, rfl, by omega⟩

/-- A number told of a fraction is told of the same fraction. -/
theorem NearN.scale {Q M r c : Nat} (hc : 0 < c) : NearN (Q * c) (M * c) r ↔ NearN Q M r := by
  unfold NearN
  have e1 : ∀ a, 2 * (M * c) ≤ a * (Q * c) ↔ 2 * M ≤ a * Q := fun a => by rw [← Nat.mul_assoc, ← Nat.mul_assoc]; exact Nat.mul_le_mul_right_iff hc
  have e2 : ∀ a, 2 * (M * c) = a * (Q * c) ↔ 2 * M = a * Q := fun a => by rw [← Nat.mul_assoc, ← Nat.mul_assoc]; exact Nat.mul_left_inj (Nat.ne_of_gt hc)
  have e3 : ∀ a, a * (Q * c) ≤ 2 * (M * c) ↔ a * Q ≤ 2 * M := fun a => by rw [← Nat.mul_assoc, ← Nat.mul_assoc]; exact Nat.mul_le_mul_right_iff hc
  have e4 : ∀ a, a * (Q * c) = 2 * (M * c) ↔ a * Q = 2 * M := fun a => by rw [← Nat.mul_assoc, ← Nat.mul_assoc]; exact Nat.mul_left_inj (Nat.ne_of_gt hc)
  simp only [e1, e2, e3, e4]

theorem sgn_quo (s t : Bool) (p u : Int) (c : Prop) [Decidable c] (hc : c ↔ t = true) :
    ((s ^^ t) = true → (if s then -1 else 1) * p * u * (if c then -1 else 1) = -(p * u)) ∧ ((s ^^ t) = false → (if s then -1 else 1) * p * u * (if c then -1 else 1) = p * u) := by
  by_cases hh : c
  · have := hc.1 hh
    subst this
    cases s <;> simp [hh, Int.neg_mul]
  · have : t = false := by cases t with
      | false => rfl
      | true => exact absurd (hc.2 rfl) hh
    subst this
    cases s <;> simp [hh, Int.neg_mul]

theorem quo_rd {x y : Nat} (hx : Fi x) (hy : Fi y) (h0 : kv y ≠ 0) : IsR (kv y).natAbs (kv x * un * (if kv y < 0 then -1 else 1)) (fop .quo .f64 x y) := by
  obtain ⟨s, m, i, h1, h2, h3⟩ := read_fi hx
  obtain ⟨t, n, j, g1, g2, g3⟩ := read_fi hy
  rw [signed_val] at h3 g3
  have hn : n ≠ 0 := by
    intro h
    rw [h] at g3
    simp at g3
    omega
  have hpj := Nat.two_pow_pos (j + 1074).toNat
  have hQ : (kv y).natAbs = n * 2 ^ (j + 1074).toNat := by
    rw [← g3]
    generalize n * 2 ^ (j + 1074).toNat = q
    cases t <;> simp
  have hQ0 : 0 < (kv y).natAbs := by omega
  have ht : (kv y < 0) ↔ t = true := by
    have : 0 < n * 2 ^ (j + 1074).toNat := Nat.mul_pos (by omega) hpj
    rw [← g3]
    generalize n * 2 ^ (j + 1074).toNat = q at this
    cases t <;> simp <;> omega
  have hfb : floatBits .quo .f64 x y = ((Ieee.Datum.number s m i).quotient 54 (.number t n j)).map Ieee.double.write := by
    show ((Ieee.double.read x).quotient 54 (Ieee.double.read y)).map Ieee.double.write = _
    rw [h1, g1]
  unfold fop
  rw [hfb]
  by_cases hm : m = 0
  · subst hm
    have e : (Ieee.Datum.number s 0 i).quotient 54 (.number t n j) = some (.number (s ^^ t) 0 (i - j - ((54 + n.log2 - (0 : Nat).log2 : Nat) : Int) - 1)) := by
      unfold Ieee.Datum.quotient
      simp only [if_neg hn]
      congr 2
      simp
    rw [e, Option.map_some, Option.getD_some]
    unfold Ieee.Format.write
    simp only
    rw [nearest_eq]
    have : nearR 0 (i - j - ((54 + n.log2 - (0 : Nat).log2 : Nat) : Int) - 1) = 0 := by unfold nearR; rw [if_pos rfl]
    rw [this]
    have hk : kv x = 0 := by rw [← h3]; simp
    refine IsR.of_near hQ0 near_zero (fun _ => ?_) (fun _ => ?_) <;> rw [hk] <;> simp
  · obtain ⟨M, e, A, J, K, e1, e2, w, e3, e4⟩ := quot_fi (s := s) (t := t) hm hn h2 g2
    rw [e1, Option.map_some, Option.getD_some]
    unfold Ieee.Format.write
    simp only
    rw [nearest_eq]
    -- both sides of the fraction times as much
    have hv : NearN (n * 2 ^ (j + 1074).toNat) (m * 2 ^ (i + 1074).toNat * un) (nearR M e) := by
      have ha : NearN (n * 2 ^ (j + 1074).toNat * 2 ^ K) (m * 2 ^ (i + 1074).toNat * un * 2 ^ K) (nearR M e) := by
        have hb := (NearN.scale (c := 2 ^ (j + 1074).toNat) hpj).2 e2
        have c1 : 2 ^ K * n * 2 ^ (j + 1074).toNat = n * 2 ^ (j + 1074).toNat * 2 ^ K := by rw [Nat.mul_comm (2 ^ K), Nat.mul_right_comm]
        have c2 : 2 * A * 2 ^ J * 2 ^ (j + 1074).toNat = m * 2 ^ (i + 1074).toNat * un * 2 ^ K := by
          obtain ⟨V, hV⟩ := has_K
          rw [← pow_un hV, e3]
          simp only [Nat.mul_assoc, Nat.mul_left_comm 2 m]
          congr 1
          rw [← Nat.pow_add, ← Nat.pow_add, ← Nat.pow_add, ← Nat.pow_add, ← Nat.pow_succ']
          congr 1
          omega
        rw [c1, c2] at hb
        exact hb
      exact (NearN.scale (Nat.two_pow_pos K)).1 ha
    rw [hQ]
    obtain ⟨q1, q2⟩ := sgn_quo s t ((m * 2 ^ (i + 1074).toNat : Nat) : Int) (un : Int) (kv y < 0) ht
    refine IsR.of_near (by omega) hv (fun h => ?_) (fun h => ?_)
    · rw [← h3, Int.natCast_mul (m * 2 ^ (i + 1074).toNat)]
      exact q1 h
    · rw [← h3, Int.natCast_mul (m * 2 ^ (i + 1074).toNat)]
      exact q2 h

theorem ofInt_rd (n : Int) : IsR 1 (n * un) (floatOfInt .f64 n) := by
  have e : floatOfInt .f64 n = Ieee.double.nearest (decide (n < 0)) n.natAbs 0 := by
    unfold floatOfInt FloatKind.nearest FloatKind.encode
    rfl
  rw [e, nearest_eq]
  have hb : ∀ J : Nat, J = 1074 → (0 : Int) = (J : Int) - ((0 : Nat) : Int) - 1074 := by omega
  obtain ⟨J, hJ⟩ := has_K
  have hn := near_spec (M := n.natAbs) (hb J hJ)
  rw [pow_un hJ] at hn
  have hs := sgn_natAbs (Z := n) (P := (un : Int)) (by omega) (decide (n < 0)) (fun _ => rfl)
  refine IsR.of_near (by decide) (by simpa using hn) (fun h => ?_) (fun h => ?_)
  · rw [hs.1 h, Int.natCast_mul]
  · rw [hs.2 h, Int.natCast_mul]

/-! comparisons -/
theorem order_ix {x y : Nat} (hx : NN x) (hy : NN y) : FloatKind.f64.format.order x y = some (compare (ix x) (ix y)) := by
  show (Ieee.double.read x).order (Ieee.double.read y) = _
  have hp : Ieee.double.read 9218868437227405312 = .infinity false := by decide +kernel
  have hm : Ieee.double.read 18442240474082181120 = .infinity true := by decide +kernel
  have cmp_lt : ∀ {a b : Int}, a < b → compare a b = .lt := fun h => by simp only [compare, compareOfLessAndEq, if_pos h]
  have cmp_gt : ∀ {a b : Int}, b < a → compare a b = .gt := fun {a b} h => by
    simp only [compare, compareOfLessAndEq]
    rw [if_neg (by omega), if_neg (by omega)]
  have cmp_eq : ∀ {a b : Int}, a = b → compare a b = .eq := fun {a b} h => by
    subst h
    simp [compare, compareOfLessAndEq]
  by_cases fx : Fi x
  · obtain ⟨s, m, i, h1, h2, h3⟩ := read_fi fx
    by_cases fy : Fi y
    · obtain ⟨t, n, j, g1, g2, g3⟩ := read_fi fy
      have := order_key ⟨s, m, i, h1⟩ ⟨t, n, j, g1⟩
      unfold Ieee.Format.order key at this
      rw [h1, g1] at this
      rw [h1, g1, this]
      simp only [keyOf, h3, g3, kv]
      congr 1
      rcases Int.lt_trichotomy (ix x) (ix y) with h | h | h
      · rw [cmp_lt h, cmp_lt (rk_lt h)]
      · rw [cmp_eq h, cmp_eq (by rw [h])]
      · rw [cmp_gt h, cmp_gt (rk_lt h)]
    · rcases read_inf hy fy with ⟨rfl, e⟩ | ⟨rfl, e⟩
      · rw [h1, hp, e, cmp_lt fx.2.2]; rfl
      · rw [h1, hm, e, cmp_gt fx.2.1]; rfl
  · by_cases fy : Fi y
    · obtain ⟨t, n, j, g1, g2, g3⟩ := read_fi fy
      rcases read_inf hx fx with ⟨rfl, e⟩ | ⟨rfl, e⟩
      · rw [g1, hp, e, cmp_gt fy.2.2]; rfl
      · rw [g1, hm, e, cmp_lt fy.2.1]; rfl
    · rcases read_inf hx fx with ⟨rfl, e⟩ | ⟨rfl, e⟩ <;> rcases read_inf hy fy with ⟨rfl, e'⟩ | ⟨rfl, e'⟩
      · rw [e, hp, cmp_eq rfl]; rfl
      · rw [e, e', hp, hm]; rfl
      · rw [e, e', hp, hm]; rfl
      · rw [e, hm, cmp_eq rfl]; rfl

theorem leq_ix {x y : Nat} (hx : NN x) (hy : NN y) : fcmp .leq .f64 x y = some (decide (ix x ≤ ix y)) := by
  simp only [fcmp, order_ix hx hy, compare, compareOfLessAndEq]
  rcases Int.lt_trichotomy (ix x) (ix y) with h | h | h
  · rw [if_pos h, decide_eq_true (by omega)]; rfl
  · rw [if_neg (by omega), if_pos h, decide_eq_true (by omega)]; rfl
  · rw [if_neg (by omega), if_neg (by omega), decide_eq_false (by omega)]; rfl
theorem geq_ix {x y : Nat} (hx : NN x) (hy : NN y) : fcmp .geq .f64 x y = some (decide (ix y ≤ ix x)) := by
  simp only [fcmp, order_ix hx hy, compare, compareOfLessAndEq]
  rcases Int.lt_trichotomy (ix x) (ix y) with h | h | h
  · rw [if_pos h, decide_eq_false (by omega)]; rfl
  · rw [if_neg (by omega), if_pos h, decide_eq_true (by omega)]; rfl
  · rw [if_neg (by omega), if_neg (by omega), decide_eq_true (by omega)]; rfl
theorem lss_ix {x y : Nat} (hx : NN x) (hy : NN y) : fcmp .lss .f64 x y = some (decide (ix x < ix y)) := by
  simp only [fcmp, order_ix hx hy, compare, compareOfLessAndEq]
  rcases Int.lt_trichotomy (ix x) (ix y) with h | h | h
  · rw [if_pos h, decide_eq_true (by omega)]; rfl
  · rw [if_neg (by omega), if_pos h, decide_eq_false (by omega)]; rfl
  · rw [if_neg (by omega), if_neg (by omega), decide_eq_false (by omega)]; rfl
theorem gtr_ix {x y : Nat} (hx : NN x) (hy : NN y) : fcmp .gtr .f64 x y = some (decide (ix y < ix x)) := by
  simp only [fcmp, order_ix hx hy, compare, compareOfLessAndEq]
  rcases Int.lt_trichotomy (ix x) (ix y) with h | h | h
  · rw [if_pos h, decide_eq_false (by omega)]; rfl
  · rw [if_neg (by omega), if_pos h, decide_eq_false (by omega)]; rfl
  · rw [if_neg (by omega), if_neg (by omega), decide_eq_true (by omega)]; rfl
theorem eql_ix {x y : Nat} (hx : NN x) (hy : NN y) : fcmp .eql .f64 x y = some (decide (ix x = ix y)) := by
  simp only [fcmp, order_ix hx hy, compare, compareOfLessAndEq]
  rcases Int.lt_trichotomy (ix x) (ix y) with h | h | h
  · rw [if_pos h, decide_eq_false (by omega)]; rfl
  · rw [if_neg (by omega), if_pos h, decide_eq_true (by omega)]; rfl
  · rw [if_neg (by omega), if_neg (by omega), decide_eq_false (by omega)]; rfl
theorem neq_ix {x y : Nat} (hx : NN x) (hy : NN y) : fcmp .neq .f64 x y = some (decide (ix x ≠ ix y)) := by
  simp only [fcmp, order_ix hx hy, compare, compareOfLessAndEq]
  rcases Int.lt_trichotomy (ix x) (ix y) with h | h | h
  · rw [if_pos h, decide_eq_true (by omega)]; rfl
  · rw [if_neg (by omega), if_pos h, decide_eq_false (by omega)]; rfl
  · rw [if_neg (by omega), if_neg (by omega), decide_eq_true (by omega)]; rfl

end Go.Proofs.YtameamgamdaibaaDoor

/-!  The float below and the float above, of any that is no NaN: one rung further, but for the infinities. -/
namespace Go.Proofs.YtameamgamdaibaaDoor
open Go
set_option linter.unusedVariables false
set_option maxRecDepth 100000

theorem fi_key {x : Nat} (h : Fi x) : Fin x ∧ key x = kv x := by
  obtain ⟨s, m, e, h1, h2, h3⟩ := read_fi h
  refine ⟨⟨s, m, e, h1⟩, ?_⟩
  unfold key
  rw [h1]
  exact h3

/-- The float below. -/
def dn (b : Nat) : Nat := if ix b = -9218868437227405312 then b else if ix b = 0 then 9223372036854775809 else if b < 9223372036854775808 then b - 1 else b + 1
/-- The float above. -/
def up (b : Nat) : Nat := if ix b = 9218868437227405312 then b else if ix b = 0 then 1 else if b < 9223372036854775808 then b + 1 else b - 1

theorem ix_pos {b : Nat} (h : b < 9223372036854775808) : ix b = (b : Int) := by unfold ix; rw [if_pos h]
theorem ix_neg {b : Nat} (h : ¬ b < 9223372036854775808) : ix b = -((b : Int) - 9223372036854775808) := by unfold ix; rw [if_neg h]; omega

theorem dn_ix {b : Nat} (h : NN b) : NN (dn b) ∧ ix (dn b) = if ix b = -9218868437227405312 then -9218868437227405312 else ix b - 1 := by
  have goal : dn b < 18446744073709551616 ∧ ix (dn b) = if ix b = -9218868437227405312 then -9218868437227405312 else ix b - 1 := by
    obtain ⟨h1, h2, h3⟩ := h
    unfold dn
    by_cases c1 : ix b = -9218868437227405312
    · rw [if_pos c1, if_pos c1]; exact ⟨h1, c1⟩
    · rw [if_neg c1, if_neg c1]
      by_cases c2 : ix b = 0
      · rw [if_pos c2, c2]; exact ⟨by decide, by decide⟩
      · rw [if_neg c2]
        by_cases c3 : b < 9223372036854775808
        · rw [if_pos c3]
          rw [ix_pos c3] at *
          rw [ix_pos (by omega)]
          omega
        · rw [if_neg c3]
          rw [ix_neg c3] at *
          rw [ix_neg (by omega)]
          omega
  refine ⟨⟨goal.1, ?_, ?_⟩, goal.2⟩ <;> rw [goal.2] <;> have := h.2.1 <;> have := h.2.2 <;> split <;> omega

theorem up_ix {b : Nat} (h : NN b) : NN (up b) ∧ ix (up b) = if ix b = 9218868437227405312 then 9218868437227405312 else ix b + 1 := by
  have goal : up b < 18446744073709551616 ∧ ix (up b) = if ix b = 9218868437227405312 then 9218868437227405312 else ix b + 1 := by
    obtain ⟨h1, h2, h3⟩ := h
    unfold up
    by_cases c1 : ix b = 9218868437227405312
    · rw [if_pos c1, if_pos c1]; exact ⟨h1, c1⟩
    · rw [if_neg c1, if_neg c1]
      by_cases c2 : ix b = 0
      · rw [if_pos c2, c2]; exact ⟨by decide, by decide⟩
      · rw [if_neg c2]
        by_cases c3 : b < 9223372036854775808
        · rw [if_pos c3]
          rw [ix_pos c3] at *
          rw [ix_pos (by omega)]
          omega
        · rw [if_neg c3]
          rw [ix_neg c3] at *
          rw [ix_neg (by omega)]
          omega
  refine ⟨⟨goal.1, ?_, ?_⟩, goal.2⟩ <;> rw [goal.2] <;> have := h.2.1 <;> have := h.2.2 <;> split <;> omega

theorem kv_pos {x : Nat} : 0 < kv x ↔ 0 < ix x := by
  unfold kv
  rw [show (0 : Int) = rk 0 from rfl, rk_lt_iff]
  exact Iff.rfl
theorem kv_neg {x : Nat} : kv x < 0 ↔ ix x < 0 := by
  unfold kv
  rw [show (0 : Int) = rk 0 from rfl, rk_lt_iff]
  exact Iff.rfl




end Go.Proofs.YtameamgamdaibaaDoor

/-!  Whole numbers as floats, by their rungs: sums, differences, products, whole quotients. -/
namespace Go.Proofs.YtameamgamdaibaaDoor
open Go
set_option linter.unusedVariables false
set_option maxRecDepth 20000

/-- A whole number as a float. -/
def F (n : Int) : Nat := floatOfInt .f64 n
theorem F_rd (n : Int) : IsR 1 (n * un) (F n) := ofInt_rd n
theorem F_nn (n : Int) : NN (F n) := (F_rd n).nn
theorem F_le {n m : Int} (h : n ≤ m) : ix (F n) ≤ ix (F m) := by
  refine (F_rd n).2.mono (by decide) (by decide) (F_rd m).2 ?_
  have := Int.mul_le_mul_of_nonneg_right h (Int.natCast_nonneg un)
  omega

theorem fi_of {x : Nat} (h : x < 18446744073709551616) (hf : Fin x) : Fi x := by
  obtain ⟨s, r, hr, hw, _⟩ := fin_word h hf
  have := (ix_word s (Nat.le_of_lt hr)).2
  rw [← hw] at this
  refine ⟨h, ?_, ?_⟩ <;> rw [this] <;> cases s <;> simp <;> omega

theorem F_fi {n : Int} (h : n.natAbs < 9007199254740992) : Fi (F n) ∧ kv (F n) = n * un := by
  have hz : IsZ (F n) n := IsZ.ofInt h
  obtain ⟨k1, k2⟩ := hz.key
  have hf := fi_of (F_rd n).1 k1
  refine ⟨hf, ?_⟩
  obtain ⟨s, m, e, h1, h2, h3⟩ := read_fi hf
  have : key (F n) = kv (F n) := by
    unfold key
    rw [h1]
    exact h3
  obtain ⟨K, hK⟩ := has_K
  have k3 : key (F n) = n * ((2 ^ K : Nat) : Int) := by subst hK; exact k2
  rw [← this, k3, pow_un hK]

theorem F_add {x y : Int} (hx : x.natAbs < 9007199254740992) (hy : y.natAbs < 9007199254740992) : NN (fop .add .f64 (F x) (F y)) ∧ ix (fop .add .f64 (F x) (F y)) = ix (F (x + y)) := by
  obtain ⟨a1, a2⟩ := F_fi hx
  obtain ⟨b1, b2⟩ := F_fi hy
  have h := add_rd a1 b1
  rw [a2, b2, ← Int.add_mul] at h
  exact ⟨h.nn, h.2.uniq (by decide) (F_rd (x + y)).2⟩
theorem F_sub {x y : Int} (hx : x.natAbs < 9007199254740992) (hy : y.natAbs < 9007199254740992) : NN (fop .sub .f64 (F x) (F y)) ∧ ix (fop .sub .f64 (F x) (F y)) = ix (F (x - y)) := by
  obtain ⟨a1, a2⟩ := F_fi hx
  obtain ⟨b1, b2⟩ := F_fi hy
  have h := sub_rd a1 b1
  rw [a2, b2, ← Int.sub_mul] at h
  exact ⟨h.nn, h.2.uniq (by decide) (F_rd (x - y)).2⟩

theorem rd_same {Q Q' : Nat} {Z Z' i i' : Int} (hQ : 0 < Q) (hQ' : 0 < Q') (h : Rd Q Z i) (h' : Rd Q' Z' i') (he : Z * Q' = Z' * Q) : i = i' := by
  have := h.mono hQ hQ' h' (by omega)
  have := h'.mono hQ' hQ h (by omega)
  omega

theorem F_mul {x y : Int} (hx : x.natAbs < 9007199254740992) (hy : y.natAbs < 9007199254740992) : NN (fop .mul .f64 (F x) (F y)) ∧ ix (fop .mul .f64 (F x) (F y)) = ix (F (x * y)) := by
  obtain ⟨a1, a2⟩ := F_fi hx
  obtain ⟨b1, b2⟩ := F_fi hy
  have h := mul_rd a1 b1
  rw [a2, b2] at h
  refine ⟨h.nn, rd_same un_pos (by decide) h.2 (F_rd (x * y)).2 ?_⟩
  simp only [Int.mul_assoc, Int.mul_left_comm y, Int.natCast_one, Int.mul_one]
theorem F_quo {x t : Int} (hx : (x * t).natAbs < 9007199254740992) (ht : t.natAbs < 9007199254740992) (h0 : t ≠ 0) : NN (fop .quo .f64 (F (x * t)) (F t)) ∧ ix (fop .quo .f64 (F (x * t)) (F t)) = ix (F x) := by
  obtain ⟨a1, a2⟩ := F_fi hx
  obtain ⟨b1, b2⟩ := F_fi ht
  have hu : (0 : Int) < (un : Int) := by have := un_pos; omega
  have hk : kv (F t) ≠ 0 := by rw [b2]; exact Int.mul_ne_zero h0 (by omega)
  have h := quo_rd a1 b1 hk
  have hq : 0 < (kv (F t)).natAbs := by omega
  refine ⟨h.nn, rd_same hq (by decide) h.2 (F_rd x).2 ?_⟩
  rw [a2, b2]
  rcases Int.lt_or_lt_of_ne h0 with hl | hl
  · have hn : t * (un : Int) < 0 := Int.mul_neg_of_neg_of_pos hl hu
    rw [if_pos hn]
    have e : ((t * (un : Int)).natAbs : Int) = -(t * un) := by omega
    rw [e]
    generalize (un : Int) = u
    simp only [Int.mul_assoc, Int.mul_left_comm u, Int.mul_neg, Int.mul_one, Int.natCast_one]
  · have hp : 0 < t * (un : Int) := Int.mul_pos hl hu
    rw [if_neg (by omega)]
    have e : ((t * (un : Int)).natAbs : Int) = t * un := by omega
    rw [e]
    generalize (un : Int) = u
    simp only [Int.mul_assoc, Int.mul_left_comm u, Int.mul_one, Int.natCast_one]
theorem F_pos {t : Int} (ht : t.natAbs < 9007199254740992) (h0 : 0 < t) : 0 < ix (F t) := by
  obtain ⟨b1, b2⟩ := F_fi ht
  have hu : (0 : Int) < (un : Int) := by have := un_pos; omega
  have := Int.mul_pos h0 hu
  rw [← b2] at this
  unfold kv at this
  rw [show (0 : Int) = rk 0 from rfl, rk_lt_iff] at this
  exact this
theorem F_neg {t : Int} (ht : t.natAbs < 9007199254740992) (h0 : t < 0) : ix (F t) < 0 := by
  obtain ⟨b1, b2⟩ := F_fi ht
  have hu : (0 : Int) < (un : Int) := by have := un_pos; omega
  have := Int.mul_neg_of_neg_of_pos h0 hu
  rw [← b2] at this
  unfold kv at this
  rw [show (0 : Int) = rk 0 from rfl, rk_lt_iff] at this
  exact this
theorem F_zero : ix (F 0) = 0 := by
  have := (F_rd 0).2
  have e : (0 : Int) * (un : Int) = rk 0 * ((1 : Nat) : Int) := by rw [rk_zero, Int.zero_mul, Int.zero_mul]
  rw [e] at this
  exact Rd.eq (Q := 1) (j := 0) (by decide) this (by decide) (by decide)

end Go.Proofs.YtameamgamdaibaaDoor

/-!  Floats of so many binades: their sums and differences; questions in short. -/
namespace Go.Proofs.YtameamgamdaibaaDoor
open Go
set_option linter.unusedVariables false
set_option linter.unusedSimpArgs false
set_option maxRecDepth 100000

def cmpF (op : BinOp) (x y : Nat) (c : Bool) : Obl := .cmp op 31 (.float .f64 x) (.float .f64 y) c
def cmpI (op : BinOp) (x y : Int) (c : Bool) : Obl := .cmp op 3 (.int .i64 x) (.int .i64 y) c
def isG (n : Nat) : Ans := ⟨fun _ => .float .f64 n, []⟩
def fl2 (a b : Nat) : Value := .agg #[.float .f64 a, .float .f64 b]

/-- A function that makes no memory that lasts. -/
theorem quiet_of' {ask : FuncId → Nat} {askC : BinOp → Value → Value → Bool} {f : FuncId} {args : Array Value} {s : List Ans} {v : Value} {l : List Obl} (h : (askN ask askC 12 f args #[] s).map (fun r => (r.1, r.2.2)) = some (v, l)) (hl : okAll Tryd.prog l) (ha : closA args = true) (hv : closN 4 v = true) : Runs Tryd.prog f args #[] v #[] := by
  obtain ⟨H', h⟩ := tells_of h hl
  exact h.quiet ha hv #[]

/-- No more than n binades. -/
def Bd (n : Nat) (b : Nat) : Prop := b < 18446744073709551616 ∧ (ix b).natAbs ≤ n * 4503599627370496
theorem Bd.fi {n b : Nat} (h : Bd n b) (hn : n < 2047) : Fi b := ⟨h.1, by have := h.2; omega, by have := h.2; omega⟩
theorem Bd.mono {n m b : Nat} (h : Bd n b) (hn : n ≤ m) : Bd m b := ⟨h.1, Nat.le_trans h.2 (Nat.mul_le_mul_right _ hn)⟩

theorem rg_dbl {R : Nat} (h : 4503599627370496 ≤ R) : rg (R + 4503599627370496) = 2 * rg R := by
  unfold rg
  rw [if_neg (by omega), if_neg (by omega)]
  have e1 : (R + 4503599627370496) / 4503599627370496 - 1 = (R / 4503599627370496 - 1) + 1 := by omega
  have e2 : (R + 4503599627370496) % 4503599627370496 = R % 4503599627370496 := by omega
  rw [e1, e2, Nat.pow_succ]
  generalize 2 ^ (R / 4503599627370496 - 1) = P
  rw [Nat.mul_comm P 2, Nat.mul_left_comm]

theorem rk_abs (i : Int) : (rk i).natAbs = rg i.natAbs := by
  unfold rk
  by_cases h : 0 ≤ i
  · rw [if_pos h]
    have : i.toNat = i.natAbs := by omega
    rw [this]; omega
  · rw [if_neg h]
    have : (-i).toNat = i.natAbs := by omega
    rw [this]; omega

theorem Bd.kv {n b : Nat} (h : Bd n b) : (kv b).natAbs ≤ rg (n * 4503599627370496) := by
  unfold Go.Proofs.YtameamgamdaibaaDoor.kv
  rw [rk_abs]
  exact rg_mono' h.2

/-- What is rounded from no more than a rung's size is no more than it. -/
theorem Rd.abs {Q : Nat} {Z i : Int} {R : Nat} (hQ : 0 < Q) (h : Rd Q Z i) (hR : R ≤ 9218868437227405312) (hz : Z.natAbs ≤ rg R * Q) : i.natAbs ≤ R := by
  have e1 : rk (R : Int) * (Q : Int) = ((rg R * Q : Nat) : Int) := by rw [rk_nat, Int.natCast_mul]
  have e2 : rk (-(R : Int)) * (Q : Int) = -((rg R * Q : Nat) : Int) := by rw [rk_neg, Int.neg_mul, rk_nat, Int.natCast_mul]
  have h1 := h.le (j := (R : Int)) hQ (by omega) (by omega) (by rw [e1]; omega)
  have h2 := h.ge (j := -(R : Int)) hQ (by omega) (by omega) (by rw [e2]; omega)
  omega

theorem Bd.add {n x y : Nat} (hx : Bd n x) (hy : Bd n y) (hn : 0 < n) (hn2 : n < 2046) : Bd (n + 1) (fop .add .f64 x y) := by
  have h := add_rd (hx.fi (by omega)) (hy.fi (by omega))
  refine ⟨h.1, h.2.abs (by decide) (by omega) ?_⟩
  have h1 := hx.kv
  have h2 := hy.kv
  have e : rg ((n + 1) * 4503599627370496) = 2 * rg (n * 4503599627370496) := by rw [Nat.add_mul, Nat.one_mul]; exact rg_dbl (by omega)
  rw [e]
  omega
theorem Bd.sub {n x y : Nat} (hx : Bd n x) (hy : Bd n y) (hn : 0 < n) (hn2 : n < 2046) : Bd (n + 1) (fop .sub .f64 x y) := by
  have h := sub_rd (hx.fi (by omega)) (hy.fi (by omega))
  refine ⟨h.1, h.2.abs (by decide) (by omega) ?_⟩
  have h1 := hx.kv
  have h2 := hy.kv
  have e : rg ((n + 1) * 4503599627370496) = 2 * rg (n * 4503599627370496) := by rw [Nat.add_mul, Nat.one_mul]; exact rg_dbl (by omega)
  rw [e]
  omega

/-- What is not less than x and what is added. -/
theorem add_ge {x y : Nat} (hx : Fi x) (hy : Fi y) (h : 0 ≤ ix y) : ix x ≤ ix (fop .add .f64 x y) := by
  have hr := add_rd hx hy
  refine hr.2.ge (by decide) (Int.le_of_lt hx.2.1) (Int.le_of_lt hx.2.2) ?_
  have h2 : rk 0 ≤ kv y := rk_le h
  rw [rk_zero] at h2
  show rk (ix x) * ((1 : Nat) : Int) ≤ kv x + kv y
  unfold kv at *
  omega
theorem sub_le {x y : Nat} (hx : Fi x) (hy : Fi y) (h : 0 ≤ ix y) : ix (fop .sub .f64 x y) ≤ ix x := by
  have hr := sub_rd hx hy
  refine hr.2.le (by decide) (Int.le_of_lt hx.2.1) (Int.le_of_lt hx.2.2) ?_
  have h2 : rk 0 ≤ kv y := rk_le h
  rw [rk_zero] at h2
  show kv x - kv y ≤ rk (ix x) * ((1 : Nat) : Int)
  unfold kv at *
  omega
theorem fi_zero : Fi 0 ∧ ix 0 = 0 := ⟨⟨by decide, by decide, by decide⟩, by decide⟩
/-- Nought less a number is it, turned. -/
theorem neg_ix {x : Nat} (h : NN x) : NN (fop .sub .f64 0 x) ∧ ix (fop .sub .f64 0 x) = -ix x := by
  by_cases hf : Fi x
  · have hr := sub_rd fi_zero.1 hf
    have e : kv 0 - kv x = rk (-ix x) * ((1 : Nat) : Int) := by
      rw [rk_neg]
      unfold kv
      rw [fi_zero.2, rk_zero]
      omega
    rw [e] at hr
    exact ⟨hr.nn, hr.2.eq (by decide) (by have := h.2; omega) (by have := h.2; omega)⟩
  · rcases read_inf h hf with ⟨rfl, e⟩ | ⟨rfl, e⟩
    · have h2 : fop .sub .f64 0 9218868437227405312 = 18442240474082181120 := by decide +kernel
      rw [h2, e]
      exact ⟨⟨by decide, by decide, by decide⟩, by decide⟩
    · have h2 : fop .sub .f64 0 18442240474082181120 = 9218868437227405312 := by decide +kernel
      rw [h2, e]
      exact ⟨⟨by decide, by decide, by decide⟩, by decide⟩

theorem F_one : ix (F 1) = 1023 * 4503599627370496 := by decide +kernel
theorem F_top : ix (F 4503599627370496) = 1075 * 4503599627370496 := by decide +kernel
theorem F_mone : ix (F (-1)) = -(1023 * 4503599627370496) := by decide +kernel
theorem F_mtop : ix (F (-4503599627370496)) = -(1075 * 4503599627370496) := by decide +kernel

theorem F_size {n : Int} (h : n ≠ 0) (hn : n.natAbs ≤ 4503599627370496) : 1023 * 4503599627370496 ≤ (ix (F n)).natAbs ∧ (ix (F n)).natAbs ≤ 1075 * 4503599627370496 := by
  rcases Int.lt_or_lt_of_ne h with hl | hl
  · have h1 := F_le (n := n) (m := -1) (by omega)
    have h2 := F_le (n := -4503599627370496) (m := n) (by omega)
    rw [F_mone] at h1
    rw [F_mtop] at h2
    omega
  · have h1 := F_le (n := 1) (m := n) (by omega)
    have h2 := F_le (n := n) (m := 4503599627370496) (by omega)
    rw [F_one] at h1
    rw [F_top] at h2
    omega

end Go.Proofs.YtameamgamdaibaaDoor

/-!  Whole numbers over powers of two as floats: sums, differences, products of such are exact, as long as they are small. -/
namespace Go.Proofs.YtameamgamdaibaaDoor
open Go
set_option linter.unusedVariables false
set_option linter.unusedSimpArgs false

theorem pw_add (a b : Nat) : pw a * pw b = pw (a + b) := (Nat.pow_add 2 a b).symm
theorem pw_le {a b : Nat} (h : a ≤ b) : pw a ≤ pw b := Nat.pow_le_pow_right (by decide) h
theorem rg_bd {n : Nat} (h : 1 ≤ n) : rg (n * 4503599627370496) = pw (51 + n) := by
  have e : n * 4503599627370496 = (n - 1) * 4503599627370496 + 4503599627370496 := by omega
  rw [e, rg_at (E := n - 1) (.inr (Nat.le_refl _)) (by decide)]
  have : (4503599627370496 : Nat) = pw 52 := rfl
  rw [this]
  show pw 52 * pw (n - 1) = _
  rw [pw_add]
  congr 1; omega
theorem rep_nat {N e : Nat} (h : N < 9007199254740992) (he : e ≤ 1000) : ∃ R : Nat, R < 9218868437227405312 ∧ rg R * pw e = N * pw 1074 := by
  by_cases h0 : N = 0
  · subst h0; exact ⟨0, by decide, by rw [rg_zero, Nat.zero_mul, Nat.zero_mul]⟩
  · have l1 := Nat.log2_self_le h0
    have l2 := @Nat.lt_log2_self N
    have hL : N.log2 ≤ 52 := by
      have : N.log2 < 53 := (Nat.log2_lt h0).2 h
      omega
    obtain ⟨L, hLe⟩ : ∃ L, L = N.log2 := ⟨_, rfl⟩
    rw [← hLe] at l1 l2 hL
    have k1 : 4503599627370496 ≤ N * pw (52 - L) := by
      have : pw L * pw (52 - L) = 4503599627370496 := by rw [pw_add, show L + (52 - L) = 52 by omega]; rfl
      rw [← this]; exact Nat.mul_le_mul_right _ l1
    have k2 : N * pw (52 - L) < 9007199254740992 := by
      have : pw (L + 1) * pw (52 - L) = 9007199254740992 := by rw [pw_add, show L + 1 + (52 - L) = 53 by omega]; rfl
      rw [← this]; exact Nat.mul_lt_mul_of_pos_right l2 (pw_pos _)
    refine ⟨(1074 - e - (52 - L)) * 4503599627370496 + N * pw (52 - L), by omega, ?_⟩
    rw [rg_at (.inr k1) (Nat.le_of_lt k2)]
    show N * pw (52 - L) * pw (1074 - e - (52 - L)) * pw e = _
    rw [Nat.mul_assoc, Nat.mul_assoc, pw_add, pw_add]
    congr 2; omega
theorem rep_int {N : Int} {e : Nat} (h : N.natAbs < 9007199254740992) (he : e ≤ 1000) : ∃ j : Int, -9218868437227405312 < j ∧ j < 9218868437227405312 ∧ rk j * pw e = N * un := by
  obtain ⟨R, h1, h2⟩ := rep_nat h he
  have e1 : (rg R : Int) * (pw e : Int) = (N.natAbs : Int) * (un : Int) := by
    show (rg R : Int) * (pw e : Int) = (N.natAbs : Int) * ((pw 1074 : Nat) : Int)
    exact_mod_cast h2
  by_cases hn : 0 ≤ N
  · refine ⟨(R : Int), by omega, by omega, ?_⟩
    rw [rk_nat, e1]
    congr 1; omega
  · refine ⟨-(R : Int), by omega, by omega, ?_⟩
    rw [rk_neg, rk_nat, Int.neg_mul, e1, ← Int.neg_mul]
    congr 1; omega

/-- A float that is a whole number over 2 to the e. -/
structure Dy (e : Nat) (N : Int) (x : Nat) : Prop where
  fi : Fi x
  eq : kv x * pw e = N * un

theorem pwi_pos (e : Nat) : (0 : Int) < (pw e : Int) := by have := pw_pos e; omega
theorem Dy.of {e : Nat} {N : Int} (hN : N.natAbs < 9007199254740992) (he : e ≤ 1000) {Q : Nat} (hQ : 0 < Q) {Z : Int} {s : Nat} (hs : IsR Q Z s) (hz : Z * pw e = N * un * Q) : Dy e N s := by
  obtain ⟨j, j1, j2, j3⟩ := rep_int hN he
  have : Z = rk j * Q := by
    have h : Z * pw e = rk j * Q * pw e := by rw [hz, ← j3, Int.mul_right_comm]
    exact Int.eq_of_mul_eq_mul_right (Int.ne_of_gt (pwi_pos e)) h
  rw [this] at hs
  have e1 := hs.2.eq hQ (by omega) (by omega)
  refine ⟨⟨hs.1, by omega, by omega⟩, ?_⟩
  show rk (ix s) * _ = _
  rw [e1, j3]
theorem Dy.add {e : Nat} {N M : Int} {x y : Nat} (h : Dy e N x) (h' : Dy e M y) (hN : (N + M).natAbs < 9007199254740992) (he : e ≤ 1000) : Dy e (N + M) (fop .add .f64 x y) :=
  Dy.of hN he (by decide) (add_rd h.fi h'.fi) (by rw [Int.add_mul, h.eq, h'.eq, Int.natCast_one, Int.mul_one, Int.add_mul])
theorem Dy.sub {e : Nat} {N M : Int} {x y : Nat} (h : Dy e N x) (h' : Dy e M y) (hN : (N - M).natAbs < 9007199254740992) (he : e ≤ 1000) : Dy e (N - M) (fop .sub .f64 x y) :=
  Dy.of hN he (by decide) (sub_rd h.fi h'.fi) (by rw [Int.sub_mul, h.eq, h'.eq, Int.natCast_one, Int.mul_one, Int.sub_mul])
theorem pw_addI (a b : Nat) : ((pw (a + b) : Nat) : Int) = (pw a : Int) * (pw b : Int) := by rw [← pw_add]; exact Int.natCast_mul ..
theorem Dy.mul {e f : Nat} {N M : Int} {x y : Nat} (h : Dy e N x) (h' : Dy f M y) (hN : (N * M).natAbs < 9007199254740992) (he : e + f ≤ 1000) : Dy (e + f) (N * M) (fop .mul .f64 x y) :=
  Dy.of hN he un_pos (mul_rd h.fi h'.fi) (by
    have e1 := h.eq
    have e2 := h'.eq
    rw [pw_addI]
    generalize (pw e : Int) = p at *
    generalize (pw f : Int) = q at *
    generalize (un : Int) = u at *
    grind)
theorem Dy.up {e : Nat} {N : Int} {x : Nat} (h : Dy e N x) (k : Nat) : Dy (e + k) (N * pw k) x := ⟨h.fi, by
  have e1 := h.eq
  rw [pw_addI]
  generalize (pw e : Int) = p at *
  generalize (pw k : Int) = q at *
  generalize (un : Int) = u at *
  grind⟩
theorem Dy.cast {e e' : Nat} {N N' : Int} {x : Nat} (h : Dy e N x) (he : e = e') (hN : N = N') : Dy e' N' x := by subst he; subst hN; exact h
theorem Dy.F {n : Int} (h : n.natAbs < 9007199254740992) : Dy 0 n (F n) := ⟨(F_fi h).1, by rw [(F_fi h).2]; show n * un * ((1 : Nat) : Int) = _; rw [Int.natCast_one, Int.mul_one]⟩

end Go.Proofs.YtameamgamdaibaaDoor
