/- Whole numbers over powers of two as floats: sums, differences, products of such are exact, as long as they are small. -/
import Derived.Test.YtnbbmihlokajaaaMemR
namespace Go.Proofs.Ytnbbmihlokajaaa
open Go
set_option linter.unusedVariables false
set_option linter.unusedSimpArgs false

theorem rep_nat {N e : Nat} (h : N < 9007199254740992) (he : e ≤ 1000) : ∃ R : Nat, R < 9218868437227405312 ∧ rg R * pw e = N * pw 1074 := by
  by_cases h0 : N = 0
  · subst h0; exact ⟨0, by decide, by rw [rg_zero, Nat.zero_mul, Nat.zero_mul]⟩
  · have l1 := Nat.log2_self_le h0
    have l2 := @Nat.lt_log2_self N
    have hL : N.log2 ≤ 52 := by
      have : N.log2 < 53 := (Nat.log2_lt h0).2 h
      omega
    obtain ⟨L, hLe⟩ : ∃ L, L = N.log2 := ⟨_, rfl⟩
    rw [← hLe] at l1 l2 hL
    have k1 : 4503599627370496 ≤ N * pw (52 - L) := by
      have : pw L * pw (52 - L) = 4503599627370496 := by rw [pw_add, show L + (52 - L) = 52 by omega]; rfl
      rw [← this]; exact Nat.mul_le_mul_right _ l1
    have k2 : N * pw (52 - L) < 9007199254740992 := by
      have : pw (L + 1) * pw (52 - L) = 9007199254740992 := by rw [pw_add, show L + 1 + (52 - L) = 53 by omega]; rfl
      rw [← this]; exact Nat.mul_lt_mul_of_pos_right l2 (pw_pos _)
    refine ⟨(1074 - e - (52 - L)) * 4503599627370496 + N * pw (52 - L), by omega, ?_⟩
    rw [rg_at (.inr k1) (Nat.le_of_lt k2)]
    show N * pw (52 - L) * pw (1074 - e - (52 - L)) * pw e = _
    rw [Nat.mul_assoc, Nat.mul_assoc, pw_add, pw_add]
    congr 2; omega
theorem rep_int {N : Int} {e : Nat} (h : N.natAbs < 9007199254740992) (he : e ≤ 1000) : ∃ j : Int, -9218868437227405312 < j ∧ j < 9218868437227405312 ∧ rk j * pw e = N * un := by
  obtain ⟨R, h1, h2⟩ := rep_nat h he
  have e1 : (rg R : Int) * (pw e : Int) = (N.natAbs : Int) * (un : Int) := by
    show (rg R : Int) * (pw e : Int) = (N.natAbs : Int) * ((pw 1074 : Nat) : Int)
    exact_mod_cast h2
  by_cases hn : 0 ≤ N
  · refine ⟨(R : Int), by omega, by omega, ?_⟩
    rw [rk_nat, e1]
    congr 1; omega
  · refine ⟨-(R : Int), by omega, by omega, ?_⟩
    rw [rk_neg, rk_nat, Int.neg_mul, e1, ← Int.neg_mul]
    congr 1; omega

/-- A float that is a whole number over 2 to the e. -/
structure Dy (e : Nat) (N : Int) (x : Nat) : Prop where
  fi : Fi x
  eq : kv x * pw e = N * un

theorem pwi_pos (e : Nat) : (0 : Int) < (pw e : Int) := by have := pw_pos e; omega
theorem Dy.of {e : Nat} {N : Int} (hN : N.natAbs < 9007199254740992) (he : e ≤ 1000) {Q : Nat} (hQ : 0 < Q) {Z : Int} {s : Nat} (hs : IsR Q Z s) (hz : Z * pw e = N * un * Q) : Dy e N s := by
  obtain ⟨j, j1, j2, j3⟩ := rep_int hN he
  have : Z = rk j * Q := by
    have h : Z * pw e = rk j * Q * pw e := by rw [hz, ← j3, Int.mul_right_comm]
    exact Int.eq_of_mul_eq_mul_right (Int.ne_of_gt (pwi_pos e)) h
  rw [this] at hs
  have e1 := hs.2.eq hQ (by omega) (by omega)
  refine ⟨⟨hs.1, by omega, by omega⟩, ?_⟩
  show rk (ix s) * _ = _
  rw [e1, j3]
theorem Dy.add {e : Nat} {N M : Int} {x y : Nat} (h : Dy e N x) (h' : Dy e M y) (hN : (N + M).natAbs < 9007199254740992) (he : e ≤ 1000) : Dy e (N + M) (fop .add .f64 x y) :=
  Dy.of hN he (by decide) (add_rd h.fi h'.fi) (by rw [Int.add_mul, h.eq, h'.eq, Int.natCast_one, Int.mul_one, Int.add_mul])
theorem Dy.sub {e : Nat} {N M : Int} {x y : Nat} (h : Dy e N x) (h' : Dy e M y) (hN : (N - M).natAbs < 9007199254740992) (he : e ≤ 1000) : Dy e (N - M) (fop .sub .f64 x y) :=
  Dy.of hN he (by decide) (sub_rd h.fi h'.fi) (by rw [Int.sub_mul, h.eq, h'.eq, Int.natCast_one, Int.mul_one, Int.sub_mul])
theorem pw_addI (a b : Nat) : ((pw (a + b) : Nat) : Int) = (pw a : Int) * (pw b : Int) := by rw [← pw_add]; exact Int.natCast_mul ..
theorem Dy.mul {e f : Nat} {N M : Int} {x y : Nat} (h : Dy e N x) (h' : Dy f M y) (hN : (N * M).natAbs < 9007199254740992) (he : e + f ≤ 1000) : Dy (e + f) (N * M) (fop .mul .f64 x y) :=
  Dy.of hN he un_pos (mul_rd h.fi h'.fi) (by
    have e1 := h.eq
    have e2 := h'.eq
    rw [pw_addI]
    generalize (pw e : Int) = p at *
    generalize (pw f : Int) = q at *
    generalize (un : Int) = u at *
    grind)
theorem Dy.up {e : Nat} {N : Int} {x : Nat} (h : Dy e N x) (k : Nat) : Dy (e + k) (N * pw k) x := ⟨h.fi, by
  have e1 := h.eq
  rw [pw_addI]
  generalize (pw e : Int) = p at *
  generalize (pw k : Int) = q at *
  generalize (un : Int) = u at *
  grind⟩
theorem Dy.cast {e e' : Nat} {N N' : Int} {x : Nat} (h : Dy e N x) (he : e = e') (hN : N = N') : Dy e' N' x := by subst he; subst hN; exact h
theorem Dy.F {n : Int} (h : n.natAbs < 9007199254740992) : Dy 0 n (F n) := ⟨(F_fi h).1, by rw [(F_fi h).2]; show n * un * ((1 : Nat) : Int) = _; rw [Int.natCast_one, Int.mul_one]⟩
/-- As a rational number. -/
theorem Dy.rat {e : Nat} {N : Int} {x : Nat} (h : Dy e N x) {q : Rat} (hq : (N : Rat) = q * ((pw e : Nat) : Rat)) : kR x = q * uR := by
  have h1 : ((kv x : Int) : Rat) * ((pw e : Nat) : Rat) = ((N : Int) : Rat) * ((un : Nat) : Rat) := by exact_mod_cast h.eq
  have hp : ((pw e : Nat) : Rat) ≠ 0 := by
    have : (0 : Rat) < ((pw e : Nat) : Rat) := by exact_mod_cast pw_pos e
    grind
  show ((kv x : Int) : Rat) = _
  rw [hq] at h1
  have h2 : (((kv x : Int) : Rat) - q * uR) * ((pw e : Nat) : Rat) = 0 := by grind
  rcases Rat.mul_eq_zero.1 h2 with h3 | h3
  · grind
  · exact absurd h3 hp

end Go.Proofs.Ytnbbmihlokajaaa
