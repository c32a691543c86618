/- Wider from-tos, and from-tos the other way about: what holds of the ends. -/
import Derived.Test.YtpmdpbljgidllaaIvMore
namespace Go.Proofs.Ytpmdpbljgidllaa
open Go
set_option linter.unusedVariables false
set_option linter.unusedSimpArgs false
set_option maxRecDepth 100000

theorem dn_eq {x y : Nat} (hx : NN x) (hy : NN y) (h : ix x = ix y) : ix (dn x) = ix (dn y) := by
  rw [(dn_ix hx).2, (dn_ix hy).2, h]
theorem up_eq {x y : Nat} (hx : NN x) (hy : NN y) (h : ix x = ix y) : ix (up x) = ix (up y) := by
  rw [(up_ix hx).2, (up_ix hy).2, h]
theorem IsR.same_ix {Q : Nat} {Z Z' : Int} {x y : Nat} (hQ : 0 < Q) (h : IsR Q Z x) (h' : IsR Q Z' y) (he : Z = Z') : ix x = ix y := by
  subst he
  exact Rd.uniq hQ h.2 h'.2
theorem IsR.turn_ix {Q : Nat} {Z Z' : Int} {x y : Nat} (hQ : 0 < Q) (h : IsR Q Z x) (h' : IsR Q Z' y) (he : Z' = -Z) : ix x = -ix y := by
  subst he
  have := Rd.uniq hQ h.2.neg h'.2
  omega

/-- Of the same four the ends are the same. -/
theorem Ends.ge {a b c d lo hi a' b' c' d' lo' hi' : Nat} (e : Ends a b c d lo hi) (e' : Ends a' b' c' d' lo' hi')
    (h : ∀ x, x = a' ∨ x = b' ∨ x = c' ∨ x = d' → (ix a ≤ ix x ∨ ix b ≤ ix x ∨ ix c ≤ ix x ∨ ix d ≤ ix x) ∧ (ix x ≤ ix a ∨ ix x ≤ ix b ∨ ix x ≤ ix c ∨ ix x ≤ ix d)) : ix lo ≤ ix lo' ∧ ix hi' ≤ ix hi := by
  have := e.lo_a; have := e.lo_b; have := e.lo_c; have := e.lo_d
  have := e.hi_a; have := e.hi_b; have := e.hi_c; have := e.hi_d
  have h1 := (h lo' e'.lo_is).1
  have h2 := (h hi' e'.hi_is).2
  constructor <;> omega

/-- A product between the corners'. -/
theorem mul_corner {a b c d x y : Nat} (ha : Fi a) (hb : Fi b) (hc : Fi c) (hd : Fi d) (hx : Fi x) (hy : Fi y) (h1 : ix a ≤ ix x) (h2 : ix x ≤ ix b) (h3 : ix c ≤ ix y) (h4 : ix y ≤ ix d) :
    (ix (fop .mul .f64 a c) ≤ ix (fop .mul .f64 x y) ∨ ix (fop .mul .f64 a d) ≤ ix (fop .mul .f64 x y) ∨ ix (fop .mul .f64 b c) ≤ ix (fop .mul .f64 x y) ∨ ix (fop .mul .f64 b d) ≤ ix (fop .mul .f64 x y)) ∧
    (ix (fop .mul .f64 x y) ≤ ix (fop .mul .f64 a c) ∨ ix (fop .mul .f64 x y) ≤ ix (fop .mul .f64 a d) ∨ ix (fop .mul .f64 x y) ≤ ix (fop .mul .f64 b c) ∨ ix (fop .mul .f64 x y) ≤ ix (fop .mul .f64 b d)) := by
  have mo : ∀ {p q r s : Nat}, Fi p → Fi q → Fi r → Fi s → kv p * kv q ≤ kv r * kv s → ix (fop .mul .f64 p q) ≤ ix (fop .mul .f64 r s) := fun hp hq hr hs h =>
    (mul_rd hp hq).2.mono un_pos un_pos (mul_rd hr hs).2 (Int.mul_le_mul_of_nonneg_right h (Int.natCast_nonneg _))
  obtain ⟨l, u⟩ := mul_ends (show kv a ≤ kv x from rk_le h1) (show kv x ≤ kv b from rk_le h2) (show kv c ≤ kv y from rk_le h3) (show kv y ≤ kv d from rk_le h4)
  constructor
  · rcases l with h | h | h | h
    · exact .inl (mo ha hc hx hy h)
    · exact .inr (.inl (mo ha hd hx hy h))
    · exact .inr (.inr (.inl (mo hb hc hx hy h)))
    · exact .inr (.inr (.inr (mo hb hd hx hy h)))
  · rcases u with h | h | h | h
    · exact .inl (mo hx hy ha hc h)
    · exact .inr (.inl (mo hx hy ha hd h))
    · exact .inr (.inr (.inl (mo hx hy hb hc h)))
    · exact .inr (.inr (.inr (mo hx hy hb hd h)))

/-- Quotients of whole numbers, by what is above nought, across. -/
theorem quo_ends {A B C D X Y : Int} (h1 : A ≤ X) (h2 : X ≤ B) (h3 : C ≤ Y) (h4 : Y ≤ D) (hC : 0 < C) : (A * Y ≤ X * D ∨ A * Y ≤ X * C) ∧ (X * C ≤ B * Y ∨ X * D ≤ B * Y) := by
  have m : ∀ {a b c : Int}, a ≤ b → 0 ≤ c → a * c ≤ b * c := fun h hc => Int.mul_le_mul_of_nonneg_right h hc
  have m' : ∀ {a b c : Int}, a ≤ b → 0 ≤ c → c * a ≤ c * b := fun h hc => Int.mul_le_mul_of_nonneg_left h hc
  have n' : ∀ {a b c : Int}, a ≤ b → c ≤ 0 → c * b ≤ c * a := fun h hc => Int.mul_le_mul_of_nonpos_left hc h
  constructor
  · rcases Int.le_total 0 A with hA | hA
    · exact .inl (Int.le_trans (m' h4 hA) (m h1 (by omega)))
    · exact .inr (Int.le_trans (n' h3 hA) (m h1 (by omega)))
  · rcases Int.le_total 0 B with hB | hB
    · exact .inl (Int.le_trans (m h2 (by omega)) (m' h3 hB))
    · exact .inr (Int.le_trans (m h2 (by omega)) (n' h4 hB))

theorem quo_mono {p q r s : Nat} (hp : Fi p) (hq : Fi q) (hr : Fi r) (hs : Fi s) (h : (0 < kv q ∧ 0 < kv s ∧ kv p * kv s ≤ kv r * kv q) ∨ (kv q < 0 ∧ kv s < 0 ∧ kv p * kv s ≤ kv r * kv q)) : ix (fop .quo .f64 p q) ≤ ix (fop .quo .f64 r s) := by
  have e1 := quo_rd hp hq (by omega)
  have e2 := quo_rd hr hs (by omega)
  refine e1.2.mono (by omega) (by omega) e2.2 ?_
  have hu : (0 : Int) ≤ un := Int.natCast_nonneg _
  rcases h with ⟨q1, q2, h⟩ | ⟨q1, q2, h⟩
  · rw [if_neg (by omega), if_neg (by omega), Int.mul_one, Int.mul_one, show ((kv q).natAbs : Int) = kv q by omega, show ((kv s).natAbs : Int) = kv s by omega, Int.mul_right_comm (kv p), Int.mul_right_comm (kv r)]
    exact Int.mul_le_mul_of_nonneg_right h hu
  · rw [if_pos q1, if_pos q2, show ((kv q).natAbs : Int) = -kv q by omega, show ((kv s).natAbs : Int) = -kv s by omega]
    have e : ∀ a b : Int, a * un * -1 * -b = a * b * un := fun a b => by
      rw [Int.mul_neg, Int.mul_neg, Int.neg_mul, Int.neg_neg, Int.mul_one, Int.mul_right_comm]
    rw [e, e]
    exact Int.mul_le_mul_of_nonneg_right h hu

/-- A quotient between the corners'. -/
theorem quo_corner {a b c d x y : Nat} (ha : Fi a) (hb : Fi b) (hc : Fi c) (hd : Fi d) (hx : Fi x) (hy : Fi y) (h1 : ix a ≤ ix x) (h2 : ix x ≤ ix b) (h3 : ix c ≤ ix y) (h4 : ix y ≤ ix d) (h : 0 < ix c ∨ ix d < 0) :
    (ix (fop .quo .f64 a c) ≤ ix (fop .quo .f64 x y) ∨ ix (fop .quo .f64 a d) ≤ ix (fop .quo .f64 x y) ∨ ix (fop .quo .f64 b c) ≤ ix (fop .quo .f64 x y) ∨ ix (fop .quo .f64 b d) ≤ ix (fop .quo .f64 x y)) ∧
    (ix (fop .quo .f64 x y) ≤ ix (fop .quo .f64 a c) ∨ ix (fop .quo .f64 x y) ≤ ix (fop .quo .f64 a d) ∨ ix (fop .quo .f64 x y) ≤ ix (fop .quo .f64 b c) ∨ ix (fop .quo .f64 x y) ≤ ix (fop .quo .f64 b d)) := by
  have k1 : kv a ≤ kv x := rk_le h1
  have k2 : kv x ≤ kv b := rk_le h2
  have k3 : kv c ≤ kv y := rk_le h3
  have k4 : kv y ≤ kv d := rk_le h4
  rcases h with h | h
  · have hc0 := kv_pos.2 h
    obtain ⟨l, u⟩ := quo_ends k1 k2 k3 k4 hc0
    constructor
    · rcases l with l | l
      · exact .inr (.inl (quo_mono ha hd hx hy (.inl ⟨by omega, by omega, l⟩)))
      · exact .inl (quo_mono ha hc hx hy (.inl ⟨by omega, by omega, l⟩))
    · rcases u with l | l
      · exact .inr (.inr (.inl (quo_mono hx hy hb hc (.inl ⟨by omega, by omega, l⟩))))
      · exact .inr (.inr (.inr (quo_mono hx hy hb hd (.inl ⟨by omega, by omega, l⟩))))
  · have hd0 := kv_neg.2 h
    obtain ⟨l, u⟩ := quo_ends (A := -kv b) (B := -kv a) (C := -kv d) (D := -kv c) (X := -kv x) (Y := -kv y) (by omega) (by omega) (by omega) (by omega) (by omega)
    simp only [Int.neg_mul_neg] at l u
    constructor
    · rcases l with l | l
      · exact .inr (.inr (.inl (quo_mono hb hc hx hy (.inr ⟨by omega, by omega, l⟩))))
      · exact .inr (.inr (.inr (quo_mono hb hd hx hy (.inr ⟨by omega, by omega, l⟩))))
    · rcases u with l | l
      · exact .inr (.inl (quo_mono hx hy ha hd (.inr ⟨by omega, by omega, l⟩)))
      · exact .inl (quo_mono hx hy ha hc (.inr ⟨by omega, by omega, l⟩))

end Go.Proofs.Ytpmdpbljgidllaa
