/- Whole numbers as floats, by their rungs: sums, differences, products, whole quotients. -/
import Derived.Test.YtnbbmihlokajaaaReal
import Derived.Test.YtnbbmihlokajaaaNext
namespace Go.Proofs.Ytnbbmihlokajaaa
open Go
set_option linter.unusedVariables false
set_option maxRecDepth 20000

/-- A whole number as a float. -/
def F (n : Int) : Nat := floatOfInt .f64 n
theorem F_rd (n : Int) : IsR 1 (n * un) (F n) := ofInt_rd n
theorem F_nn (n : Int) : NN (F n) := (F_rd n).nn
theorem F_le {n m : Int} (h : n ≤ m) : ix (F n) ≤ ix (F m) := by
  refine (F_rd n).2.mono (by decide) (by decide) (F_rd m).2 ?_
  have := Int.mul_le_mul_of_nonneg_right h (Int.natCast_nonneg un)
  omega

theorem fi_of {x : Nat} (h : x < 18446744073709551616) (hf : Fin x) : Fi x := by
  obtain ⟨s, r, hr, hw, _⟩ := fin_word h hf
  have := (ix_word s (Nat.le_of_lt hr)).2
  rw [← hw] at this
  refine ⟨h, ?_, ?_⟩ <;> rw [this] <;> cases s <;> simp <;> omega

theorem F_fi {n : Int} (h : n.natAbs < 9007199254740992) : Fi (F n) ∧ kv (F n) = n * un := by
  have hz : IsZ (F n) n := IsZ.ofInt h
  obtain ⟨k1, k2⟩ := hz.key
  have hf := fi_of (F_rd n).1 k1
  refine ⟨hf, ?_⟩
  obtain ⟨s, m, e, h1, h2, h3⟩ := read_fi hf
  have : key (F n) = kv (F n) := by
    unfold key
    rw [h1]
    exact h3
  obtain ⟨K, hK⟩ := has_K
  have k3 : key (F n) = n * ((2 ^ K : Nat) : Int) := by subst hK; exact k2
  rw [← this, k3, pow_un hK]

theorem F_add {x y : Int} (hx : x.natAbs < 9007199254740992) (hy : y.natAbs < 9007199254740992) : NN (fop .add .f64 (F x) (F y)) ∧ ix (fop .add .f64 (F x) (F y)) = ix (F (x + y)) := by
  obtain ⟨a1, a2⟩ := F_fi hx
  obtain ⟨b1, b2⟩ := F_fi hy
  have h := add_rd a1 b1
  rw [a2, b2, ← Int.add_mul] at h
  exact ⟨h.nn, h.2.uniq (by decide) (F_rd (x + y)).2⟩
theorem F_sub {x y : Int} (hx : x.natAbs < 9007199254740992) (hy : y.natAbs < 9007199254740992) : NN (fop .sub .f64 (F x) (F y)) ∧ ix (fop .sub .f64 (F x) (F y)) = ix (F (x - y)) := by
  obtain ⟨a1, a2⟩ := F_fi hx
  obtain ⟨b1, b2⟩ := F_fi hy
  have h := sub_rd a1 b1
  rw [a2, b2, ← Int.sub_mul] at h
  exact ⟨h.nn, h.2.uniq (by decide) (F_rd (x - y)).2⟩

theorem rd_same {Q Q' : Nat} {Z Z' i i' : Int} (hQ : 0 < Q) (hQ' : 0 < Q') (h : Rd Q Z i) (h' : Rd Q' Z' i') (he : Z * Q' = Z' * Q) : i = i' := by
  have := h.mono hQ hQ' h' (by omega)
  have := h'.mono hQ' hQ h (by omega)
  omega

theorem F_mul {x y : Int} (hx : x.natAbs < 9007199254740992) (hy : y.natAbs < 9007199254740992) : NN (fop .mul .f64 (F x) (F y)) ∧ ix (fop .mul .f64 (F x) (F y)) = ix (F (x * y)) := by
  obtain ⟨a1, a2⟩ := F_fi hx
  obtain ⟨b1, b2⟩ := F_fi hy
  have h := mul_rd a1 b1
  rw [a2, b2] at h
  refine ⟨h.nn, rd_same un_pos (by decide) h.2 (F_rd (x * y)).2 ?_⟩
  simp only [Int.mul_assoc, Int.mul_left_comm y, Int.natCast_one, Int.mul_one]
theorem F_quo {x t : Int} (hx : (x * t).natAbs < 9007199254740992) (ht : t.natAbs < 9007199254740992) (h0 : t ≠ 0) : NN (fop .quo .f64 (F (x * t)) (F t)) ∧ ix (fop .quo .f64 (F (x * t)) (F t)) = ix (F x) := by
  obtain ⟨a1, a2⟩ := F_fi hx
  obtain ⟨b1, b2⟩ := F_fi ht
  have hu : (0 : Int) < (un : Int) := by have := un_pos; omega
  have hk : kv (F t) ≠ 0 := by rw [b2]; exact Int.mul_ne_zero h0 (by omega)
  have h := quo_rd a1 b1 hk
  have hq : 0 < (kv (F t)).natAbs := by omega
  refine ⟨h.nn, rd_same hq (by decide) h.2 (F_rd x).2 ?_⟩
  rw [a2, b2]
  rcases Int.lt_or_lt_of_ne h0 with hl | hl
  · have hn : t * (un : Int) < 0 := Int.mul_neg_of_neg_of_pos hl hu
    rw [if_pos hn]
    have e : ((t * (un : Int)).natAbs : Int) = -(t * un) := by omega
    rw [e]
    generalize (un : Int) = u
    simp only [Int.mul_assoc, Int.mul_left_comm u, Int.mul_neg, Int.mul_one, Int.natCast_one]
  · have hp : 0 < t * (un : Int) := Int.mul_pos hl hu
    rw [if_neg (by omega)]
    have e : ((t * (un : Int)).natAbs : Int) = t * un := by omega
    rw [e]
    generalize (un : Int) = u
    simp only [Int.mul_assoc, Int.mul_left_comm u, Int.mul_one, Int.natCast_one]
theorem F_pos {t : Int} (ht : t.natAbs < 9007199254740992) (h0 : 0 < t) : 0 < ix (F t) := by
  obtain ⟨b1, b2⟩ := F_fi ht
  have hu : (0 : Int) < (un : Int) := by have := un_pos; omega
  have := Int.mul_pos h0 hu
  rw [← b2] at this
  unfold kv at this
  rw [show (0 : Int) = rk 0 from rfl, rk_lt_iff] at this
  exact this
theorem F_neg {t : Int} (ht : t.natAbs < 9007199254740992) (h0 : t < 0) : ix (F t) < 0 := by
  obtain ⟨b1, b2⟩ := F_fi ht
  have hu : (0 : Int) < (un : Int) := by have := un_pos; omega
  have := Int.mul_neg_of_neg_of_pos h0 hu
  rw [← b2] at this
  unfold kv at this
  rw [show (0 : Int) = rk 0 from rfl, rk_lt_iff] at this
  exact this
theorem F_zero : ix (F 0) = 0 := by
  have := (F_rd 0).2
  have e : (0 : Int) * (un : Int) = rk 0 * ((1 : Nat) : Int) := by rw [rk_zero, Int.zero_mul, Int.zero_mul]
  rw [e] at this
  exact Rd.eq (Q := 1) (j := 0) (by decide) this (by decide) (by decide)

end Go.Proofs.Ytnbbmihlokajaaa
