/- What sums, differences, products, quotients of floats are rounded from; comparisons by rungs. -/
import Derived.Test.YthajhpilfbijdaaRealZ
namespace Go.Proofs.Ythajhpilfbijdaa
open Go
set_option linter.unusedVariables false
set_option maxRecDepth 20000

/-- How many of the least one is. -/
def pw (k : Nat) : Nat := 2 ^ k
def un : Nat := pw 1074
theorem pw_pos (k : Nat) : 0 < pw k := Nat.two_pow_pos k
theorem un_pos : 0 < un := pw_pos 1074
theorem pow_un {K : Nat} (h : K = 1074) : 2 ^ K = un := by
  show pw K = pw 1074
  rw [h]
theorem has_K : ∃ K : Nat, K = 1074 := ⟨_, rfl⟩

theorem sgn_natAbs {Z P : Int} (hP : 0 ≤ P) (s : Bool) (h : Z ≠ 0 → s = decide (Z < 0)) : (s = true → Z * P = -((Z.natAbs : Int) * P)) ∧ (s = false → Z * P = (Z.natAbs : Int) * P) := by
  by_cases h0 : Z = 0
  · subst h0; simp
  · have e := h h0
    by_cases hl : Z < 0
    · rw [decide_eq_true hl] at e
      refine ⟨fun _ => ?_, fun h => by rw [e] at h; cases h⟩
      rw [← Int.neg_mul]; congr 1; omega
    · rw [decide_eq_false hl] at e
      refine ⟨(fun h => by rw [e] at h; cases h), fun _ => ?_⟩
      congr 1; omega

theorem signed_up (s : Bool) (m : Nat) {a b c : Nat} (h : a + b = c) : Ieee.signed s m c = Ieee.signed s m a * ((2 ^ b : Nat) : Int) := by
  subst h; exact signed_shift s m a b

theorem sum_fi {x : Nat} {dy : Ieee.Datum} {t : Bool} {n : Nat} {j Y : Int} (hx : Fi x) (hy : dy = .number t n j) (hj : -1074 ≤ j) (hY : Ieee.signed t n (j + 1074).toNat = Y) :
    ∃ r, ((Ieee.double.read x).sum dy).map Ieee.double.write = some r ∧ IsR 1 (kv x + Y) r := by
  obtain ⟨s, m, i, h1, h2, h3⟩ := read_fi hx
  subst hy
  rw [h1]
  simp only [Ieee.Datum.sum, Option.map_some]
  refine ⟨_, rfl, ?_⟩
  unfold Ieee.Format.write
  simp only
  rw [nearest_eq]
  have hb : min i j = ((min i j + 1074).toNat : Int) - ((0 : Nat) : Int) - 1074 := by omega
  have hZ : Ieee.signed s m (i - min i j).toNat * ((2 ^ (min i j + 1074).toNat : Nat) : Int) + Ieee.signed t n (j - min i j).toNat * ((2 ^ (min i j + 1074).toNat : Nat) : Int) = kv x + Y := by
    rw [← signed_up s m (a := (i - min i j).toNat) (b := (min i j + 1074).toNat) (c := (i + 1074).toNat) (by omega), ← signed_up t n (a := (j - min i j).toNat) (b := (min i j + 1074).toNat) (c := (j + 1074).toNat) (by omega), h3, hY]
  rw [← Int.add_mul] at hZ
  generalize Ieee.signed s m (i - min i j).toNat + Ieee.signed t n (j - min i j).toNat = T at hZ
  have hn := near_spec (M := T.natAbs) hb
  generalize (min i j + 1074).toNat = J at hZ hn
  have hs := sgn_natAbs (Z := T) (P := ((2 ^ J : Nat) : Int)) (Int.natCast_nonneg _) (if T = 0 then s && t else decide (T < 0)) (fun h => by rw [if_neg h])
  rw [hZ] at hs
  refine IsR.of_near (by decide) (by simpa using hn) (fun h => ?_) (fun h => ?_)
  · rw [hs.1 h, Int.natCast_mul]
  · rw [hs.2 h, Int.natCast_mul]

theorem add_rd {x y : Nat} (hx : Fi x) (hy : Fi y) : IsR 1 (kv x + kv y) (fop .add .f64 x y) := by
  obtain ⟨t, n, j, g1, g2, g3⟩ := read_fi hy
  obtain ⟨r, e, h⟩ := sum_fi hx g1 g2 g3
  have : floatBits .add .f64 x y = some r := e
  unfold fop
  rw [this]
  exact h

theorem sub_rd {x y : Nat} (hx : Fi x) (hy : Fi y) : IsR 1 (kv x - kv y) (fop .sub .f64 x y) := by
  obtain ⟨t, n, j, g1, g2, g3⟩ := read_fi hy
  have g1' : (Ieee.double.read y).opposite = .number (!t) n j := by rw [g1]; rfl
  have g3' : Ieee.signed (!t) n (j + 1074).toNat = -kv y := by
    rw [← g3]
    unfold Ieee.signed
    cases t <;> simp
  obtain ⟨r, e, h⟩ := sum_fi hx g1' g2 g3'
  have : floatBits .sub .f64 x y = some r := e
  unfold fop
  rw [this, Int.sub_eq_add_neg]
  exact h

theorem signed_val (s : Bool) (m k : Nat) : Ieee.signed s m k = (if s then -1 else 1) * ((m * 2 ^ k : Nat) : Int) := by
  unfold Ieee.signed
  rw [Nat.shiftLeft_eq]
  cases s <;> simp

theorem mul_rd {x y : Nat} (hx : Fi x) (hy : Fi y) : IsR un (kv x * kv y) (fop .mul .f64 x y) := by
  obtain ⟨s, m, i, h1, h2, h3⟩ := read_fi hx
  obtain ⟨t, n, j, g1, g2, g3⟩ := read_fi hy
  have e : floatBits .mul .f64 x y = some (Ieee.double.write (.number (s ^^ t) (m * n) (i + j))) := by
    show ((Ieee.double.read x).product (Ieee.double.read y)).map Ieee.double.write = _
    rw [h1, g1]
    rfl
  unfold fop
  rw [e, Option.getD_some]
  unfold Ieee.Format.write
  simp only
  rw [nearest_eq]
  have hb : ∀ K : Nat, K = 1074 → i + j = (((i + 1074).toNat + (j + 1074).toNat : Nat) : Int) - ((K : Nat) : Int) - 1074 := by omega
  obtain ⟨K, hK⟩ := has_K
  have hn := near_spec (M := m * n) (hb K hK)
  rw [pow_un hK] at hn
  have hv : kv x * kv y = (if s ^^ t then -1 else 1) * ((m * n * 2 ^ ((i + 1074).toNat + (j + 1074).toNat) : Nat) : Int) := by
    rw [← h3, ← g3, signed_val, signed_val, Nat.pow_add]
    generalize 2 ^ (i + 1074).toNat = a
    generalize 2 ^ (j + 1074).toNat = b
    rw [show m * n * (a * b) = m * a * (n * b) by simp only [Nat.mul_assoc, Nat.mul_left_comm n], Int.natCast_mul (m * a)]
    generalize ((m * a : Nat) : Int) = p
    generalize ((n * b : Nat) : Int) = q
    cases s <;> cases t <;> simp [Int.neg_mul, Int.mul_neg]
  refine IsR.of_near un_pos hn (fun h => ?_) (fun h => ?_)
  · rw [hv, h]; simp
  · rw [hv, h]; simp

theorem log2_ge {A n k : Nat} (hn : 0 < n) (h : n * 2 ^ k ≤ A) : 2 ^ k ≤ A / n := (Nat.le_div_iff_mul_le hn).2 (by rw [Nat.mul_comm]; exact h)

theorem quot_fi {s t : Bool} {m n : Nat} {i j : Int} (hm : m ≠ 0) (hn : n ≠ 0) (hi : -1074 ≤ i) (hj : -1074 ≤ j) :
    ∃ (M : Nat) (e : Int) (A J K : Nat), (Ieee.Datum.number s m i).quotient 54 (.number t n j) = some (.number (s ^^ t) M e) ∧ NearN (2 ^ K * n) (2 * A * 2 ^ J) (nearR M e) ∧ ∃ w : Nat, A = m * 2 ^ w ∧ (w : Int) + 1 + J + j = i + K + 1074 := by
  have hn0 : 0 < n := by omega
  have ed : (Ieee.Datum.number s m i).quotient 54 (.number t n j) = some (.number (s ^^ t) (2 * ((m <<< (54 + n.log2 - m.log2)) / n) + ((m <<< (54 + n.log2 - m.log2)) % n != 0).toNat) (i - j - ((54 + n.log2 - m.log2 : Nat) : Int) - 1)) := by
    unfold Ieee.Datum.quotient
    simp only [if_neg hn]
  rw [Nat.shiftLeft_eq] at ed
  generalize hw : 54 + n.log2 - m.log2 = w at ed
  have hL : 54 ≤ (2 * (m * 2 ^ w / n) + (m * 2 ^ w % n != 0).toNat).log2 := by
    have h1 : n < 2 ^ (n.log2 + 1) := Nat.lt_log2_self
    have h2 : 2 ^ m.log2 ≤ m := Nat.log2_self_le hm
    have h3 : n * 2 ^ 53 ≤ m * 2 ^ w := by
      have a1 : n * 2 ^ 53 ≤ 2 ^ (n.log2 + 1) * 2 ^ 53 := Nat.mul_le_mul_right _ (Nat.le_of_lt h1)
      have a2 : 2 ^ m.log2 * 2 ^ w ≤ m * 2 ^ w := Nat.mul_le_mul_right _ h2
      rw [← Nat.pow_add] at a1 a2
      have a3 : 2 ^ (n.log2 + 1 + 53) ≤ 2 ^ (m.log2 + w) := Nat.pow_le_pow_right (by decide) (by omega)
      omega
    have h4 := log2_ge hn0 h3
    have h5 : 2 ^ 54 ≤ 2 * (m * 2 ^ w / n) + (m * 2 ^ w % n != 0).toNat := by
      have : (2 : Nat) ^ 54 = 2 * 2 ^ 53 := by decide
      omega
    exact (Nat.le_log2 (by have := Nat.two_pow_pos 54; omega)).2 h5
  obtain ⟨J, K, hJK⟩ : ∃ J K : Nat, i - j - (w : Int) - 1 = (J : Int) - K - 1074 := ⟨(i - j - (w : Int) - 1 + 1074).toNat, (-(i - j - (w : Int) - 1 + 1074)).toNat, by omega⟩
  exact ⟨_, _, _, J, K, ed, near_quot hn0 rfl hL hJK, w, rfl, by omega⟩

/-- A number told of a fraction is told of the same fraction. -/
theorem NearN.scale {Q M r c : Nat} (hc : 0 < c) : NearN (Q * c) (M * c) r ↔ NearN Q M r := by
  unfold NearN
  have e1 : ∀ a, 2 * (M * c) ≤ a * (Q * c) ↔ 2 * M ≤ a * Q := fun a => by rw [← Nat.mul_assoc, ← Nat.mul_assoc]; exact Nat.mul_le_mul_right_iff hc
  have e2 : ∀ a, 2 * (M * c) = a * (Q * c) ↔ 2 * M = a * Q := fun a => by rw [← Nat.mul_assoc, ← Nat.mul_assoc]; exact Nat.mul_left_inj (Nat.ne_of_gt hc)
  have e3 : ∀ a, a * (Q * c) ≤ 2 * (M * c) ↔ a * Q ≤ 2 * M := fun a => by rw [← Nat.mul_assoc, ← Nat.mul_assoc]; exact Nat.mul_le_mul_right_iff hc
  have e4 : ∀ a, a * (Q * c) = 2 * (M * c) ↔ a * Q = 2 * M := fun a => by rw [← Nat.mul_assoc, ← Nat.mul_assoc]; exact Nat.mul_left_inj (Nat.ne_of_gt hc)
  simp only [e1, e2, e3, e4]

theorem sgn_quo (s t : Bool) (p u : Int) (c : Prop) [Decidable c] (hc : c ↔ t = true) :
    ((s ^^ t) = true → (if s then -1 else 1) * p * u * (if c then -1 else 1) = -(p * u)) ∧ ((s ^^ t) = false → (if s then -1 else 1) * p * u * (if c then -1 else 1) = p * u) := by
  by_cases hh : c
  · have := hc.1 hh
    subst this
    cases s <;> simp [hh, Int.neg_mul]
  · have : t = false := by cases t with
      | false => rfl
      | true => exact absurd (hc.2 rfl) hh
    subst this
    cases s <;> simp [hh, Int.neg_mul]

theorem quo_rd {x y : Nat} (hx : Fi x) (hy : Fi y) (h0 : kv y ≠ 0) : IsR (kv y).natAbs (kv x * un * (if kv y < 0 then -1 else 1)) (fop .quo .f64 x y) := by
  obtain ⟨s, m, i, h1, h2, h3⟩ := read_fi hx
  obtain ⟨t, n, j, g1, g2, g3⟩ := read_fi hy
  rw [signed_val] at h3 g3
  have hn : n ≠ 0 := by
    intro h
    rw [h] at g3
    simp at g3
    omega
  have hpj := Nat.two_pow_pos (j + 1074).toNat
  have hQ : (kv y).natAbs = n * 2 ^ (j + 1074).toNat := by
    rw [← g3]
    generalize n * 2 ^ (j + 1074).toNat = q
    cases t <;> simp
  have hQ0 : 0 < (kv y).natAbs := by omega
  have ht : (kv y < 0) ↔ t = true := by
    have : 0 < n * 2 ^ (j + 1074).toNat := Nat.mul_pos (by omega) hpj
    rw [← g3]
    generalize n * 2 ^ (j + 1074).toNat = q at this
    cases t <;> simp <;> omega
  have hfb : floatBits .quo .f64 x y = ((Ieee.Datum.number s m i).quotient 54 (.number t n j)).map Ieee.double.write := by
    show ((Ieee.double.read x).quotient 54 (Ieee.double.read y)).map Ieee.double.write = _
    rw [h1, g1]
  unfold fop
  rw [hfb]
  by_cases hm : m = 0
  · subst hm
    have e : (Ieee.Datum.number s 0 i).quotient 54 (.number t n j) = some (.number (s ^^ t) 0 (i - j - ((54 + n.log2 - (0 : Nat).log2 : Nat) : Int) - 1)) := by
      unfold Ieee.Datum.quotient
      simp only [if_neg hn]
      congr 2
      simp
    rw [e, Option.map_some, Option.getD_some]
    unfold Ieee.Format.write
    simp only
    rw [nearest_eq]
    have : nearR 0 (i - j - ((54 + n.log2 - (0 : Nat).log2 : Nat) : Int) - 1) = 0 := by unfold nearR; rw [if_pos rfl]
    rw [this]
    have hk : kv x = 0 := by rw [← h3]; simp
    refine IsR.of_near hQ0 near_zero (fun _ => ?_) (fun _ => ?_) <;> rw [hk] <;> simp
  · obtain ⟨M, e, A, J, K, e1, e2, w, e3, e4⟩ := quot_fi (s := s) (t := t) hm hn h2 g2
    rw [e1, Option.map_some, Option.getD_some]
    unfold Ieee.Format.write
    simp only
    rw [nearest_eq]
    -- both sides of the fraction times as much
    have hv : NearN (n * 2 ^ (j + 1074).toNat) (m * 2 ^ (i + 1074).toNat * un) (nearR M e) := by
      have ha : NearN (n * 2 ^ (j + 1074).toNat * 2 ^ K) (m * 2 ^ (i + 1074).toNat * un * 2 ^ K) (nearR M e) := by
        have hb := (NearN.scale (c := 2 ^ (j + 1074).toNat) hpj).2 e2
        have c1 : 2 ^ K * n * 2 ^ (j + 1074).toNat = n * 2 ^ (j + 1074).toNat * 2 ^ K := by rw [Nat.mul_comm (2 ^ K), Nat.mul_right_comm]
        have c2 : 2 * A * 2 ^ J * 2 ^ (j + 1074).toNat = m * 2 ^ (i + 1074).toNat * un * 2 ^ K := by
          obtain ⟨V, hV⟩ := has_K
          rw [← pow_un hV, e3]
          simp only [Nat.mul_assoc, Nat.mul_left_comm 2 m]
          congr 1
          rw [← Nat.pow_add, ← Nat.pow_add, ← Nat.pow_add, ← Nat.pow_add, ← Nat.pow_succ']
          congr 1
          omega
        rw [c1, c2] at hb
        exact hb
      exact (NearN.scale (Nat.two_pow_pos K)).1 ha
    rw [hQ]
    obtain ⟨q1, q2⟩ := sgn_quo s t ((m * 2 ^ (i + 1074).toNat : Nat) : Int) (un : Int) (kv y < 0) ht
    refine IsR.of_near (by omega) hv (fun h => ?_) (fun h => ?_)
    · rw [← h3, Int.natCast_mul (m * 2 ^ (i + 1074).toNat)]
      exact q1 h
    · rw [← h3, Int.natCast_mul (m * 2 ^ (i + 1074).toNat)]
      exact q2 h

theorem ofInt_rd (n : Int) : IsR 1 (n * un) (floatOfInt .f64 n) := by
  have e : floatOfInt .f64 n = Ieee.double.nearest (decide (n < 0)) n.natAbs 0 := by
    unfold floatOfInt FloatKind.nearest FloatKind.encode
    rfl
  rw [e, nearest_eq]
  have hb : ∀ J : Nat, J = 1074 → (0 : Int) = (J : Int) - ((0 : Nat) : Int) - 1074 := by omega
  obtain ⟨J, hJ⟩ := has_K
  have hn := near_spec (M := n.natAbs) (hb J hJ)
  rw [pow_un hJ] at hn
  have hs := sgn_natAbs (Z := n) (P := (un : Int)) (by omega) (decide (n < 0)) (fun _ => rfl)
  refine IsR.of_near (by decide) (by simpa using hn) (fun h => ?_) (fun h => ?_)
  · rw [hs.1 h, Int.natCast_mul]
  · rw [hs.2 h, Int.natCast_mul]

/-! comparisons -/
theorem order_ix {x y : Nat} (hx : NN x) (hy : NN y) : FloatKind.f64.format.order x y = some (compare (ix x) (ix y)) := by
  show (Ieee.double.read x).order (Ieee.double.read y) = _
  have hp : Ieee.double.read 9218868437227405312 = .infinity false := by decide +kernel
  have hm : Ieee.double.read 18442240474082181120 = .infinity true := by decide +kernel
  have cmp_lt : ∀ {a b : Int}, a < b → compare a b = .lt := fun h => by simp only [compare, compareOfLessAndEq, if_pos h]
  have cmp_gt : ∀ {a b : Int}, b < a → compare a b = .gt := fun {a b} h => by
    simp only [compare, compareOfLessAndEq]
    rw [if_neg (by omega), if_neg (by omega)]
  have cmp_eq : ∀ {a b : Int}, a = b → compare a b = .eq := fun {a b} h => by
    subst h
    simp [compare, compareOfLessAndEq]
  by_cases fx : Fi x
  · obtain ⟨s, m, i, h1, h2, h3⟩ := read_fi fx
    by_cases fy : Fi y
    · obtain ⟨t, n, j, g1, g2, g3⟩ := read_fi fy
      have := order_key ⟨s, m, i, h1⟩ ⟨t, n, j, g1⟩
      unfold Ieee.Format.order key at this
      rw [h1, g1] at this
      rw [h1, g1, this]
      simp only [keyOf, h3, g3, kv]
      congr 1
      rcases Int.lt_trichotomy (ix x) (ix y) with h | h | h
      · rw [cmp_lt h, cmp_lt (rk_lt h)]
      · rw [cmp_eq h, cmp_eq (by rw [h])]
      · rw [cmp_gt h, cmp_gt (rk_lt h)]
    · rcases read_inf hy fy with ⟨rfl, e⟩ | ⟨rfl, e⟩
      · rw [h1, hp, e, cmp_lt fx.2.2]; rfl
      · rw [h1, hm, e, cmp_gt fx.2.1]; rfl
  · by_cases fy : Fi y
    · obtain ⟨t, n, j, g1, g2, g3⟩ := read_fi fy
      rcases read_inf hx fx with ⟨rfl, e⟩ | ⟨rfl, e⟩
      · rw [g1, hp, e, cmp_gt fy.2.2]; rfl
      · rw [g1, hm, e, cmp_lt fy.2.1]; rfl
    · rcases read_inf hx fx with ⟨rfl, e⟩ | ⟨rfl, e⟩ <;> rcases read_inf hy fy with ⟨rfl, e'⟩ | ⟨rfl, e'⟩
      · rw [e, hp, cmp_eq rfl]; rfl
      · rw [e, e', hp, hm]; rfl
      · rw [e, e', hp, hm]; rfl
      · rw [e, hm, cmp_eq rfl]; rfl

theorem leq_ix {x y : Nat} (hx : NN x) (hy : NN y) : fcmp .leq .f64 x y = some (decide (ix x ≤ ix y)) := by
  simp only [fcmp, order_ix hx hy, compare, compareOfLessAndEq]
  rcases Int.lt_trichotomy (ix x) (ix y) with h | h | h
  · rw [if_pos h, decide_eq_true (by omega)]; rfl
  · rw [if_neg (by omega), if_pos h, decide_eq_true (by omega)]; rfl
  · rw [if_neg (by omega), if_neg (by omega), decide_eq_false (by omega)]; rfl
theorem geq_ix {x y : Nat} (hx : NN x) (hy : NN y) : fcmp .geq .f64 x y = some (decide (ix y ≤ ix x)) := by
  simp only [fcmp, order_ix hx hy, compare, compareOfLessAndEq]
  rcases Int.lt_trichotomy (ix x) (ix y) with h | h | h
  · rw [if_pos h, decide_eq_false (by omega)]; rfl
  · rw [if_neg (by omega), if_pos h, decide_eq_true (by omega)]; rfl
  · rw [if_neg (by omega), if_neg (by omega), decide_eq_true (by omega)]; rfl
theorem lss_ix {x y : Nat} (hx : NN x) (hy : NN y) : fcmp .lss .f64 x y = some (decide (ix x < ix y)) := by
  simp only [fcmp, order_ix hx hy, compare, compareOfLessAndEq]
  rcases Int.lt_trichotomy (ix x) (ix y) with h | h | h
  · rw [if_pos h, decide_eq_true (by omega)]; rfl
  · rw [if_neg (by omega), if_pos h, decide_eq_false (by omega)]; rfl
  · rw [if_neg (by omega), if_neg (by omega), decide_eq_false (by omega)]; rfl
theorem gtr_ix {x y : Nat} (hx : NN x) (hy : NN y) : fcmp .gtr .f64 x y = some (decide (ix y < ix x)) := by
  simp only [fcmp, order_ix hx hy, compare, compareOfLessAndEq]
  rcases Int.lt_trichotomy (ix x) (ix y) with h | h | h
  · rw [if_pos h, decide_eq_false (by omega)]; rfl
  · rw [if_neg (by omega), if_pos h, decide_eq_false (by omega)]; rfl
  · rw [if_neg (by omega), if_neg (by omega), decide_eq_true (by omega)]; rfl
theorem eql_ix {x y : Nat} (hx : NN x) (hy : NN y) : fcmp .eql .f64 x y = some (decide (ix x = ix y)) := by
  simp only [fcmp, order_ix hx hy, compare, compareOfLessAndEq]
  rcases Int.lt_trichotomy (ix x) (ix y) with h | h | h
  · rw [if_pos h, decide_eq_false (by omega)]; rfl
  · rw [if_neg (by omega), if_pos h, decide_eq_true (by omega)]; rfl
  · rw [if_neg (by omega), if_neg (by omega), decide_eq_false (by omega)]; rfl
theorem neq_ix {x y : Nat} (hx : NN x) (hy : NN y) : fcmp .neq .f64 x y = some (decide (ix x ≠ ix y)) := by
  simp only [fcmp, order_ix hx hy, compare, compareOfLessAndEq]
  rcases Int.lt_trichotomy (ix x) (ix y) with h | h | h
  · rw [if_pos h, decide_eq_true (by omega)]; rfl
  · rw [if_neg (by omega), if_pos h, decide_eq_false (by omega)]; rfl
  · rw [if_neg (by omega), if_neg (by omega), decide_eq_true (by omega)]; rfl

end Go.Proofs.Ythajhpilfbijdaa
