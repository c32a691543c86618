/- From-tos that are near the exact ones: sums and products are a little further out. -/
import Derived.Test.YthajhpilfbijdaaDyad
namespace Go.Proofs.Ythajhpilfbijdaa
open Go
set_option linter.unusedVariables false
set_option linter.unusedSimpArgs false

def eps : Rat := 1 / 1073741824
def vR (b : Nat) : Rat := kR b / uR
theorem uR_pos' : (0 : Rat) < uR := un_r
theorem uR_ne : uR ≠ 0 := by have := uR_pos'; grind
theorem vR_eq (b : Nat) : kR b = vR b * uR := by unfold vR; rw [Rat.div_mul_cancel uR_ne]
theorem vR_le {x : Nat} {z : Rat} (h : kR x ≤ z * uR) : vR x ≤ z := by rw [vR_eq] at h; exact Rat.le_of_mul_le_mul_right h uR_pos'
theorem le_vR {x : Nat} {z : Rat} (h : z * uR ≤ kR x) : z ≤ vR x := by rw [vR_eq] at h; exact Rat.le_of_mul_le_mul_right h uR_pos'

theorem icast {a b : Int} : (a : Rat) ≤ (b : Rat) ↔ a ≤ b := ⟨fun h => by exact_mod_cast h, fun h => by exact_mod_cast h⟩
theorem natI (n : Nat) : (((n : Nat) : Int) : Rat) = ((n : Nat) : Rat) := rfl
theorem step_near {Q : Nat} {Z : Int} {s : Nat} {z : Rat} (hQ : 0 < Q) (h : IsR Q Z s) (hz : (Z : Rat) = z * uR * ((Q : Nat) : Rat)) (h1 : -1048576 ≤ z) (h2 : z ≤ 1048576) :
    (Fi (dn s) ∧ z - eps ≤ vR (dn s) ∧ vR (dn s) ≤ z) ∧ (Fi (up s) ∧ z ≤ vR (up s) ∧ vR (up s) ≤ z + eps) := by
  have hu : (0 : Int) < un := by have := un_pos; omega
  have hq : (0 : Int) < (Q : Int) := by omega
  have hD : (0 : Int) < (un : Int) * Q := Int.mul_pos hu hq
  have hDr : (0 : Rat) < uR * ((Q : Nat) : Rat) := Rat.mul_pos uR_pos' (by exact_mod_cast hQ)
  have hp := pwi_pos 31
  have p31 : ((pw 31 : Nat) : Int) = 2147483648 := rfl
  -- the size of Z
  have z1 : -1048576 * ((un : Int) * Q) ≤ Z := by
    have e : ((-1048576 * ((un : Int) * Q) : Int) : Rat) ≤ (Z : Rat) := by
      rw [hz]
      have := Rat.mul_le_mul_of_nonneg_right h1 (Rat.le_of_lt hDr)
      have e2 : ((-1048576 * ((un : Int) * Q) : Int) : Rat) = -1048576 * (uR * ((Q : Nat) : Rat)) := by
        rw [Rat.intCast_mul, Rat.intCast_mul]; rfl
      rw [e2]; grind
    exact icast.1 e
  have z2 : Z ≤ 1048576 * ((un : Int) * Q) := by
    have e : (Z : Rat) ≤ ((1048576 * ((un : Int) * Q) : Int) : Rat) := by
      rw [hz]
      have := Rat.mul_le_mul_of_nonneg_right h2 (Rat.le_of_lt hDr)
      have e2 : ((1048576 * ((un : Int) * Q) : Int) : Rat) = 1048576 * (uR * ((Q : Nat) : Rat)) := by
        rw [Rat.intCast_mul, Rat.intCast_mul]; rfl
      rw [e2]; grind
    exact icast.1 e
  obtain ⟨N, hN⟩ : ∃ N, N = Z * 2147483648 / ((un : Int) * Q) := ⟨_, rfl⟩
  have n1 : N * ((un : Int) * Q) ≤ Z * 2147483648 := hN ▸ Int.ediv_mul_le _ (Int.ne_of_gt hD)
  have n2 : Z * 2147483648 < (N + 1) * ((un : Int) * Q) := hN ▸ Int.lt_ediv_add_one_mul_self _ hD
  have b1 : -2251799813685248 ≤ N := by
    by_cases c : -2251799813685248 ≤ N
    · exact c
    · have := Int.mul_le_mul_of_nonneg_right (show N + 1 ≤ -2251799813685248 by omega) (Int.le_of_lt hD)
      generalize (un : Int) * Q = D at *
      omega
  have b2 : N ≤ 2251799813685248 := by
    by_cases c : N ≤ 2251799813685248
    · exact c
    · have := Int.mul_le_mul_of_nonneg_right (show 2251799813685249 ≤ N by omega) (Int.le_of_lt hD)
      generalize (un : Int) * Q = D at *
      omega
  obtain ⟨j0, c1, c2, c3⟩ := rep_int (N := N - 1) (e := 31) (by omega) (by decide)
  obtain ⟨j1, d1, d2, d3⟩ := rep_int (N := N) (e := 31) (by omega) (by decide)
  obtain ⟨j2, e1, e2, e3⟩ := rep_int (N := N + 1) (e := 31) (by omega) (by decide)
  obtain ⟨j3, f1, f2, f3⟩ := rep_int (N := N + 2) (e := 31) (by omega) (by decide)
  have lt : ∀ {a b : Int} {A B : Int}, rk a * pw 31 = A * un → rk b * pw 31 = B * un → A < B → a < b := by
    intro a b A B h1 h2 h3
    have h4 : rk a * pw 31 < rk b * pw 31 := by rw [h1, h2]; exact Int.mul_lt_mul_of_pos_right h3 hu
    have h5 : rk a < rk b := Int.lt_of_mul_lt_mul_right h4 (Int.le_of_lt hp)
    by_cases c : a < b
    · exact c
    · have := rk_le (show b ≤ a by omega); omega
  have g01 := lt c3 d3 (by omega)
  have g23 := lt e3 f3 (by omega)
  have s1 : j1 ≤ ix s := by
    refine h.2.ge hQ (by omega) (by omega) ?_
    have : rk j1 * Q * pw 31 ≤ Z * pw 31 := by
      rw [Int.mul_right_comm, d3, p31, Int.mul_assoc]; exact n1
    exact Int.le_of_mul_le_mul_right this hp
  have s2 : ix s ≤ j2 := by
    refine h.2.le hQ (by omega) (by omega) ?_
    have : Z * pw 31 ≤ rk j2 * Q * pw 31 := by
      rw [Int.mul_right_comm, e3, p31, Int.mul_assoc]; omega
    exact Int.le_of_mul_le_mul_right this hp
  obtain ⟨u1, u2⟩ := dn_ix h.nn
  obtain ⟨v1, v2⟩ := up_ix h.nn
  rw [if_neg (by omega)] at u2 v2
  have kd : rk j0 ≤ kv (dn s) := by unfold kv; rw [u2]; exact rk_le (by omega)
  have ku : kv (up s) ≤ rk j3 := by unfold kv; rw [v2]; exact rk_le (by omega)
  have ld := h.2.down hQ (by omega)
  have lu := h.2.up hQ (by omega)
  have kd2 : kv (dn s) * Q ≤ Z := by unfold kv; rw [u2]; omega
  have ku2 : Z ≤ kv (up s) * Q := by unfold kv; rw [v2]; omega
  have hQr : (0 : Rat) < ((Q : Nat) : Rat) := by exact_mod_cast hQ
  -- in rational numbers
  have r1 : (((N - 1 : Int)) : Rat) * uR ≤ kR (dn s) * 2147483648 := by
    have h3 : (N - 1) * (un : Int) ≤ kv (dn s) * 2147483648 := by
      rw [← c3, p31]
      exact Int.mul_le_mul_of_nonneg_right kd (by decide)
    have h4 := icast.2 h3
    rw [Rat.intCast_mul, Rat.intCast_mul] at h4
    exact h4
  have r2 : kR (up s) * 2147483648 ≤ (((N + 2 : Int)) : Rat) * uR := by
    have h3 : kv (up s) * 2147483648 ≤ (N + 2) * (un : Int) := by
      rw [← f3, p31]
      exact Int.mul_le_mul_of_nonneg_right ku (by decide)
    have h4 := icast.2 h3
    rw [Rat.intCast_mul, Rat.intCast_mul] at h4
    exact h4
  have r3 : z * 2147483648 ≤ (((N + 1 : Int)) : Rat) := by
    have h3 := icast.2 (Int.le_of_lt n2)
    rw [Rat.intCast_mul, Rat.intCast_mul, Rat.intCast_mul, natI, natI] at h3
    rw [hz] at h3
    have h4 : z * 2147483648 * (uR * ((Q : Nat) : Rat)) ≤ (((N + 1 : Int)) : Rat) * (uR * ((Q : Nat) : Rat)) := by
      have e : z * 2147483648 * (uR * ((Q : Nat) : Rat)) = z * uR * ((Q : Nat) : Rat) * ((2147483648 : Int) : Rat) := by
        have : ((2147483648 : Int) : Rat) = 2147483648 := rfl
        rw [this]; grind
      rw [e]; exact h3
    exact Rat.le_of_mul_le_mul_right h4 hDr
  have r4 : ((N : Int) : Rat) ≤ z * 2147483648 := by
    have h3 := icast.2 n1
    rw [Rat.intCast_mul, Rat.intCast_mul, Rat.intCast_mul, natI, natI] at h3
    rw [hz] at h3
    have h4 : ((N : Int) : Rat) * (uR * ((Q : Nat) : Rat)) ≤ z * 2147483648 * (uR * ((Q : Nat) : Rat)) := by
      have e : z * 2147483648 * (uR * ((Q : Nat) : Rat)) = z * uR * ((Q : Nat) : Rat) * ((2147483648 : Int) : Rat) := by
        have : ((2147483648 : Int) : Rat) = 2147483648 := rfl
        rw [this]; grind
      rw [e]; exact h3
    exact Rat.le_of_mul_le_mul_right h4 hDr
  have m1 : (((N - 1 : Int)) : Rat) = (N : Rat) - 1 := by rw [Rat.intCast_sub]; rfl
  have m2 : (((N + 1 : Int)) : Rat) = (N : Rat) + 1 := by rw [Rat.intCast_add]; rfl
  have m3 : (((N + 2 : Int)) : Rat) = (N : Rat) + 2 := by rw [Rat.intCast_add]; rfl
  rw [m1, vR_eq] at r1
  rw [m3, vR_eq] at r2
  rw [m2] at r3
  have q1 : (N : Rat) - 1 ≤ vR (dn s) * 2147483648 := by
    have e : vR (dn s) * uR * 2147483648 = vR (dn s) * 2147483648 * uR := by grind
    rw [e] at r1
    exact Rat.le_of_mul_le_mul_right r1 uR_pos'
  have q2 : vR (up s) * 2147483648 ≤ (N : Rat) + 2 := by
    have e : vR (up s) * uR * 2147483648 = vR (up s) * 2147483648 * uR := by grind
    rw [e] at r2
    exact Rat.le_of_mul_le_mul_right r2 uR_pos'
  have t1 : kR (dn s) ≤ z * uR := by
    have h3 : ((kv (dn s) : Int) : Rat) * ((Q : Nat) : Rat) ≤ (Z : Rat) := by exact_mod_cast kd2
    rw [hz] at h3
    exact Rat.le_of_mul_le_mul_right h3 hQr
  have t2 : z * uR ≤ kR (up s) := by
    have h3 : (Z : Rat) ≤ ((kv (up s) : Int) : Rat) * ((Q : Nat) : Rat) := by exact_mod_cast ku2
    rw [hz] at h3
    exact Rat.le_of_mul_le_mul_right h3 hQr
  refine ⟨⟨⟨u1.1, by omega, by omega⟩, ?_, vR_le t1⟩, ⟨v1.1, by omega, by omega⟩, le_vR t2, ?_⟩
  · unfold eps; grind
  · unfold eps; grind

/-- A number of no more than two to the twenty is small. -/
theorem bd_small {b : Nat} (h : Fi b) (h1 : -2097152 ≤ vR b) (h2 : vR b ≤ 2097152) : Bd 1060 b := by
  refine ⟨h.1, ?_⟩
  have hF := F_fi (n := 2097152) (by decide)
  have hG := F_fi (n := -2097152) (by decide)
  have e1 : ix (F 2097152) = 4701758010974797824 := by decide +kernel
  have e2 : ix (F (-2097152)) = -4701758010974797824 := by decide +kernel
  have a1 : kv b ≤ kv (F 2097152) := by
    rw [hF.2]
    have := Rat.mul_le_mul_of_nonneg_right h2 (Rat.le_of_lt uR_pos')
    rw [← vR_eq] at this
    refine icast.1 ?_
    rw [Rat.intCast_mul]
    exact this
  have a2 : kv (F (-2097152)) ≤ kv b := by
    rw [hG.2]
    have := Rat.mul_le_mul_of_nonneg_right h1 (Rat.le_of_lt uR_pos')
    rw [← vR_eq] at this
    refine icast.1 ?_
    rw [Rat.intCast_mul]
    exact this
  have c1 : ix b ≤ ix (F 2097152) := rk_le_iff.1 a1
  have c2 : ix (F (-2097152)) ≤ ix b := rk_le_iff.1 a2
  omega

/-- Near the exact one: by n times eps, of size M. -/
structure NE (n M : Nat) (X : P2) (E : Rat × Rat) : Prop where
  bl : Bd 1060 X.1
  bh : Bd 1060 X.2
  ab : E.1 ≤ E.2
  l1 : vR X.1 ≤ E.1
  l2 : E.1 - (n : Rat) * eps ≤ vR X.1
  h1 : E.2 ≤ vR X.2
  h2 : vR X.2 ≤ E.2 + (n : Rat) * eps
  ma : -(M : Rat) ≤ E.1
  mb : E.2 ≤ (M : Rat)
theorem eps_pos : 0 < eps := by unfold eps; decide +kernel
theorem nat_le {a b : Nat} (h : a ≤ b) : (a : Rat) ≤ (b : Rat) := by exact_mod_cast h
theorem n_eps {n : Nat} (h : n ≤ 1073741824) : 0 ≤ (n : Rat) * eps ∧ (n : Rat) * eps ≤ 1 := by
  have h0 : (0 : Rat) ≤ (n : Rat) := nat_le (Nat.zero_le n)
  have h1 := nat_le h
  have e : ((1073741824 : Nat) : Rat) = 1073741824 := rfl
  rw [e] at h1
  unfold eps
  constructor <;> grind
def addE (E G : Rat × Rat) : Rat × Rat := (E.1 + G.1, E.2 + G.2)
theorem NE.mono {n m M K : Nat} {X : P2} {E : Rat × Rat} (h : NE n M X E) (hn : n ≤ m) (hM : M ≤ K) : NE m K X E := by
  have a := nat_le hn
  have b := nat_le hM
  have e := eps_pos
  have := Rat.mul_le_mul_of_nonneg_right a (Rat.le_of_lt e)
  have l2 := h.l2
  have h2 := h.h2
  have ma := h.ma
  have mb := h.mb
  exact ⟨h.bl, h.bh, h.ab, h.l1, by grind, h.h1, by grind, by grind, by grind⟩
theorem fi_of_bd {b : Nat} (h : Bd 1060 b) : Fi b := h.fi (by decide)
theorem NE.add {n m M K : Nat} {X Y : P2} {E G : Rat × Rat} (h : NE n M X E) (h' : NE m K Y G) (hn : n ≤ 1000000000) (hm : m ≤ 1000000000) (hM : M ≤ 500000) (hK : K ≤ 500000) : NE (n + m + 1) (M + K) (addP X Y) (addE E G) := by
  obtain ⟨a0, a1⟩ := n_eps (show n ≤ 1073741824 by omega)
  obtain ⟨b0, b1⟩ := n_eps (show m ≤ 1073741824 by omega)
  have e0 := eps_pos
  have eb : eps ≤ 1 := by unfold eps; decide +kernel
  have M1 := nat_le hM
  have K1 := nat_le hK
  have c1 : ((500000 : Nat) : Rat) = 500000 := rfl
  rw [c1] at M1 K1
  obtain ⟨g1, g2, g3, g4, g5, g6, g7⟩ := And.intro h.ab (And.intro h.l1 (And.intro h.l2 (And.intro h.h1 (And.intro h.h2 (And.intro h.ma h.mb)))))
  obtain ⟨k1, k2, k3, k4, k5, k6, k7⟩ := And.intro h'.ab (And.intro h'.l1 (And.intro h'.l2 (And.intro h'.h1 (And.intro h'.h2 (And.intro h'.ma h'.mb)))))
  have s1 := (step_near (z := vR X.1 + vR Y.1) (by decide) (add_rd (fi_of_bd h.bl) (fi_of_bd h'.bl)) (by
    rw [Rat.intCast_add]
    show kR X.1 + kR Y.1 = _ * 1
    rw [vR_eq, vR_eq]; grind) (by grind) (by grind)).1
  have s2 := (step_near (z := vR X.2 + vR Y.2) (by decide) (add_rd (fi_of_bd h.bh) (fi_of_bd h'.bh)) (by
    rw [Rat.intCast_add]
    show kR X.2 + kR Y.2 = _ * 1
    rw [vR_eq, vR_eq]; grind) (by grind) (by grind)).2
  have n1 := (add_rd (fi_of_bd h.bl) (fi_of_bd h'.bl)).nn
  have n2 := (add_rd (fi_of_bd h.bh) (fi_of_bd h'.bh)).nn
  have hle : ix (dn (fop .add .f64 X.1 Y.1)) ≤ ix (up (fop .add .f64 X.2 Y.2)) := by
    have : vR (dn (fop .add .f64 X.1 Y.1)) ≤ vR (up (fop .add .f64 X.2 Y.2)) := by grind
    have h3 := Rat.mul_le_mul_of_nonneg_right this (Rat.le_of_lt uR_pos')
    rw [← vR_eq, ← vR_eq] at h3
    have h4 : kv (dn (fop .add .f64 X.1 Y.1)) ≤ kv (up (fop .add .f64 X.2 Y.2)) := by exact_mod_cast h3
    exact rk_le_iff.1 h4
  have eq : addP X Y = (dn (fop .add .f64 X.1 Y.1), up (fop .add .f64 X.2 Y.2)) := outP_eq n1 n2 hle
  have nc : ((n + m + 1 : Nat) : Rat) = (n : Rat) + (m : Rat) + 1 := by rw [Rat.natCast_add, Rat.natCast_add]; rfl
  have mc : ((M + K : Nat) : Rat) = (M : Rat) + (K : Rat) := Rat.natCast_add _ _
  rw [eq]
  refine ⟨bd_small s1.1 (by grind) (by grind), bd_small s2.1 (by grind) (by grind), ?_, ?_, ?_, ?_, ?_, ?_, ?_⟩ <;> simp only [addE] <;> (try rw [nc]) <;> (try rw [mc]) <;> grind

def mn (x y : Rat) : Rat := if x ≤ y then x else y
def mx (x y : Rat) : Rat := if x ≤ y then y else x
def mulE (E G : Rat × Rat) : Rat × Rat := (mn (mn (E.1 * G.1) (E.1 * G.2)) (mn (E.2 * G.1) (E.2 * G.2)), mx (mx (E.1 * G.1) (E.1 * G.2)) (mx (E.2 * G.1) (E.2 * G.2)))
theorem mn4 (p q r s : Rat) : mn (mn p q) (mn r s) ≤ p ∧ mn (mn p q) (mn r s) ≤ q ∧ mn (mn p q) (mn r s) ≤ r ∧ mn (mn p q) (mn r s) ≤ s := by
  unfold mn
  (repeat' split) <;> refine ⟨?_, ?_, ?_, ?_⟩ <;> grind
theorem mx4 (p q r s : Rat) : p ≤ mx (mx p q) (mx r s) ∧ q ≤ mx (mx p q) (mx r s) ∧ r ≤ mx (mx p q) (mx r s) ∧ s ≤ mx (mx p q) (mx r s) := by
  unfold mx
  (repeat' split) <;> refine ⟨?_, ?_, ?_, ?_⟩ <;> grind
theorem mul_bd {x y p q : Rat} (h1 : -p ≤ x) (h2 : x ≤ p) (h3 : -q ≤ y) (h4 : y ≤ q) : -(p * q) ≤ x * y ∧ x * y ≤ p * q := by
  have a := Rat.mul_nonneg (show 0 ≤ p - x by grind) (show 0 ≤ q + y by grind)
  have b := Rat.mul_nonneg (show 0 ≤ p + x by grind) (show 0 ≤ q - y by grind)
  have c := Rat.mul_nonneg (show 0 ≤ p - x by grind) (show 0 ≤ q - y by grind)
  have d := Rat.mul_nonneg (show 0 ≤ p + x by grind) (show 0 ≤ q + y by grind)
  constructor <;> grind
/-- A product of two that are near. -/
theorem mul_near {a A c C M K α γ : Rat} (h1 : -α ≤ a - A) (h2 : a - A ≤ α) (h3 : -γ ≤ c - C) (h4 : c - C ≤ γ) (hA : -M ≤ A) (hA2 : A ≤ M) (hC : -K ≤ C) (hC2 : C ≤ K) :
    -(M * γ + K * α + α * γ) ≤ a * c - A * C ∧ a * c - A * C ≤ M * γ + K * α + α * γ := by
  obtain ⟨x1, x2⟩ := mul_bd hA hA2 h3 h4
  obtain ⟨y1, y2⟩ := mul_bd hC hC2 h1 h2
  obtain ⟨w1, w2⟩ := mul_bd h1 h2 h3 h4
  constructor <;> grind
set_option maxHeartbeats 4000000 in
theorem NE.mul {n m M K : Nat} {X Y : P2} {E G : Rat × Rat} (h : NE n M X E) (h' : NE m K Y G) (hn : n ≤ 1000000) (hm : m ≤ 1000000) (hM : M ≤ 20000) (hK : K ≤ 20000) (hMK : M * K ≤ 500000) : NE (M * m + K * n + n + 1) (M * K) (mulP X Y) (mulE E G) := by
  obtain ⟨a0, a1⟩ := n_eps (show n ≤ 1073741824 by omega)
  obtain ⟨b0, b1⟩ := n_eps (show m ≤ 1073741824 by omega)
  have e0 := eps_pos
  have eb : eps ≤ 1 / 1000000000 := by unfold eps; decide +kernel
  have na : (n : Rat) * eps ≤ 1 / 1000 := by
    have := nat_le hn
    have c : ((1000000 : Nat) : Rat) = 1000000 := rfl
    rw [c] at this
    have h3 := Rat.mul_le_mul_of_nonneg_right this (Rat.le_of_lt e0)
    grind
  have mb' : (m : Rat) * eps ≤ 1 / 1000 := by
    have := nat_le hm
    have c : ((1000000 : Nat) : Rat) = 1000000 := rfl
    rw [c] at this
    have h3 := Rat.mul_le_mul_of_nonneg_right this (Rat.le_of_lt e0)
    grind
  have M0 : (0 : Rat) ≤ (M : Rat) := nat_le (Nat.zero_le _)
  have K0 : (0 : Rat) ≤ (K : Rat) := nat_le (Nat.zero_le _)
  have M1 := nat_le hM
  have K1 := nat_le hK
  have c1 : ((20000 : Nat) : Rat) = 20000 := rfl
  rw [c1] at M1 K1
  have MKr : (M : Rat) * (K : Rat) ≤ 500000 := by
    have := nat_le hMK
    rw [Rat.natCast_mul] at this
    exact this
  obtain ⟨g1, g2, g3, g4, g5, g6, g7⟩ := And.intro h.ab (And.intro h.l1 (And.intro h.l2 (And.intro h.h1 (And.intro h.h2 (And.intro h.ma h.mb)))))
  obtain ⟨k1, k2, k3, k4, k5, k6, k7⟩ := And.intro h'.ab (And.intro h'.l1 (And.intro h'.l2 (And.intro h'.h1 (And.intro h'.h2 (And.intro h'.ma h'.mb)))))
  obtain ⟨A, B⟩ := E
  obtain ⟨C, D⟩ := G
  simp only at g1 g2 g3 g4 g5 g6 g7 k1 k2 k3 k4 k5 k6 k7
  have fa := fi_of_bd h.bl
  have fb := fi_of_bd h.bh
  have fc := fi_of_bd h'.bl
  have fd := fi_of_bd h'.bh
  -- the four products
  have t : ∀ {x x' y y' : Rat}, -((n : Rat) * eps) ≤ x - x' → x - x' ≤ (n : Rat) * eps → -((m : Rat) * eps) ≤ y - y' → y - y' ≤ (m : Rat) * eps → -(M : Rat) ≤ x' → x' ≤ (M : Rat) → -(K : Rat) ≤ y' → y' ≤ (K : Rat) →
      -((M : Rat) * ((m : Rat) * eps) + (K : Rat) * ((n : Rat) * eps) + (n : Rat) * eps) ≤ x * y - x' * y' ∧ x * y - x' * y' ≤ (M : Rat) * ((m : Rat) * eps) + (K : Rat) * ((n : Rat) * eps) + (n : Rat) * eps ∧ -((M : Rat) * (K : Rat)) ≤ x' * y' ∧ x' * y' ≤ (M : Rat) * (K : Rat) := by
    intro x x' y y' i1 i2 i3 i4 i5 i6 i7 i8
    obtain ⟨w1, w2⟩ := mul_near i1 i2 i3 i4 i5 i6 i7 i8
    obtain ⟨v1, v2⟩ := mul_bd i5 i6 i7 i8
    have : (n : Rat) * eps * ((m : Rat) * eps) ≤ (n : Rat) * eps := by
      have := Rat.mul_le_mul_of_nonneg_left b1 a0
      rw [Rat.mul_one] at this
      exact this
    refine ⟨by grind, by grind, v1, v2⟩
  have dl : (M : Rat) * ((m : Rat) * eps) + (K : Rat) * ((n : Rat) * eps) + (n : Rat) * eps ≤ 41 := by
    have x1 := Rat.mul_le_mul_of_nonneg_left mb' M0
    have x2 := Rat.mul_le_mul_of_nonneg_left na K0
    grind
  obtain ⟨p1, p2, p3, p4⟩ := t (x := vR X.1) (x' := A) (y := vR Y.1) (y' := C) (by grind) (by grind) (by grind) (by grind) (by grind) (by grind) (by grind) (by grind)
  obtain ⟨q1, q2, q3, q4⟩ := t (x := vR X.1) (x' := A) (y := vR Y.2) (y' := D) (by grind) (by grind) (by grind) (by grind) (by grind) (by grind) (by grind) (by grind)
  obtain ⟨r1, r2, r3, r4⟩ := t (x := vR X.2) (x' := B) (y := vR Y.1) (y' := C) (by grind) (by grind) (by grind) (by grind) (by grind) (by grind) (by grind) (by grind)
  obtain ⟨s1, s2, s3, s4⟩ := t (x := vR X.2) (x' := B) (y := vR Y.2) (y' := D) (by grind) (by grind) (by grind) (by grind) (by grind) (by grind) (by grind) (by grind)
  have st : ∀ {x y : Nat}, Fi x → Fi y → -600000 ≤ vR x * vR y → vR x * vR y ≤ 600000 →
      NN (fop .mul .f64 x y) ∧ (Fi (dn (fop .mul .f64 x y)) ∧ vR x * vR y - eps ≤ vR (dn (fop .mul .f64 x y)) ∧ vR (dn (fop .mul .f64 x y)) ≤ vR x * vR y) ∧ (Fi (up (fop .mul .f64 x y)) ∧ vR x * vR y ≤ vR (up (fop .mul .f64 x y)) ∧ vR (up (fop .mul .f64 x y)) ≤ vR x * vR y + eps) := by
    intro x y fx fy h1 h2
    have hr := mul_rd fx fy
    obtain ⟨w1, w2⟩ := step_near (z := vR x * vR y) un_pos hr (by
      rw [Rat.intCast_mul]
      show kR x * kR y = _
      rw [vR_eq, vR_eq]; grind) (by grind) (by grind)
    exact ⟨hr.nn, w1, w2⟩
  obtain ⟨P0, P1, P2⟩ := st fa fc (by grind) (by grind)
  obtain ⟨Q0, Q1, Q2⟩ := st fa fd (by grind) (by grind)
  obtain ⟨R0, R1, R2⟩ := st fb fc (by grind) (by grind)
  obtain ⟨S0, S1, S2⟩ := st fb fd (by grind) (by grind)
  have e := ends_of P0 Q0 R0 S0
  unfold mulP
  rw [spanP_eq P0 Q0 R0 S0]
  generalize loB (fop .mul .f64 X.2 Y.2) (loB (fop .mul .f64 X.2 Y.1) (loB (fop .mul .f64 X.1 Y.2) (fop .mul .f64 X.1 Y.1))) = lo at e ⊢
  generalize hiB (fop .mul .f64 X.2 Y.2) (hiB (fop .mul .f64 X.2 Y.1) (hiB (fop .mul .f64 X.1 Y.2) (fop .mul .f64 X.1 Y.1))) = hi at e ⊢
  have vmono : ∀ {x y : Nat}, ix x ≤ ix y → vR x ≤ vR y := by
    intro x y hxy
    have h3 : kv x ≤ kv y := rk_le hxy
    have h4 : kR x ≤ kR y := by exact_mod_cast h3
    rw [vR_eq x, vR_eq y] at h4
    exact Rat.le_of_mul_le_mul_right h4 uR_pos'
  have dnm : ∀ {y : Nat}, NN y → ix lo ≤ ix y → vR (dn lo) ≤ vR (dn y) := fun hy hl => vmono (dn_mono e.nlo hy hl)
  have upm : ∀ {y : Nat}, NN y → ix y ≤ ix hi → vR (up y) ≤ vR (up hi) := fun hy hl => vmono (up_mono hy e.nhi hl)
  have lP := dnm P0 e.lo_a
  have lQ := dnm Q0 e.lo_b
  have lR := dnm R0 e.lo_c
  have lS := dnm S0 e.lo_d
  have hP := upm P0 e.hi_a
  have hQ := upm Q0 e.hi_b
  have hR := upm R0 e.hi_c
  have hS := upm S0 e.hi_d
  have fl : Fi (dn lo) ∧ (vR (dn lo) = vR (dn (fop .mul .f64 X.1 Y.1)) ∨ vR (dn lo) = vR (dn (fop .mul .f64 X.1 Y.2)) ∨ vR (dn lo) = vR (dn (fop .mul .f64 X.2 Y.1)) ∨ vR (dn lo) = vR (dn (fop .mul .f64 X.2 Y.2))) := by
    rcases e.lo_is with q | q | q | q <;> rw [q]
    · exact ⟨P1.1, .inl rfl⟩
    · exact ⟨Q1.1, .inr (.inl rfl)⟩
    · exact ⟨R1.1, .inr (.inr (.inl rfl))⟩
    · exact ⟨S1.1, .inr (.inr (.inr rfl))⟩
  have fh : Fi (up hi) ∧ (vR (up hi) = vR (up (fop .mul .f64 X.1 Y.1)) ∨ vR (up hi) = vR (up (fop .mul .f64 X.1 Y.2)) ∨ vR (up hi) = vR (up (fop .mul .f64 X.2 Y.1)) ∨ vR (up hi) = vR (up (fop .mul .f64 X.2 Y.2))) := by
    rcases e.hi_is with q | q | q | q <;> rw [q]
    · exact ⟨P2.1, .inl rfl⟩
    · exact ⟨Q2.1, .inr (.inl rfl)⟩
    · exact ⟨R2.1, .inr (.inr (.inl rfl))⟩
    · exact ⟨S2.1, .inr (.inr (.inr rfl))⟩
  -- every exact product is between
  have btw : ∀ {x y : Rat}, vR X.1 ≤ x → x ≤ vR X.2 → vR Y.1 ≤ y → y ≤ vR Y.2 → vR (dn lo) ≤ x * y ∧ x * y ≤ vR (up hi) := by
    intro x y i1 i2 i3 i4
    constructor
    · rcases corner_lo i1 i2 i3 i4 with c | c | c | c <;> grind
    · rcases corner_hi i1 i2 i3 i4 with c | c | c | c <;> grind
  obtain ⟨x1, x2⟩ := btw (x := A) (y := C) g2 (by grind) k2 (by grind)
  obtain ⟨y1, y2⟩ := btw (x := A) (y := D) g2 (by grind) (by grind) k4
  obtain ⟨w1, w2⟩ := btw (x := B) (y := C) (by grind) g4 k2 (by grind)
  obtain ⟨v1, v2⟩ := btw (x := B) (y := D) (by grind) g4 (by grind) k4
  have nc : ((M * m + K * n + n + 1 : Nat) : Rat) * eps = (M : Rat) * ((m : Rat) * eps) + (K : Rat) * ((n : Rat) * eps) + (n : Rat) * eps + eps := by
    rw [Rat.natCast_add, Rat.natCast_add, Rat.natCast_add, Rat.natCast_mul, Rat.natCast_mul]
    have : ((1 : Nat) : Rat) = 1 := rfl
    rw [this]; grind
  have mc : ((M * K : Nat) : Rat) = (M : Rat) * (K : Rat) := Rat.natCast_mul _ _
  have lower : vR (dn lo) ≤ mn (mn (A * C) (A * D)) (mn (B * C) (B * D)) := by unfold mn; (repeat' split) <;> assumption
  have upper : mx (mx (A * C) (A * D)) (mx (B * C) (B * D)) ≤ vR (up hi) := by unfold mx; (repeat' split) <;> assumption
  have mnl := mn4 (A * C) (A * D) (B * C) (B * D)
  have mxl := mx4 (A * C) (A * D) (B * C) (B * D)
  have mnb : -((M : Rat) * (K : Rat)) ≤ mn (mn (A * C) (A * D)) (mn (B * C) (B * D)) := by unfold mn; (repeat' split) <;> assumption
  have mxb : mx (mx (A * C) (A * D)) (mx (B * C) (B * D)) ≤ (M : Rat) * (K : Rat) := by unfold mx; (repeat' split) <;> assumption
  refine ⟨bd_small fl.1 ?_ ?_, bd_small fh.1 ?_ ?_, ?_, lower, ?_, upper, ?_, ?_, ?_⟩
  · rcases fl.2 with c | c | c | c <;> grind
  · grind
  · grind
  · rcases fh.2 with c | c | c | c <;> grind
  · show mn (mn (A * C) (A * D)) (mn (B * C) (B * D)) ≤ mx (mx (A * C) (A * D)) (mx (B * C) (B * D))
    grind
  · show mn (mn (A * C) (A * D)) (mn (B * C) (B * D)) - _ ≤ vR (dn lo)
    rw [nc]
    rcases fl.2 with c | c | c | c <;> grind
  · show vR (up hi) ≤ mx (mx (A * C) (A * D)) (mx (B * C) (B * D)) + _
    rw [nc]
    rcases fh.2 with c | c | c | c <;> grind
  · rw [mc]; exact mnb
  · rw [mc]; exact mxb

end Go.Proofs.Ythajhpilfbijdaa
