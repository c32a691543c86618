/- Products of Models, either way about: near the same exact ones. -/
import Derived.Test.YtnbbmihlokajaaaModelHo
import Derived.Test.YtnbbmihlokajaaaNear
namespace Go.Proofs.Ytnbbmihlokajaaa
open Go
set_option linter.unusedVariables false
set_option linter.unusedSimpArgs false
set_option maxRecDepth 100000

def pwE (odd : Bool) : Rat × Rat := bif odd then (-1, 0) else (0, 1)
def polyE (c : Nat → Rat × Rat) : Rat × Rat := addE (addE (addE (addE (addE (addE (addE (addE (c 0) (mulE (c 1) (pwE true))) (mulE (c 2) (pwE false))) (mulE (c 3) (pwE true))) (mulE (c 4) (pwE false))) (mulE (c 5) (pwE true))) (mulE (c 6) (pwE false))) (mulE (c 7) (pwE true))) (mulE (c 8) (pwE false))
def rangeE (c : Nat → Rat × Rat) : Rat × Rat := addE (polyE c) (c 9)
def coefE (c d : Nat → Rat × Rat) (k : Nat) : Nat → Rat × Rat
  | 0 => mulE (c 0) (d k)
  | i + 1 => addE (coefE c d k i) (mulE (c (i + 1)) (d (k - (i + 1))))
def restE (c d : Nat → Rat × Rat) : List (Nat × Nat × Bool) → Rat × Rat → Rat × Rat
  | [], r => r
  | (i, j, o) :: l, r => restE c d l (addE r (mulE (mulE (c i) (d j)) (pwE o)))
def restME (c d : Nat → Rat × Rat) : Rat × Rat := addE (addE (restE c d pairs9 (0, 0)) (mulE (c 9) (rangeE d))) (mulE (polyE c) (d 9))
def mulME (c d : Nat → Rat × Rat) : Nat → Rat × Rat := fun k => bif Nat.ble k 8 then coefE c d k k else restME c d

theorem vR_zero : vR 0 = 0 := by unfold vR; rw [kR_zero]; grind
theorem vR_one : vR oneW = 1 := by
  have h : kR oneW = uR := kR_one
  have h2 := vR_eq oneW
  rw [h] at h2
  have h3 : (vR oneW - 1) * uR = 0 := by grind
  rcases Rat.mul_eq_zero.1 h3 with h | h
  · grind
  · exact absurd h uR_ne
theorem vR_mone : vR moneW = -1 := by
  have h : kR moneW = -uR := kR_mone
  have h2 := vR_eq moneW
  rw [h] at h2
  have h3 : (vR moneW + 1) * uR = 0 := by grind
  rcases Rat.mul_eq_zero.1 h3 with h | h
  · grind
  · exact absurd h uR_ne
theorem ne_pw : ∀ o : Bool, NE 0 1 (pwP o) (pwE o)
  | true => by
    have e : ((0 : Nat) : Rat) = 0 := rfl
    have e1 : ((1 : Nat) : Rat) = 1 := rfl
    have a : vR (pwP true).1 = -1 := vR_mone
    have b : vR (pwP true).2 = 0 := vR_zero
    have c : (pwE true).1 = -1 := rfl
    have d : (pwE true).2 = 0 := rfl
    exact ⟨bd_mone.mono (by decide), bd_zero.mono (by decide), by rw [c, d]; decide +kernel, by rw [a, c]; exact Rat.le_refl, by rw [a, c, e]; grind, by rw [b, d]; exact Rat.le_refl, by rw [b, d, e]; grind, by rw [c, e1]; grind, by rw [d, e1]; decide +kernel⟩
  | false => by
    have e : ((0 : Nat) : Rat) = 0 := rfl
    have e1 : ((1 : Nat) : Rat) = 1 := rfl
    have a : vR (pwP false).1 = 0 := vR_zero
    have b : vR (pwP false).2 = 1 := vR_one
    have c : (pwE false).1 = 0 := rfl
    have d : (pwE false).2 = 1 := rfl
    exact ⟨bd_zero.mono (by decide), bd_one.mono (by decide), by rw [c, d]; decide +kernel, by rw [a, c]; exact Rat.le_refl, by rw [a, c, e]; grind, by rw [b, d]; exact Rat.le_refl, by rw [b, d, e]; grind, by rw [c, e1]; decide +kernel, by rw [d, e1]; exact Rat.le_refl⟩
theorem NE.pw {n M : Nat} {X : P2} {E : Rat × Rat} (h : NE n M X E) (hn : n ≤ 1000000) (hM : M ≤ 20000) (o : Bool) : NE (2 * n + 1) M (mulP X (pwP o)) (mulE E (pwE o)) :=
  (h.mul (ne_pw o) hn (by decide) hM (by decide) (by omega)).mono (by omega) (by omega)
theorem ne_poly {n M : Nat} {c : Nat → P2} {C : Nat → Rat × Rat} (h : ∀ k, k ≤ 8 → NE n M (c k) (C k)) (hn : n ≤ 1000) (hM : M ≤ 1000) : NE (17 * n + 16) (9 * M) (polyM c) (polyE C) := by
  have p := fun k (hk : k ≤ 8) o => (h k hk).pw (by omega) (by omega) o
  have r1 := (h 0 (by decide)).add (p 1 (by decide) true) (by omega) (by omega) (by omega) (by omega)
  have r2 := r1.add (p 2 (by decide) false) (by omega) (by omega) (by omega) (by omega)
  have r3 := r2.add (p 3 (by decide) true) (by omega) (by omega) (by omega) (by omega)
  have r4 := r3.add (p 4 (by decide) false) (by omega) (by omega) (by omega) (by omega)
  have r5 := r4.add (p 5 (by decide) true) (by omega) (by omega) (by omega) (by omega)
  have r6 := r5.add (p 6 (by decide) false) (by omega) (by omega) (by omega) (by omega)
  have r7 := r6.add (p 7 (by decide) true) (by omega) (by omega) (by omega) (by omega)
  have r8 := r7.add (p 8 (by decide) false) (by omega) (by omega) (by omega) (by omega)
  exact r8.mono (by omega) (by omega)
theorem ne_range {n M m K : Nat} {c : Nat → P2} {C : Nat → Rat × Rat} (h : ∀ k, k ≤ 8 → NE n M (c k) (C k)) (h9 : NE m K (c 9) (C 9)) (hn : n ≤ 1000) (hM : M ≤ 1000) (hm : m ≤ 1000) (hK : K ≤ 10000) : NE (17 * n + 17 + m) (9 * M + K) (rangeM c) (rangeE C) :=
  ((ne_poly h hn hM).add h9 (by omega) (by omega) (by omega) (by omega)).mono (by omega) (by omega)

structure NM (c : Nat → P2) (C : Nat → Rat × Rat) : Prop where
  co : ∀ k, k ≤ 8 → NE 0 9 (c k) (C k)
  re : NE 0 1 (c 9) (C 9)
theorem ne_coef {c d : Nat → P2} {C D : Nat → Rat × Rat} (h : NM c C) (h' : NM d D) (k : Nat) (hk : k ≤ 8) : ∀ i, i ≤ k → NE (1 + 2 * i) (81 * (i + 1)) (coefA c d k i) (coefE C D k i)
  | 0, _ => (h.co 0 (by decide)).mul (h'.co k hk) (by decide) (by decide) (by decide) (by decide) (by decide)
  | i + 1, hi => by
    have ih := ne_coef h h' k hk i (by omega)
    have g := (h.co (i + 1) (by omega)).mul (h'.co (k - (i + 1)) (by omega)) (by decide) (by decide) (by decide) (by decide) (by decide)
    exact (ih.add g (by omega) (by decide) (by omega) (by decide)).mono (by omega) (by omega)
theorem ne_rest {c d : Nat → P2} {C D : Nat → Rat × Rat} (h : NM c C) (h' : NM d D) : ∀ (l : List (Nat × Nat × Bool)) (n M : Nat) (R : P2) (E : Rat × Rat), (∀ x ∈ l, x.1 ≤ 8 ∧ x.2.1 ≤ 8 ∧ x.2.2 = decide ((x.1 + x.2.1) % 2 = 1)) → n + 4 * l.length ≤ 1000 → M + 81 * l.length ≤ 100000 → NE n M R E →
    NE (n + 4 * l.length) (M + 81 * l.length) (restL c d l R) (restE C D l E)
  | [], n, M, R, E, _, _, _, hr => hr
  | (i, j, o) :: l, n, M, R, E, hl, hn, hM, hr => by
    obtain ⟨hi, hj, _⟩ := hl (i, j, o) (List.mem_cons_self ..)
    simp only [List.length_cons] at hn hM
    have g := (h.co i hi).mul (h'.co j hj) (by decide) (by decide) (by decide) (by decide) (by decide)
    have g2 := g.pw (by decide) (by decide) o
    have g3 := (hr.add g2 (by omega) (by decide) (by omega) (by decide)).mono (show n + (2 * (9 * 0 + 9 * 0 + 0 + 1) + 1) + 1 ≤ n + 4 by omega) (show M + 9 * 9 ≤ M + 81 by omega)
    have := ne_rest h h' l (n + 4) (M + 81) _ _ (fun x hx => hl x (List.mem_cons_of_mem _ hx)) (by omega) (by omega) g3
    have e1 : n + 4 + 4 * l.length = n + 4 * (l.length + 1) := by omega
    have e2 : M + 81 + 81 * l.length = M + 81 * (l.length + 1) := by omega
    rw [e1, e2] at this
    exact this
theorem ne_00 : NE 0 0 ((0, 0) : P2) (0, 0) := by
  have e : ((0 : Nat) : Rat) = 0 := rfl
  exact ⟨bd_zero.mono (by decide), bd_zero.mono (by decide), Rat.le_refl, by rw [vR_zero]; exact Rat.le_refl, by rw [vR_zero, e]; decide +kernel, by rw [vR_zero]; exact Rat.le_refl, by rw [vR_zero, e]; decide +kernel, by rw [e]; decide +kernel, by rw [e]; exact Rat.le_refl⟩
theorem ne_mul {c d : Nat → P2} {C D : Nat → Rat × Rat} (h : NM c C) (h' : NM d D) : (∀ k, k ≤ 8 → NE 17 729 (mulM c d k) (mulME C D k)) ∧ NE 197 3079 (mulM c d 9) (mulME C D 9) := by
  refine ⟨fun k hk => ?_, ?_⟩
  · have e : mulM c d k = coefA c d k k := by unfold mulM; rw [Nat.ble_eq_true_of_le hk]; rfl
    have e2 : mulME C D k = coefE C D k k := by unfold mulME; rw [Nat.ble_eq_true_of_le hk]; rfl
    rw [e, e2]
    exact (ne_coef h h' k hk k (Nat.le_refl _)).mono (by omega) (by omega)
  · have e : mulM c d 9 = restM c d := by unfold mulM; rw [show Nat.ble 9 8 = false from rfl]; exact cond_false _ _
    have e2 : mulME C D 9 = restME C D := by unfold mulME; rw [show Nat.ble 9 8 = false from rfl]; exact cond_false _ _
    rw [e, e2]
    unfold restM restME
    have r1 : NE 144 2916 (restL c d pairs9 (0, 0)) (restE C D pairs9 (0, 0)) := ne_rest h h' pairs9 0 0 _ _ pairs_ok (by decide) (by decide) ne_00
    have rd := ne_range h'.co h'.re (by decide) (by decide) (by decide) (by decide)
    have pc := ne_poly h.co (by decide) (by decide)
    have r2 := h.re.mul rd (by decide) (by decide) (by decide) (by decide) (by decide)
    have r3 := pc.mul h'.re (by decide) (by decide) (by decide) (by decide) (by decide)
    exact ((r1.add r2 (by decide) (by decide) (by decide) (by decide)).add r3 (by decide) (by decide) (by decide) (by decide)).mono (by decide) (by decide)
theorem ne_all {c d : Nat → P2} {C D : Nat → Rat × Rat} (h : NM c C) (h' : NM d D) : NE 503 9640 (rangeM (mulM c d)) (rangeE (mulME C D)) := by
  obtain ⟨a, b⟩ := ne_mul h h'
  exact (ne_range a b (by decide) (by decide) (by decide) (by decide)).mono (by decide) (by decide)

/-! the exact ones, either way about -/
theorem mn_comm (x y : Rat) : mn x y = mn y x := by unfold mn; split <;> split <;> grind
theorem mx_comm (x y : Rat) : mx x y = mx y x := by unfold mx; split <;> split <;> grind
theorem mn_swap (p q r s : Rat) : mn (mn p q) (mn r s) = mn (mn p r) (mn q s) := by unfold mn; (repeat' split) <;> grind
theorem mx_swap (p q r s : Rat) : mx (mx p q) (mx r s) = mx (mx p r) (mx q s) := by unfold mx; (repeat' split) <;> grind
theorem mulE_comm (E G : Rat × Rat) : mulE E G = mulE G E := by
  unfold mulE
  rw [mn_swap, mx_swap, Rat.mul_comm E.1 G.1, Rat.mul_comm E.1 G.2, Rat.mul_comm E.2 G.1, Rat.mul_comm E.2 G.2]
theorem coef_comm (C D : Nat → Rat × Rat) : ∀ k, k ≤ 8 → coefE C D k k = coefE D C k k := by
  have h : ∀ i j, mulE (C i) (D j) = mulE (D j) (C i) := fun i j => mulE_comm _ _
  intro k hk
  have hk' : k = 0 ∨ k = 1 ∨ k = 2 ∨ k = 3 ∨ k = 4 ∨ k = 5 ∨ k = 6 ∨ k = 7 ∨ k = 8 := by omega
  rcases hk' with rfl | rfl | rfl | rfl | rfl | rfl | rfl | rfl | rfl <;> simp only [coefE, h, addE, Prod.mk.injEq] <;> first | rfl | (constructor <;> grind)
theorem poly_congr {C D : Nat → Rat × Rat} (h : ∀ k, k ≤ 8 → C k = D k) : polyE C = polyE D := by
  unfold polyE
  rw [h 0 (by decide), h 1 (by decide), h 2 (by decide), h 3 (by decide), h 4 (by decide), h 5 (by decide), h 6 (by decide), h 7 (by decide), h 8 (by decide)]
theorem rest_comm (C D : Nat → Rat × Rat) : restE C D pairs9 (0, 0) = restE D C pairs9 (0, 0) := by
  have h : ∀ i j, mulE (C i) (D j) = mulE (D j) (C i) := fun i j => mulE_comm _ _
  simp only [restE, pairs9, h, addE, Prod.mk.injEq]
  constructor <;> grind
/-- How far from nought. -/
def mg (x y : Rat) : Rat := mx (mx x (-x)) (mx y (-y))
theorem mulE_sym {w C D : Rat} (hw : 0 ≤ w) : mulE (-w, w) (C, D) = (-(w * mg C D), w * mg C D) := by
  have key : ∀ x : Rat, mx (w * x) (w * -x) = w * mx x (-x) := by
    intro x
    unfold mx
    by_cases c : x ≤ -x
    · rw [if_pos c, if_pos (Rat.mul_le_mul_of_nonneg_left c hw)]
    · rw [if_neg c]
      by_cases c2 : w * x ≤ w * -x
      · rw [if_pos c2]
        have := Rat.mul_le_mul_of_nonneg_left (show -x ≤ x by grind) hw
        grind
      · rw [if_neg c2]
  have key2 : ∀ x y : Rat, mx (w * x) (w * y) = w * mx x y := by
    intro x y
    unfold mx
    by_cases c : x ≤ y
    · rw [if_pos c, if_pos (Rat.mul_le_mul_of_nonneg_left c hw)]
    · rw [if_neg c]
      by_cases c2 : w * x ≤ w * y
      · rw [if_pos c2]
        have := Rat.mul_le_mul_of_nonneg_left (show y ≤ x by grind) hw
        grind
      · rw [if_neg c2]
  have neg : ∀ x y : Rat, mn (-x) (-y) = -mx x y := by
    intro x y
    unfold mn mx
    split <;> split <;> grind
  have a1 : mulE (-w, w) (C, D) = (mn (mn (-(w * C)) (-(w * D))) (mn (-(w * -C)) (-(w * -D))), mx (mx (w * -C) (w * -D)) (mx (w * C) (w * D))) := by
    unfold mulE
    simp only
    rw [show -w * C = -(w * C) by grind, show -w * D = -(w * D) by grind, show w * C = -(w * -C) by grind, show w * D = -(w * -D) by grind]
    congr 1
    rw [show -(w * -C) = w * C by grind, show -(w * -D) = w * D by grind, show -(w * C) = w * -C by grind, show -(w * D) = w * -D by grind]
  rw [a1, neg, neg, neg, mx_comm (mx (w * -C) (w * -D)), mx_swap (w * C), key, key, key2]
  rfl
theorem mg_shift {P Q w : Rat} (h : P ≤ Q) (hw : 0 ≤ w) : mg (P - w) (Q + w) = mg P Q + w := by
  unfold mg mx
  (repeat' split) <;> grind
theorem range_comm {C D : Nat → Rat × Rat} {w v : Rat} (hC : C 9 = (-w, w)) (hD : D 9 = (-v, v)) (hw : 0 ≤ w) (hv : 0 ≤ v) (hpC : (polyE C).1 ≤ (polyE C).2) (hpD : (polyE D).1 ≤ (polyE D).2) : rangeE (mulME C D) = rangeE (mulME D C) := by
  have hp : polyE (mulME C D) = polyE (mulME D C) := poly_congr fun k hk => by
    have e : mulME C D k = coefE C D k k := by unfold mulME; rw [Nat.ble_eq_true_of_le hk]; rfl
    have e2 : mulME D C k = coefE D C k k := by unfold mulME; rw [Nat.ble_eq_true_of_le hk]; rfl
    rw [e, e2, coef_comm C D k hk]
  have hr : mulME C D 9 = mulME D C 9 := by
    have e : mulME C D 9 = restME C D := by unfold mulME; rw [show Nat.ble 9 8 = false from rfl]; exact cond_false _ _
    have e2 : mulME D C 9 = restME D C := by unfold mulME; rw [show Nat.ble 9 8 = false from rfl]; exact cond_false _ _
    rw [e, e2]
    unfold restME rangeE
    rw [rest_comm, hC, hD]
    generalize restE D C pairs9 (0, 0) = R
    generalize polyE C = P at hpC ⊢
    generalize polyE D = Q at hpD ⊢
    obtain ⟨P1, P2⟩ := P
    obtain ⟨Q1, Q2⟩ := Q
    simp only at hpC hpD
    rw [mulE_comm (P1, P2), mulE_comm (Q1, Q2)]
    have s1 : addE (Q1, Q2) (-v, v) = (Q1 - v, Q2 + v) := by unfold addE; simp only [Prod.mk.injEq]; constructor <;> grind
    have s2 : addE (P1, P2) (-w, w) = (P1 - w, P2 + w) := by unfold addE; simp only [Prod.mk.injEq]; constructor <;> grind
    rw [s1, s2, mulE_sym hw, mulE_sym hv, mulE_sym hv, mulE_sym hw, mg_shift hpD hv, mg_shift hpC hw]
    simp only [addE, Prod.mk.injEq]
    constructor <;> grind
  unfold rangeE
  rw [hp, hr]

end Go.Proofs.Ytnbbmihlokajaaa
