/- What a Model holds at s, of rational numbers: sums, differences, products hold what they must; so does its range. -/
import Derived.Test.YtnbbmihlokajaaaModelW
import Derived.Test.YtnbbmihlokajaaaMemR
namespace Go.Proofs.Ytnbbmihlokajaaa
open Go
set_option linter.unusedVariables false
set_option linter.unusedSimpArgs false
set_option maxRecDepth 100000

/-- Numbers that a Model's rows hold. -/
structure EM (n : Nat) (c : Nat → P2) (γ : Nat → Rat) (ρ : Rat) : Prop where
  co : ∀ k, k ≤ 8 → MR n (c k) (γ k)
  re : MR n (c 9) ρ

def pS (γ : Nat → Rat) (s : Rat) : Rat := γ 0 + γ 1 * s^1 + γ 2 * s^2 + γ 3 * s^3 + γ 4 * s^4 + γ 5 * s^5 + γ 6 * s^6 + γ 7 * s^7 + γ 8 * s^8

theorem EM.mono {n m : Nat} {c : Nat → P2} {γ : Nat → Rat} {ρ : Rat} (h : EM n c γ ρ) (hn : n ≤ m) : EM m c γ ρ := ⟨fun k hk => (h.co k hk).mono hn, h.re.mono hn⟩
theorem EM.add {n : Nat} {c d : Nat → P2} {γ δ : Nat → Rat} {ρ σ : Rat} (h : EM n c γ ρ) (h' : EM n d δ σ) (hn : 0 < n) (hn2 : n < 2045) : EM (n + 2) (addM c d) (fun k => γ k + δ k) (ρ + σ) :=
  ⟨fun k hk => (h.co k hk).add (h'.co k hk) hn hn2, h.re.add h'.re hn hn2⟩
theorem EM.sub {n : Nat} {c d : Nat → P2} {γ δ : Nat → Rat} {ρ σ : Rat} (h : EM n c γ ρ) (h' : EM n d δ σ) (hn : 0 < n) (hn2 : n < 2045) : EM (n + 2) (subM c d) (fun k => γ k - δ k) (ρ - σ) :=
  ⟨fun k hk => (h.co k hk).sub (h'.co k hk) hn hn2, h.re.sub h'.re hn hn2⟩

/-! powers of s -/
theorem bd_zero : Bd 1 0 := ⟨by decide, by decide⟩
theorem bd_one : Bd 1023 oneW := ⟨by decide, by decide⟩
theorem bd_mone : Bd 1023 moneW := ⟨by decide, by decide⟩
theorem kR_zero : kR 0 = 0 := by show ((0 : Int) : Rat) = 0; rfl
theorem kR_one : kR oneW = uR := by unfold kR uR; rw [one_fi.2]; rfl
theorem kR_mone : kR moneW = -uR := by unfold kR uR; rw [mone_fi.2, Rat.intCast_neg]; rfl
theorem uR_pos : (0 : Rat) < uR := un_r

theorem mr_even {t : Rat} (h0 : 0 ≤ t) (h1 : t ≤ 1) : MR 1023 (pwP false) t := by
  refine ⟨bd_zero.mono (by decide), bd_one, ?_, ?_⟩
  · show kR 0 ≤ _
    rw [kR_zero]
    exact Rat.mul_nonneg h0 (Rat.le_of_lt uR_pos)
  · show _ ≤ kR oneW
    rw [kR_one]
    have := Rat.mul_le_mul_of_nonneg_right h1 (Rat.le_of_lt uR_pos)
    rw [Rat.one_mul] at this
    exact this
theorem mr_odd {t : Rat} (h0 : -1 ≤ t) (h1 : t ≤ 0) : MR 1023 (pwP true) t := by
  refine ⟨bd_mone, bd_zero.mono (by decide), ?_, ?_⟩
  · show kR moneW ≤ _
    rw [kR_mone]
    have := Rat.mul_le_mul_of_nonneg_right h0 (Rat.le_of_lt uR_pos)
    rw [Rat.neg_mul, Rat.one_mul] at this
    exact this
  · show _ ≤ kR 0
    rw [kR_zero]
    have := Rat.mul_le_mul_of_nonneg_right h1 (Rat.le_of_lt uR_pos)
    rw [Rat.zero_mul] at this
    exact this
theorem pow_in {s : Rat} (h0 : -1 ≤ s) (h1 : s ≤ 0) : ∀ k : Nat, (k % 2 = 0 → 0 ≤ s ^ k ∧ s ^ k ≤ 1) ∧ (k % 2 = 1 → -1 ≤ s ^ k ∧ s ^ k ≤ 0)
  | 0 => ⟨fun _ => by rw [Rat.pow_zero]; exact ⟨by decide, by decide⟩, fun h => by cases h⟩
  | k + 1 => by
    have ih := pow_in h0 h1 k
    have hu : 0 ≤ -s := by grind
    have hu1 : -s ≤ 1 := by grind
    refine ⟨fun h => ?_, fun h => ?_⟩
    · obtain ⟨a, b⟩ := ih.2 (by omega)
      have a' : 0 ≤ -(s ^ k) := by grind
      have e1 := Rat.mul_nonneg a' hu
      have e2 := Rat.mul_le_mul_of_nonneg_left hu1 a'
      rw [Rat.pow_succ]
      constructor <;> grind
    · obtain ⟨a, b⟩ := ih.1 (by omega)
      have e1 := Rat.mul_nonneg a hu
      have e2 := Rat.mul_le_mul_of_nonneg_left hu1 a
      rw [Rat.pow_succ]
      constructor <;> grind
theorem mr_pow {s : Rat} (h0 : -1 ≤ s) (h1 : s ≤ 0) (k : Nat) (o : Bool) (ho : o = decide (k % 2 = 1)) : MR 1023 (pwP o) (s ^ k) := by
  rcases Nat.mod_two_eq_zero_or_one k with h | h
  · obtain ⟨a, b⟩ := (pow_in h0 h1 k).1 h
    rw [ho, decide_eq_false (by omega)]
    exact mr_even a b
  · obtain ⟨a, b⟩ := (pow_in h0 h1 k).2 h
    rw [ho, decide_eq_true h]
    exact mr_odd a b
/-- Times a power. -/
theorem MR.pow {n : Nat} {X : P2} {x s : Rat} (h : MR n X x) (hn : 1023 ≤ n) (hn2 : n < 2046) (h0 : -1 ≤ s) (h1 : s ≤ 0) (k : Nat) (o : Bool) (ho : o = decide (k % 2 = 1)) : MR (n + 1) (mulP X (pwP o)) (x * s ^ k) :=
  h.mul (mr_pow h0 h1 k o ho) (by omega) (by decide) (by omega) (by decide) (by omega) (by omega) hn2

/-! polynomials, ranges -/
theorem EM.poly {n : Nat} {c : Nat → P2} {γ : Nat → Rat} {ρ s : Rat} (h : EM n c γ ρ) (hn : 1023 ≤ n) (hn2 : n < 2000) (h0 : -1 ≤ s) (h1 : s ≤ 0) : MR (n + 17) (polyM c) (pS γ s) := by
  have p := fun k (hk : k ≤ 8) o (ho : o = decide (k % 2 = 1)) => (h.co k hk).pow hn (by omega) h0 h1 k o ho
  have r0 := (h.co 0 (by decide)).mono (show n ≤ n + 1 by omega)
  have r1 := r0.add (p 1 (by decide) true rfl) (by omega) (by omega)
  have r2 := r1.add ((p 2 (by decide) false rfl).mono (show n + 1 ≤ n + 1 + 2 by omega)) (by omega) (by omega)
  have r3 := r2.add ((p 3 (by decide) true rfl).mono (show n + 1 ≤ n + 1 + 2 + 2 by omega)) (by omega) (by omega)
  have r4 := r3.add ((p 4 (by decide) false rfl).mono (show n + 1 ≤ n + 1 + 2 + 2 + 2 by omega)) (by omega) (by omega)
  have r5 := r4.add ((p 5 (by decide) true rfl).mono (show n + 1 ≤ n + 1 + 2 + 2 + 2 + 2 by omega)) (by omega) (by omega)
  have r6 := r5.add ((p 6 (by decide) false rfl).mono (show n + 1 ≤ n + 1 + 2 + 2 + 2 + 2 + 2 by omega)) (by omega) (by omega)
  have r7 := r6.add ((p 7 (by decide) true rfl).mono (show n + 1 ≤ n + 1 + 2 + 2 + 2 + 2 + 2 + 2 by omega)) (by omega) (by omega)
  have r8 := r7.add ((p 8 (by decide) false rfl).mono (show n + 1 ≤ n + 1 + 2 + 2 + 2 + 2 + 2 + 2 + 2 by omega)) (by omega) (by omega)
  exact r8
theorem EM.range {n : Nat} {c : Nat → P2} {γ : Nat → Rat} {ρ s : Rat} (h : EM n c γ ρ) (hn : 1023 ≤ n) (hn2 : n < 2000) (h0 : -1 ≤ s) (h1 : s ≤ 0) : MR (n + 19) (rangeM c) (pS γ s + ρ) :=
  (h.poly hn hn2 h0 h1).add (h.re.mono (by omega)) (by omega) (by omega)

/-! products -/
def coefS (γ δ : Nat → Rat) (k : Nat) : Nat → Rat
  | 0 => γ 0 * δ k
  | i + 1 => coefS γ δ k i + γ (i + 1) * δ (k - (i + 1))
def restS (γ δ : Nat → Rat) (s : Rat) : List (Nat × Nat × Bool) → Rat → Rat
  | [], r => r
  | (i, j, _) :: l, r => restS γ δ s l (r + γ i * δ j * s ^ (i + j))

theorem coef_mr {n m p : Nat} {c d : Nat → P2} {γ δ : Nat → Rat} {ρ σ : Rat} (h : EM n c γ ρ) (h' : EM m d δ σ) (hn : 1023 ≤ n) (hm : 1023 ≤ m) (hp : n + m = p + 1022) (hp2 : p < 1900) (k : Nat) (hk : k ≤ 8) :
    ∀ i, i ≤ k → MR (p + 2 * i) (coefA c d k i) (coefS γ δ k i)
  | 0, _ => (h.co 0 (by omega)).mul (r := p - 1) (h'.co k hk) (by omega) (by omega) (by omega) (by omega) (by omega) (by omega) (by omega) |>.mono (by omega)
  | i + 1, hi => by
    have ih := coef_mr h h' hn hm hp hp2 k hk i (by omega)
    have g := (h.co (i + 1) (by omega)).mul (r := p - 1) (h'.co (k - (i + 1)) (by omega)) (by omega) (by omega) (by omega) (by omega) (by omega) (by omega) (by omega)
    exact ih.add (g.mono (by omega)) (by omega) (by omega)
theorem rest_mr {n m p : Nat} {c d : Nat → P2} {γ δ : Nat → Rat} {ρ σ s : Rat} (h : EM n c γ ρ) (h' : EM m d δ σ) (hn : 1023 ≤ n) (hm : 1023 ≤ m) (hp : n + m = p + 1022) (hp2 : p < 1900) (h0 : -1 ≤ s) (h1 : s ≤ 0) :
    ∀ (l : List (Nat × Nat × Bool)) (q : Nat) (R : P2) (r : Rat), (∀ x ∈ l, x.1 ≤ 8 ∧ x.2.1 ≤ 8 ∧ x.2.2 = decide ((x.1 + x.2.1) % 2 = 1)) → p + 1 ≤ q → q + 2 * l.length < 2040 → MR q R r → MR (q + 2 * l.length) (restL c d l R) (restS γ δ s l r)
  | [], q, R, r, _, _, _, hr => hr
  | (i, j, o) :: l, q, R, r, hl, hq, hq2, hr => by
    obtain ⟨hi, hj, ho⟩ := hl (i, j, o) (List.mem_cons_self ..)
    simp only [List.length_cons] at hq2
    have g := (h.co i hi).mul (r := p - 1) (h'.co j hj) (by omega) (by omega) (by omega) (by omega) (by omega) (by omega) (by omega)
    have g2 := (g.mono (show p - 1 + 1 ≤ p by omega)).pow (by omega) (by omega) h0 h1 (i + j) o ho
    have g3 := hr.add (g2.mono hq) (by omega) (by omega)
    have := rest_mr h h' hn hm hp hp2 h0 h1 l (q + 2) _ _ (fun x hx => hl x (List.mem_cons_of_mem _ hx)) (by omega) (by omega) g3
    have e : q + 2 + 2 * l.length = q + 2 * (l.length + 1) := by omega
    rw [e] at this
    exact this
theorem pairs_ok : ∀ x ∈ pairs9, x.1 ≤ 8 ∧ x.2.1 ≤ 8 ∧ x.2.2 = decide ((x.1 + x.2.1) % 2 = 1) := by decide

def mulG (γ δ : Nat → Rat) : Nat → Rat := fun k => coefS γ δ k k
def mulR (γ δ : Nat → Rat) (ρ σ s : Rat) : Rat := restS γ δ s pairs9 0 + ρ * (pS δ s + σ) + pS γ s * σ

theorem EM.mul {n m p : Nat} {c d : Nat → P2} {γ δ : Nat → Rat} {ρ σ s : Rat} (h : EM n c γ ρ) (h' : EM m d δ σ) (hn : 1023 ≤ n) (hm : 1023 ≤ m) (hn2 : n < 1950) (hm2 : m < 1950) (hp : n + m = p + 1022) (hp2 : p < 1900) (h0 : -1 ≤ s) (h1 : s ≤ 0) :
    EM (p + 77) (mulM c d) (mulG γ δ) (mulR γ δ ρ σ s) := by
  refine ⟨fun k hk => ?_, ?_⟩
  · have := coef_mr h h' hn hm hp hp2 k hk k (Nat.le_refl _)
    have e : mulM c d k = coefA c d k k := by unfold mulM; rw [Nat.ble_eq_true_of_le hk]; rfl
    rw [e]
    exact this.mono (by omega)
  · have e9 : mulM c d 9 = restM c d := by unfold mulM; rw [show Nat.ble 9 8 = false from rfl]; exact cond_false _ _
    rw [e9]
    unfold restM mulR
    have z : MR (p + 1) ((0, 0) : P2) 0 := MR.mono (n := 1) ⟨bd_zero, bd_zero, by rw [Rat.zero_mul]; exact kR_zero ▸ Rat.le_refl, by rw [Rat.zero_mul]; exact kR_zero ▸ Rat.le_refl⟩ (by omega)
    have r1 := rest_mr h h' hn hm hp hp2 h0 h1 pairs9 (p + 1) (0, 0) 0 pairs_ok (Nat.le_refl _) (by show p + 1 + 2 * 36 < 2040; omega) z
    have r2 := h.re.mul (r := p + 18) (h'.range hm (by omega) h0 h1) (by omega) (by omega) (by omega) (by omega) (by omega) (by omega) (by omega)
    have r3 := (h.poly hn (by omega) h0 h1).mul (r := p + 16) h'.re (by omega) (by omega) (by omega) (by omega) (by omega) (by omega) (by omega)
    have r1' : MR (p + 73) (restL c d pairs9 (0, 0)) (restS γ δ s pairs9 0) := r1
    have r4 := r1'.add (r2.mono (by omega)) (by omega) (by omega)
    exact r4.add (r3.mono (by omega)) (by omega) (by omega)

theorem mul_id (γ δ : Nat → Rat) (ρ σ s : Rat) : pS (mulG γ δ) s + mulR γ δ ρ σ s = (pS γ s + ρ) * (pS δ s + σ) := by
  simp only [pS, mulG, mulR, coefS, restS, pairs9]
  grind

/-- What a Model holds at s. -/
def Ev (n : Nat) (s : Rat) (c : Nat → P2) (x : Rat) : Prop := ∃ γ ρ, EM n c γ ρ ∧ pS γ s + ρ = x
theorem Ev.add {n : Nat} {s x y : Rat} {c d : Nat → P2} (h : Ev n s c x) (h' : Ev n s d y) (hn : 0 < n) (hn2 : n < 2045) : Ev (n + 2) s (addM c d) (x + y) := by
  obtain ⟨γ, ρ, h, rfl⟩ := h
  obtain ⟨δ, σ, h', rfl⟩ := h'
  exact ⟨_, _, h.add h' hn hn2, by simp only [pS]; grind⟩
theorem Ev.sub {n : Nat} {s x y : Rat} {c d : Nat → P2} (h : Ev n s c x) (h' : Ev n s d y) (hn : 0 < n) (hn2 : n < 2045) : Ev (n + 2) s (subM c d) (x - y) := by
  obtain ⟨γ, ρ, h, rfl⟩ := h
  obtain ⟨δ, σ, h', rfl⟩ := h'
  exact ⟨_, _, h.sub h' hn hn2, by simp only [pS]; grind⟩
theorem Ev.mul {n m p : Nat} {s x y : Rat} {c d : Nat → P2} (h : Ev n s c x) (h' : Ev m s d y) (hn : 1023 ≤ n) (hm : 1023 ≤ m) (hn2 : n < 1950) (hm2 : m < 1950) (hp : n + m = p + 1022) (hp2 : p < 1900) (h0 : -1 ≤ s) (h1 : s ≤ 0) : Ev (p + 77) s (mulM c d) (x * y) := by
  obtain ⟨γ, ρ, h, rfl⟩ := h
  obtain ⟨δ, σ, h', rfl⟩ := h'
  exact ⟨_, _, h.mul h' hn hm hn2 hm2 hp hp2 h0 h1, mul_id γ δ ρ σ s⟩
theorem Ev.mono {n m : Nat} {s x : Rat} {c : Nat → P2} (h : Ev n s c x) (hn : n ≤ m) : Ev m s c x := by
  obtain ⟨γ, ρ, h, e⟩ := h
  exact ⟨γ, ρ, h.mono hn, e⟩
theorem Ev.range {n : Nat} {s x : Rat} {c : Nat → P2} (h : Ev n s c x) (hn : 1023 ≤ n) (hn2 : n < 2000) (h0 : -1 ≤ s) (h1 : s ≤ 0) : MR (n + 19) (rangeM c) x := by
  obtain ⟨γ, ρ, h, rfl⟩ := h
  exact h.range hn hn2 h0 h1

/-! at s, row by row -/
def hornM (c : Nat → P2) (S : P2) : P2 :=
  addP (mulP (addP (mulP (addP (mulP (addP (mulP (addP (mulP (addP (mulP (addP (mulP (addP (mulP (c 8) S) (c 7)) S) (c 6)) S) (c 5)) S) (c 4)) S) (c 3)) S) (c 2)) S) (c 1)) S) (c 0)
def heldM (c : Nat → P2) (S : P2) : P2 := addP (hornM c S) (c 9)
theorem EM.horn {n : Nat} {c : Nat → P2} {γ : Nat → Rat} {ρ s : Rat} {S : P2} (h : EM n c γ ρ) (hn : 1023 ≤ n) (hn2 : n < 2000) (hS : MR 1023 S s) : MR (n + 24) (hornM c S) (pS γ s) := by
  have step : ∀ {q k : Nat} {X : P2} {x : Rat}, MR q X x → n ≤ q → q < 2030 → k ≤ 8 → MR (q + 3) (addP (mulP X S) (c k)) (x * s + γ k) := by
    intro q k X x hx h1 h2 hk
    have g := hx.mul (r := q) hS (by omega) (by decide) (by omega) (by decide) (by omega) (by omega) (by omega)
    exact g.add ((h.co k hk).mono (by omega)) (by omega) (by omega)
  have h8 := h.co 8 (by decide)
  have h7 := step h8 (by omega) (by omega) (show 7 ≤ 8 by decide)
  have h6 := step h7 (by omega) (by omega) (show 6 ≤ 8 by decide)
  have h5 := step h6 (by omega) (by omega) (show 5 ≤ 8 by decide)
  have h4 := step h5 (by omega) (by omega) (show 4 ≤ 8 by decide)
  have h3 := step h4 (by omega) (by omega) (show 3 ≤ 8 by decide)
  have h2 := step h3 (by omega) (by omega) (show 2 ≤ 8 by decide)
  have h1 := step h2 (by omega) (by omega) (show 1 ≤ 8 by decide)
  have h0 := step h1 (by omega) (by omega) (show 0 ≤ 8 by decide)
  exact h0.cast (by simp only [pS]; grind)
theorem Ev.held {n : Nat} {s x : Rat} {c : Nat → P2} {S : P2} (h : Ev n s c x) (hn : 1023 ≤ n) (hn2 : n < 2000) (hS : MR 1023 S s) : MR (n + 26) (heldM c S) x := by
  obtain ⟨γ, ρ, h, rfl⟩ := h
  exact (h.horn hn hn2 hS).add (h.re.mono (by omega)) (by omega) (by omega)

end Go.Proofs.Ytnbbmihlokajaaa
