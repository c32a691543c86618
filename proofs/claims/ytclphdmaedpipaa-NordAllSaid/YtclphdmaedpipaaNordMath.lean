/- Rows of whole numbers: what Predict and At make of a column, as floats, is what they make of whole numbers; and these are one polynomial, one step further on. -/
import Derived.Test.YtclphdmaedpipaaFloat
namespace Go.Proofs.Ytclphdmaedpipaa
open Go
set_option linter.unusedVariables false

/-- A column, each added to what is below it. -/
def sufL : List Nat → List Nat
  | [] => []
  | [x] => [x]
  | x :: y :: r => match sufL (y :: r) with
    | [] => [x]
    | h :: t => fop .add .f64 x h :: h :: t
/-- A column, predicted. -/
def predL : Nat → List Nat → List Nat
  | 0, l => l
  | n + 1, l => match sufL l with
    | [] => []
    | h :: t => h :: predL n t
/-- A column, at a place. -/
def atL (s : Nat) : List Nat → Nat
  | [] => 0
  | [x] => x
  | x :: y :: r => fop .add .f64 (fop .mul .f64 (atL s (y :: r)) s) x

def sufZ : List Int → List Int
  | [] => []
  | x :: r => match sufZ r with
    | [] => [x]
    | h :: t => (x + h) :: h :: t
def predZ : Nat → List Int → List Int
  | 0, l => l
  | n + 1, l => match sufZ l with
    | [] => []
    | h :: t => h :: predZ n t
def atZ (s : Int) : List Int → Int
  | [] => 0
  | x :: r => atZ s r * s + x

/-- A column of whole numbers, none greater than B. -/
inductive ColZ (B : Nat) : List Nat → List Int → Prop
  | nil : ColZ B [] []
  | cons {x : Nat} {n : Int} {l : List Nat} {L : List Int} (h : IsZ x n) (hb : n.natAbs ≤ B) (t : ColZ B l L) : ColZ B (x :: l) (n :: L)

theorem ColZ.length {B : Nat} {l : List Nat} {L : List Int} (h : ColZ B l L) : L.length = l.length := by induction h <;> simp [*]

theorem ColZ.mono {B B' : Nat} (hB : B ≤ B') {l : List Nat} {L : List Int} (h : ColZ B l L) : ColZ B' l L := by
  induction h with
  | nil => exact .nil
  | cons h hb _ ih => exact .cons h (Nat.le_trans hb hB) ih

theorem sufZ_ne {x : Int} {r : List Int} : sufZ (x :: r) ≠ [] := by
  simp only [sufZ]
  split <;> simp

theorem sufL_ne {x : Nat} {r : List Nat} : sufL (x :: r) ≠ [] := by
  cases r with
  | nil => simp [sufL]
  | cons y r =>
    simp only [sufL]
    split <;> simp

theorem sufL_col {B : Nat} : ∀ {l : List Nat} {L : List Int}, ColZ B l L → B * l.length < 9007199254740992 → ColZ (B * l.length) (sufL l) (sufZ L)
  | _, _, .nil, _ => .nil
  | _, _, .cons (x := x) (n := n) h hb .nil, _ => by
    simp only [sufL, sufZ]
    exact .cons h (by simpa using hb) .nil
  | _, _, .cons (x := x) (n := n) h hb (.cons (x := y) (n := k) (l := l) (L := L) g gb t), hlt => by
    have hlt' : B * (y :: l).length < 9007199254740992 := by
      refine Nat.lt_of_le_of_lt (Nat.mul_le_mul_left B ?_) hlt
      simp
    have ih := sufL_col (.cons g gb t) hlt'
    have e : B * (x :: y :: l).length = B + B * (y :: l).length := by
      simp [Nat.mul_add]
      omega
    simp only [sufL]
    rw [show sufZ (n :: k :: L) = (match sufZ (k :: L) with | [] => [n] | h :: t => (n + h) :: h :: t) from rfl]
    generalize hs : sufL (y :: l) = s at ih
    generalize hS : sufZ (k :: L) = S at ih
    cases ih with
    | nil => exact absurd hs sufL_ne
    | @cons x2 n2 l2 L2 i1 i2 i3 =>
      simp only
      have hb2 : (n + n2).natAbs ≤ B * (x :: y :: l).length := by omega
      refine .cons (h.add i1 (by omega)) hb2 (.cons i1 (by omega) (i3.mono (by omega)))

theorem sufL_length : ∀ (l : List Nat), (sufL l).length = l.length
  | [] => rfl
  | [x] => rfl
  | x :: y :: r => by
    have ih := sufL_length (y :: r)
    simp only [sufL]
    split
    · rename_i h; exact absurd h sufL_ne
    · rename_i h
      rw [h] at ih
      simp at ih ⊢
      exact ih

theorem predL_col : ∀ (n : Nat) {B : Nat} {l : List Nat} {L : List Int}, ColZ B l L → l.length ≤ 6 → B * 6 ^ n < 9007199254740992 → ColZ (B * 6 ^ n) (predL n l) (predZ n L)
  | 0, B, l, L, h, _, _ => by simpa [predL, predZ] using h
  | n + 1, B, l, L, h, hl, hlt => by
    have e : B * 6 ^ (n + 1) = B * 6 * 6 ^ n := by rw [Nat.pow_succ, Nat.mul_assoc, Nat.mul_comm 6]
    have hp : 0 < 6 ^ n := Nat.pow_pos (by decide)
    have h6 : B * 6 < 9007199254740992 := by
      rw [e] at hlt
      exact Nat.lt_of_le_of_lt (Nat.le_mul_of_pos_right _ hp) hlt
    have hle : B * l.length ≤ B * 6 := Nat.mul_le_mul_left _ hl
    have hs := (sufL_col h (by omega)).mono hle
    have hlen := sufL_length l
    simp only [predL, predZ]
    generalize sufL l = s at hs hlen
    generalize sufZ L = S at hs
    cases hs with
    | nil => exact .nil
    | @cons x k s S g gb t =>
      simp only
      have ih := predL_col n t (by simp at hlen; omega) (by rw [← e]; exact hlt)
      rw [← e] at ih
      refine .cons g ?_ ih
      rw [e]
      exact Nat.le_trans gb (Nat.le_mul_of_pos_right _ hp)

theorem atL_isZ {s : Nat} {x : Int} (hs : IsZ s x) (hx : x.natAbs ≤ 5) : ∀ {l : List Nat} {L : List Int} {B : Nat}, ColZ B l L → l ≠ [] → B * 6 ^ l.length < 9007199254740992 → IsZ (atL s l) (atZ x L) ∧ (atZ x L).natAbs ≤ B * 6 ^ l.length
  | _, _, _, .nil, hne, _ => absurd rfl hne
  | _, _, B, .cons (x := a) (n := k) h hb .nil, _, _ => by
    simp only [atL, atZ]
    refine ⟨by simpa using h, ?_⟩
    simp
    omega
  | _, _, B, .cons (x := a) (n := k) (l := _) h hb (.cons (x := b) (n := j) (l := l) (L := L) g gb t), _, hlt => by
    have e : B * 6 ^ (a :: b :: l).length = B * 6 ^ (b :: l).length * 6 := by simp [Nat.pow_succ, Nat.mul_assoc]
    have hp : 0 < 6 ^ (b :: l).length := Nat.pow_pos (by decide)
    have hB : B ≤ B * 6 ^ (b :: l).length := Nat.le_mul_of_pos_right _ hp
    obtain ⟨i1, i2⟩ := atL_isZ hs hx (.cons g gb t) (by simp) (by omega)
    have hm : (atZ x (j :: L) * x).natAbs ≤ B * 6 ^ (b :: l).length * 5 := by
      rw [Int.natAbs_mul]
      exact Nat.mul_le_mul i2 hx
    have hs2 : (atZ x (j :: L) * x + k).natAbs ≤ B * 6 ^ (a :: b :: l).length := by omega
    rw [show atZ x (k :: j :: L) = atZ x (j :: L) * x + k from rfl]
    exact ⟨(i1.mul hs (by omega)).add h (by omega), hs2⟩

/-- A polynomial is what it is at 1, and what is left, times one less. -/
theorem atZ_suf (x : Int) : ∀ L : List Int, atZ (x + 1) L = (match sufZ L with | [] => 0 | h :: t => h + x * atZ (x + 1) t)
  | [] => rfl
  | [a] => by simp [atZ, sufZ]
  | a :: b :: r => by
    have ih := atZ_suf x (b :: r)
    rw [show atZ (x + 1) (a :: b :: r) = atZ (x + 1) (b :: r) * (x + 1) + a from rfl, ih]
    rw [show sufZ (a :: b :: r) = (match sufZ (b :: r) with | [] => [a] | h :: t => (a + h) :: h :: t) from rfl]
    generalize hS : sufZ (b :: r) = S
    cases S with
    | nil => exact absurd hS sufZ_ne
    | cons h t =>
      simp only
      rw [show atZ (x + 1) (h :: t) = atZ (x + 1) t * (x + 1) + h from rfl]
      generalize atZ (x + 1) t = q
      grind

theorem sufZ_length : ∀ (l : List Int), (sufZ l).length = l.length
  | [] => rfl
  | x :: r => by
    have ih := sufZ_length r
    simp only [sufZ]
    split
    · rename_i h; rw [h] at ih; simp at ih ⊢; exact List.length_eq_zero_iff.1 ih.symm
    · rename_i h; rw [h] at ih; simp at ih ⊢; exact ih

/-- What is predicted is the same polynomial, one step further on. -/
theorem atZ_pred (x : Int) : ∀ (n : Nat) (L : List Int), L.length ≤ n + 1 → atZ x (predZ n L) = atZ (x + 1) L
  | 0, [], _ => rfl
  | 0, [a], _ => by simp [predZ, atZ]
  | 0, a :: b :: r, h => by simp at h
  | n + 1, L, h => by
    rw [atZ_suf x L]
    have hl := sufZ_length L
    simp only [predZ]
    generalize sufZ L = S at hl
    cases S with
    | nil => rfl
    | cons a t =>
      simp only
      rw [show atZ x (a :: predZ n t) = atZ x (predZ n t) * x + a from rfl, atZ_pred x n t (by simp at hl; omega)]
      grind

end Go.Proofs.Ytclphdmaedpipaa
