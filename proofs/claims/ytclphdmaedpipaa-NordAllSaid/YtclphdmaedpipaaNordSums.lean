/- The law NordSums at one shape: what it asks for holds. -/
import Derived.Test.YtclphdmaedpipaaNordPred
import Derived.Test.YtclphdmaedpipaaNordTop
import Derived.Test.YtclphdmaedpipaaNordElse
namespace Go.Proofs.Ytclphdmaedpipaa
open Go
set_option linter.unusedVariables false
set_option maxRecDepth 100000

def addF : List Nat → List Nat → List Nat
  | a :: l, b :: r => fop .add .f64 a b :: addF l r
  | _, _ => []
def addZ : List Int → List Int → List Int
  | a :: l, b :: r => (a + b) :: addZ l r
  | _, _ => []

theorem addZ_len : ∀ {a b : List Int}, a.length = b.length → (addZ a b).length = a.length
  | [], [], _ => rfl
  | _ :: a, _ :: b, h => by
    simp at h
    simp [addZ, addZ_len h]
theorem addF_len : ∀ {a b : List Nat}, a.length = b.length → (addF a b).length = a.length
  | [], [], _ => rfl
  | _ :: a, _ :: b, h => by
    simp at h
    simp [addF, addF_len h]

theorem ColZ.addC {B : Nat} (hB : B * 2 < 9007199254740992) : ∀ {a b : List Nat} {A C : List Int}, ColZ B a A → ColZ B b C → a.length = b.length → ColZ (B * 2) (addF a b) (addZ A C)
  | _, _, _, _, .nil, .nil, _ => .nil
  | _, _, _, _, .cons h hb t, .cons g gb u, hl => by
    simp at hl
    exact .cons (h.add g (by omega)) (by omega) (ColZ.addC hB t u hl)

theorem sufZ_add : ∀ (a b : List Int), a.length = b.length → sufZ (addZ a b) = addZ (sufZ a) (sufZ b)
  | [], [], _ => rfl
  | x :: a, y :: b, h => by
    simp at h
    have ih := sufZ_add a b h
    have ha := sufZ_length a
    have hb := sufZ_length b
    rw [show sufZ (addZ (x :: a) (y :: b)) = (match sufZ (addZ a b) with | [] => [x + y] | h :: t => ((x + y) + h) :: h :: t) from rfl, ih]
    simp only [sufZ]
    generalize sufZ a = p at ha
    generalize sufZ b = q at hb
    cases p with
    | nil => cases q with
      | nil => rfl
      | cons _ _ => simp at ha hb; omega
    | cons p1 p2 => cases q with
      | nil => simp at ha hb; omega
      | cons q1 q2 =>
        simp only [addZ]
        rw [show x + y + (p1 + q1) = x + p1 + (y + q1) by omega]

theorem predZ_len : ∀ (n : Nat) (l : List Int), (predZ n l).length = l.length
  | 0, l => rfl
  | n + 1, l => by
    have hl := sufZ_length l
    simp only [predZ]
    generalize sufZ l = s at hl
    cases s with
    | nil => simpa using hl
    | cons h t =>
      simp at hl ⊢
      rw [predZ_len n t]
      exact hl

theorem predZ_add : ∀ (n : Nat) (a b : List Int), a.length = b.length → predZ n (addZ a b) = addZ (predZ n a) (predZ n b)
  | 0, _, _, _ => rfl
  | n + 1, a, b, h => by
    have e := sufZ_add a b h
    have ha := sufZ_length a
    have hb := sufZ_length b
    simp only [predZ]
    rw [e]
    generalize sufZ a = p at ha
    generalize sufZ b = q at hb
    cases p with
    | nil => cases q with
      | nil => rfl
      | cons _ _ => simp at ha hb; omega
    | cons p1 p2 => cases q with
      | nil => simp at ha hb; omega
      | cons q1 q2 =>
        simp only [addZ]
        rw [predZ_add n p2 q2 (by simp at ha hb; omega)]

theorem atZ_add (x : Int) : ∀ (a b : List Int), a.length = b.length → atZ x (addZ a b) = atZ x a + atZ x b
  | [], [], _ => rfl
  | p :: a, q :: b, h => by
    simp at h
    rw [show atZ x (addZ (p :: a) (q :: b)) = atZ x (addZ a b) * x + (p + q) from rfl, atZ_add x a b h, show atZ x (p :: a) = atZ x a * x + p from rfl, show atZ x (q :: b) = atZ x b * x + q from rfl, Int.add_mul]
    omega

theorem addZ_getD : ∀ (a b : List Int) (k : Nat), a.length = b.length → (addZ a b).getD k 0 = a.getD k 0 + b.getD k 0
  | [], [], _, _ => by simp [addZ]
  | p :: a, q :: b, 0, _ => by simp [addZ]
  | p :: a, q :: b, k + 1, h => by
    simp at h
    have := addZ_getD a b k h
    simpa [addZ] using this

theorem ColZ.getZ {B : Nat} {l : List Nat} {L : List Int} (h : ColZ B l L) : ∀ k : Nat, k < l.length → IsZ (l.getD k 0) (L.getD k 0) ∧ (L.getD k 0).natAbs ≤ B := by
  induction h with
  | nil => intro k hk; simp at hk
  | cons h hb t ih =>
    intro k hk
    cases k with
    | zero => exact ⟨by simpa using h, by simpa using hb⟩
    | succ k => simp at hk; simpa using ih k hk

def cObl (x y : Nat) : Obl := .cmp .neq 28 (.float .f64 x) (.float .f64 y) false
def colC (q k : Nat) (ra rb : List Int) (i : Nat) : List Nat := addF (colF q k ra i) (colF q k rb i)
def sumObls (q k : Nat) (t : Nat) (ra rb : List Int) : List (Nat × Nat) → List Obl
  | [] => []
  | (j, i) :: r =>
    cObl ((predL q (colC q k ra rb i)).getD j 0) (fop .add .f64 ((predL q (colF q k ra i)).getD j 0) ((predL q (colF q k rb i)).getD j 0)) ::
    cObl (atL t (colC q k ra rb i)) (fop .add .f64 (atL t (colF q k ra i)) (atL t (colF q k rb i))) :: sumObls q k t ra rb r
def placesP (q k : Nat) : List (Nat × Nat) := ((List.range (q + 1)).map fun j => (List.range k).map fun i => (j, i)).flatten
def grown (H : AHeap) (e q k : Nat) (rs : List Int) : AHeap := thaw H (froze H ++ (zBs e q k rs).toArray)
def gObl (q k e : Nat) (n : Int) (v : Value) (H : AHeap) (rs : List Int) : Obl :=
  .run 14 #[.int .i64 (Int.ofNat q), .int .i64 n, v] (froze H) (zV e q k) (froze H ++ (zBs e q k rs).toArray)
def perMake (q k : Nat) : Nat := (q + 1) * (2 * k + 2)
def noes : Nat → List Ans
  | 0 => []
  | n + 1 => yes false :: noes n
def neqC : BinOp → Value → Value → Bool
  | .neq, .float _ _, _ => true
  | _, _, _ => false

def logS (e q k : Nat) (order n s : Int) (va vb : Value) (H : AHeap) (ra rb rc : List Int) : List Obl :=
  let H1 := grown H e q k ra
  let H2 := grown H1 (e + perMake q k) q k rb
  kObl :: wObl order 5 (Int.ofNat (q - 1)) :: gObl q k e n va H ra :: gObl q k (e + perMake q k) n vb H1 rb :: gObl q k (e + perMake q k + perMake q k) n va H2 rc :: wObl s 9 (s % 9) ::
    sumObls q k (pX s) ra rb (placesP q k)
noncomputable def sumsRun (e q k : Nat) (order n s : Int) (va vb : Value) (H : AHeap) (ra rb rc : List Int) : Option (Value × List Obl) :=
  (askN askL neqC 12 4 #[.int .i64 order, .int .i64 n, va, vb, .int .i64 s] H
    (yes true :: isI (Int.ofNat (q - 1)) :: mAns e q k ra :: mAns (e + perMake q k) q k rb :: mAns (e + perMake q k + perMake q k) q k rc :: isI (s % 9) :: noes (2 * ((q + 1) * k)))).map (fun r => (r.1, r.2.2))
/-- The walk at one shape, whatever the numbers, in a memory of so many blocks. -/
def SumsRun (q k : Nat) (H : AHeap) : Prop := ∀ (order n s : Int) (va vb : Value) (f g h : Nat → Int),
  sumsRun H.size q k order n s va vb H (tab ((q + 1) * k) f) (tab ((q + 1) * k) g) (tab ((q + 1) * k) h) = some (.bool true, logS H.size q k order n s va vb H (tab ((q + 1) * k) f) (tab ((q + 1) * k) g) (tab ((q + 1) * k) h))

theorem neq_ok {x y : Nat} {n : Int} (hx : IsZ x n) (hy : IsZ y n) : (cObl x y).ok Try.prog := by
  have h := hx.order hy
  show (if FloatKind.f64 = FloatKind.f64 then (if isArith .neq then none else fcmp .neq .f64 x y) else none) = some false
  have h2 : FloatKind.f64.format.order x y = some (compare n n) := h
  simp only [if_true, isArith, Bool.false_eq_true, if_false, fcmp]
  rw [h2]
  simp [compare, compareOfLessAndEq]

end Go.Proofs.Ytclphdmaedpipaa
