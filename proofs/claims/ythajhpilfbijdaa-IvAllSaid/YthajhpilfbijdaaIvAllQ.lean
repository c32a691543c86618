/- The law IvAll: its questions. -/
import Derived.Test.YthajhpilfbijdaaIvBoth
import Derived.Test.YthajhpilfbijdaaLawIvRare
namespace Go.Proofs.Ythajhpilfbijdaa
open Go
set_option linter.unusedVariables false
set_option linter.unusedSimpArgs false
set_option maxRecDepth 100000

noncomputable def askA (f : FuncId) : Nat := if [16, 34, 27, 39,
  18, 19, 20, 21, 22, 24, 29, 31, 32, 33, 35,
  40, 42, 43, 44, 45, 38, 28, 37, 46, 47, 41, 36].contains f then 1 else 0
def allC : BinOp → Value → Value → Bool
  | _, .float _ _, _ => true
  | _, .agg _, _ => true
  | .neq, .bool _, _ => true
  | _, _, _ => false

abbrev Pt := Nat × Nat
def vP (X : Pt) : Value := fl2 X.1 X.2
noncomputable def binO (f : FuncId) (X Y r : Pt) : Obl := .run f #[vP X, vP Y] #[] (vP r) #[]
noncomputable def prO (f : FuncId) (X Y : Pt) (t : Bool) : Obl := .run f #[vP X, vP Y] #[] (.bool t) #[]
noncomputable def p1O (f : FuncId) (X : Pt) (t : Bool) : Obl := .run f #[vP X] #[] (.bool t) #[]
noncomputable def inO' (f : FuncId) (x : Nat) (X : Pt) (t : Bool) : Obl := .run f #[.float .f64 x, vP X] #[] (.bool t) #[]
noncomputable def m1O (f : FuncId) (X : Pt) (y : Nat) : Obl := .run f #[vP X] #[] (.float .f64 y) #[]
noncomputable def f1O (f : FuncId) (x y : Nat) : Obl := .run f #[.float .f64 x] #[] (.float .f64 y) #[]
noncomputable def mk2O (f : FuncId) (x y : Nat) (r : Pt) : Obl := .run f #[.float .f64 x, .float .f64 y] #[] (vP r) #[]
noncomputable def neB (t : Bool) : Obl := .bin binIv .neq 4 (.bool t) (.bool t) false
theorem neB_ok (t : Bool) : (neB t).ok Try.prog := by cases t <;> rfl

noncomputable def rowQ (a : Nat) (X : Pt) (r i : Bool) : List Obl := [p1O 29 X r, p1O 28 X r, neB r, inO' 18 a X i, inO' 40 a X i, neB i]
def rowA (r i : Bool) : List Ans := [yes r, yes r, yes false, yes i, yes i, yes false]
noncomputable def twoQ (f g : FuncId) (X Y r : Pt) : List Obl := [binO f X Y r, binO g X Y r, prO 36 r r true]
def twoA (r : Pt) : List Ans := [aP r, aP r, yes true]
noncomputable def cellQ (X Y : Pt) (rx ry w : Bool) (A S M D J : Pt) (g : Nat) : List Obl :=
  [prO 35 X Y w, prO 41 X Y w, neB w, p1O 28 X rx] ++ bif rx then p1O 28 Y ry :: (bif ry then
    twoQ 19 42 X Y A ++ twoQ 20 43 X Y S ++ twoQ 21 44 X Y M ++ twoQ 22 45 X Y D ++ twoQ 32 46 X Y J ++
    [m1O 33 X g, m1O 47 X g, cmpF .neq g g false] else []) else []
def cellA (rx ry w : Bool) (A S M D J : Pt) (g : Nat) : List Ans :=
  [yes w, yes w, yes false, yes rx] ++ bif rx then yes ry :: (bif ry then twoA A ++ twoA S ++ twoA M ++ twoA D ++ twoA J ++ [isG g, isG g, yes false] else []) else []

/-- The answers of all, by what they are asked of. -/
structure Tab where
  A : Pt × Pt → Pt
  S : Pt × Pt → Pt
  M : Pt × Pt → Pt
  D : Pt × Pt → Pt
  J : Pt × Pt → Pt
  g : Pt → Nat
  w : Pt × Pt → Bool
  i : Pt → Bool

noncomputable def cellsQ (T : Tab) (X : Pt) (rx : Bool) : List (Pt × Bool) → List Obl
  | [] => []
  | (Y, ry) :: l => cellQ X Y rx ry (T.w (X, Y)) (T.A (X, Y)) (T.S (X, Y)) (T.M (X, Y)) (T.D (X, Y)) (T.J (X, Y)) (T.g X) ++ cellsQ T X rx l
def cellsA (T : Tab) (X : Pt) (rx : Bool) : List (Pt × Bool) → List Ans
  | [] => []
  | (Y, ry) :: l => cellA rx ry (T.w (X, Y)) (T.A (X, Y)) (T.S (X, Y)) (T.M (X, Y)) (T.D (X, Y)) (T.J (X, Y)) (T.g X) ++ cellsA T X rx l
noncomputable def rowsQ (T : Tab) (a : Nat) (all : List (Pt × Bool)) : List (Pt × Bool) → List Obl
  | [] => []
  | (X, rx) :: l => rowQ a X rx (T.i X) ++ cellsQ T X rx all ++ rowsQ T a all l
def rowsA (T : Tab) (all : List (Pt × Bool)) : List (Pt × Bool) → List Ans
  | [] => []
  | (X, rx) :: l => rowA rx (T.i X) ++ cellsA T X rx all ++ rowsA T all l

def five (X0 X1 X2 : Pt) (r : Bool) : List (Pt × Bool) := [(X0, true), (X1, true), (X2, r), ((0, 0), true), ((13830554455654793216, 0), true)]
noncomputable def headQ (a b : Nat) (m k w n j v : Int) (X0 X1 X2 P : Pt) (x y z : Nat) (t : Bool) : List Obl :=
  [knO, mkO m k w X0.1 X0.2, mkO n j v X1.1 X1.2, raO m n X2.1 X2.2, mk2O 31 a b P, mk2O 37 a b P, prO 36 P P true, f1O 24 a y, f1O 38 a y, cmpF .neq y y false,
   numO m k x, f1O 24 x z, numO m k x, f1O 38 x z, cmpF .neq z z false, p1O 29 (a, b) t, cmpF .leq a b t, neB t]
def headA (X0 X1 X2 P : Pt) (x y z : Nat) (t : Bool) : List Ans :=
  [yes true, aP X0, aP X1, aP X2, aP P, aP P, yes true, isG y, isG y, yes false, isG x, isG z, isG x, isG z, yes false, yes t, yes t, yes false]

end Go.Proofs.Ythajhpilfbijdaa
