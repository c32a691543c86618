/- ModelW / ModelMul: several texts in one. -/
import Derived.Test.YtnbbmihlokajaaaIvW
import Derived.Test.YtnbbmihlokajaaaModelRange
/-!  What model and the document tell of Models, as plain functions of the ends' words. -/
namespace Go.Proofs.Ytnbbmihlokajaaa
open Go
set_option linter.unusedVariables false
set_option linter.unusedSimpArgs false
set_option maxRecDepth 100000

def mW (c : Nat → P2) : Value := mod9 (c 0) (c 1) (c 2) (c 3) (c 4) (c 5) (c 6) (c 7) (c 8) (c 9)
def pwP (odd : Bool) : P2 := bif odd then (moneW, 0) else (0, oneW)
def addM (c d : Nat → P2) : Nat → P2 := fun k => addP (c k) (d k)
def subM (c d : Nat → P2) : Nat → P2 := fun k => subP (c k) (d k)
def polyM (c : Nat → P2) : P2 := addP (addP (addP (addP (addP (addP (addP (addP (c 0) (mulP (c 1) (pwP true))) (mulP (c 2) (pwP false))) (mulP (c 3) (pwP true))) (mulP (c 4) (pwP false))) (mulP (c 5) (pwP true))) (mulP (c 6) (pwP false))) (mulP (c 7) (pwP true))) (mulP (c 8) (pwP false))
def rangeM (c : Nat → P2) : P2 := addP (polyM c) (c 9)
def coefA (c d : Nat → P2) (k : Nat) : Nat → P2
  | 0 => mulP (c 0) (d k)
  | i + 1 => addP (coefA c d k i) (mulP (c (i + 1)) (d (k - (i + 1))))
def pairs9 : List (Nat × Nat × Bool) := [(1, 8, true), (2, 7, true), (2, 8, false), (3, 6, true), (3, 7, false), (3, 8, true), (4, 5, true), (4, 6, false), (4, 7, true), (4, 8, false), (5, 4, true), (5, 5, false), (5, 6, true), (5, 7, false), (5, 8, true), (6, 3, true), (6, 4, false), (6, 5, true), (6, 6, false), (6, 7, true), (6, 8, false), (7, 2, true), (7, 3, false), (7, 4, true), (7, 5, false), (7, 6, true), (7, 7, false), (7, 8, true), (8, 1, true), (8, 2, false), (8, 3, true), (8, 4, false), (8, 5, true), (8, 6, false), (8, 7, true), (8, 8, false)]
def restL (c d : Nat → P2) : List (Nat × Nat × Bool) → P2 → P2
  | [], r => r
  | (i, j, o) :: l, r => restL c d l (addP r (mulP (mulP (c i) (d j)) (pwP o)))
def restM (c d : Nat → P2) : P2 := addP (addP (restL c d pairs9 (0, 0)) (mulP (c 9) (rangeM d))) (mulP (polyM c) (d 9))
def mulM (c d : Nat → P2) : Nat → P2 := fun k => bif Nat.ble k 8 then coefA c d k k else restM c d
def wL (d : Nat → P2) : Nat → List P2 → P2 → P2
  | _, [], w => w
  | i, q :: l, w => wL d (i + 1) l (subP w (mulP (d i) q))
def qL (c d : Nat → P2) : Nat → List P2
  | 0 => []
  | k + 1 => divP (wL d 1 (qL c d k) (c k)) (d 0) :: qL c d k
def at0 : List P2 → Nat → P2
  | [], _ => (0, 0)
  | q :: _, 0 => q
  | _ :: l, n + 1 => at0 l n
def qC (c d : Nat → P2) : Nat → P2 := fun k => bif Nat.ble k 8 then at0 (qL c d 9) (8 - k) else (0, 0)
def divM (c d : Nat → P2) : Nat → P2 := fun k => bif Nat.ble k 8 then qC c d k else divP (rangeM (subM c (mulM d (qC c d)))) (rangeM d)
def noneM : Nat → P2 := fun k => bif Nat.ble k 8 then (0, 0) else (ninf, pinf)

theorem add_c (c d : Nat → P2) : (askB base1 noF noC 12 31 #[mW c, mW d] #[] []).map (fun r => (r.1, r.2.2)) = some (mW (addM c d), []) := by kernel_rfl
theorem add_cR (c d : Nat → P2) : (askB base1 noF noC 12 34 #[mW c, mW d] #[] []).map (fun r => (r.1, r.2.2)) = some (mW (addM c d), []) := by kernel_rfl
theorem sub_c (c d : Nat → P2) : (askB base1 noF noC 12 32 #[mW c, mW d] #[] []).map (fun r => (r.1, r.2.2)) = some (mW (subM c d), []) := by kernel_rfl
theorem sub_cR (c d : Nat → P2) : (askB base1 noF noC 12 35 #[mW c, mW d] #[] []).map (fun r => (r.1, r.2.2)) = some (mW (subM c d), []) := by kernel_rfl
theorem range_c (c : Nat → P2) : (askB base1 noF noC 12 18 #[mW c] #[] []).map (fun r => (r.1, r.2.2)) = some (vI (rangeM c), []) := by kernel_rfl
theorem range_cR (c : Nat → P2) : (askB base1 noF noC 12 40 #[mW c] #[] []).map (fun r => (r.1, r.2.2)) = some (vI (rangeM c), []) := by kernel_rfl

end Go.Proofs.Ytnbbmihlokajaaa

/-!  The product of Models: what it tells, as a plain function. -/
namespace Go.Proofs.Ytnbbmihlokajaaa
open Go
set_option linter.unusedVariables false
set_option linter.unusedSimpArgs false
set_option maxRecDepth 100000

theorem mul_c (c d : Nat → P2) : (askB base1 noF noC 12 27 #[mW c, mW d] #[] []).map (fun r => (r.1, r.2.2)) = some (mW (mulM c d), []) := by kernel_rfl
theorem mul_cR (c d : Nat → P2) : (askB base1 noF noC 12 36 #[mW c, mW d] #[] []).map (fun r => (r.1, r.2.2)) = some (mW (mulM c d), []) := by kernel_rfl

end Go.Proofs.Ytnbbmihlokajaaa
