/- IvExp: what is checked at each of its places. -/
import Derived.Test.YthajhpilfbijdaaIvEx
namespace Go.Proofs.Ythajhpilfbijdaa
open Go
set_option linter.unusedVariables false
set_option linter.unusedSimpArgs false
set_option maxRecDepth 100000

def tS (a : Nat) : Nat → Nat
  | 0 => c1w
  | n + 1 => fop .quo .f64 (fop .mul .f64 (tS a n) a) (F (Int.ofNat (n + 1)))
def sS (a : Nat) : Nat → Nat
  | 0 => c1w
  | n + 1 => fop .add .f64 (sS a n) (tS a (n + 1))
def serC (a : Nat) : Nat → Nat → Nat → Nat → Nat
  | 0, _, s, _ => s
  | n + 1, t, s, i => (fun t1 => serC a n t1 (fop .add .f64 s t1) (i + 1)) (fop .quo .f64 (fop .mul .f64 t a) (F (Int.ofNat i)))
def c999 : Nat := 4607182409792818153
def c100 : Nat := 4636737291354636288
def c256 : Nat := 4643211215818981376
def cm256 : Nat := 13866583252673757184
def isT (x : Option Bool) : Bool := match x with
  | some b => b
  | none => false
def isFl (x : Option Bool) : Bool := match x with
  | some b => !b
  | none => false
/-- One place, one bound: what holds of both signs. -/
def oneE (x e : Nat) : Bool := isT (fcmp .geq .f64 e (fop .add .f64 c1w x)) && isT (fcmp .gtr .f64 e 0) && isT (fcmp .lss .f64 x c256) && isT (fcmp .gtr .f64 x cm256)
def chkE (k : Nat) : Bool := (fun x nx => (fun e g => oneE x e && oneE nx g && Nat.beq (fop .sub .f64 0 x) nx && Nat.beq (fop .sub .f64 0 nx) x && isT (fcmp .geq .f64 (fop .mul .f64 e g) c1w) && isT (fcmp .geq .f64 (fop .mul .f64 g e) c1w) &&
  isFl (fcmp .lss .f64 x 0) && (Nat.beq k 0 || isT (fcmp .lss .f64 nx 0)) && (if Nat.ble k 1600 then isFl (fcmp .gtr .f64 x c100) && isT (fcmp .geq .f64 e (fop .mul .f64 (sS (fabs x) 30) c999)) else isT (fcmp .gtr .f64 x c100))) (ezC x) (ezC nx)) (fop .quo .f64 (F (Int.ofNat k)) c16) (fop .quo .f64 (F (-(Int.ofNat k))) c16)
def allR (f : Nat → Bool) : Nat → Nat → Bool
  | _, 0 => true
  | k, n + 1 => f k && allR f (k + 1) n
theorem allR_at {f : Nat → Bool} : ∀ {n k i : Nat}, allR f k n = true → i < n → f (k + i) = true
  | 0, k, i, _, h => absurd h (by omega)
  | n + 1, k, 0, h, _ => by
    simp only [allR, Bool.and_eq_true] at h
    exact h.1
  | n + 1, k, i + 1, h, hi => by
    simp only [allR, Bool.and_eq_true] at h
    have := allR_at h.2 (show i < n by omega)
    rw [show k + (i + 1) = k + 1 + i by omega]
    exact this

end Go.Proofs.Ythajhpilfbijdaa
