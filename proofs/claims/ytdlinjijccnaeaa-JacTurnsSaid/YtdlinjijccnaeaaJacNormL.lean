/- The law JacNorm: its questions. -/
import Derived.Test.YtdlinjijccnaeaaJacNormB
namespace Go.Proofs.Ytdlinjijccnaeaa
open Go
set_option linter.unusedVariables false
set_option linter.unusedSimpArgs false
set_option maxRecDepth 100000

theorem known4 : Runs Try.prog 12 #[] #[] (.bool true) #[] := by
  have h : (askN noF noC 12 12 #[] #[] []).map (fun r => (r.1, r.2.2)) = some (.bool true, []) := by kernel_rfl
  obtain ⟨H', h⟩ := tells_of h trivial
  exact h.quiet rfl rfl #[]
noncomputable def askJn (f : FuncId) : Nat := if f == 12 || f == 13 || f == 14 then 1 else 2
def jnC (k : Nat) : BinOp → Value → Value → Bool
  | .lss, .int _ _, .int _ (.ofNat n) => Nat.ble k n
  | _, .float _ _, _ => true
  | _, _, _ => false
noncomputable def wi4O (z n k : Int) : Obl := .run 13 #[.int .i64 z, .int .i64 n] #[] (.int .i64 k) #[]
def jw (n : Int) : Int := IntKind.i64.wrap n
def loZ (w : Int) : Int := jw (w % 41 - 20)
def dfZ (w : Int) : Int := jw (w.tdiv 41) % 9
def hiZ (w : Int) : Int := jw (loZ w + dfZ w)
def szZ (w : Int) : Int := gm (gm (gm (hiZ w) (jw (0 - loZ w))) (jw (0 - hiZ w))) (loZ w)
def getO : List Int → Nat → Option Int
  | [], _ => none
  | z :: _, 0 => some z
  | _ :: l, k + 1 => getO l k
def getW (zs : List Int) (n i c : Nat) : Int := match getO zs (i * n + c) with
  | some z => z
  | none => jw (Int.ofNat i - Int.ofNat c)
def jM (zs : List Int) (n i c : Nat) : P2 := (F (loZ (getW zs n i c)), F (hiZ (getW zs n i c)))
/-- The cells of one row, and of all. -/
def cA (lg : Bool) (w : Nat → Int) : Nat → Nat → List Ans
  | 0, _ => []
  | m + 1, c => (bif lg then [yes true] else []) ++ (isI (w c % 41) :: isI (dfZ (w c)) :: cA lg w m (c + 1))
noncomputable def cO (lg : Bool) (len b : Nat) (w : Nat → Int) : Nat → Nat → List Obl
  | 0, _ => []
  | m + 1, c => (bif lg then [cmpI .lss (Int.ofNat (b + c)) (Int.ofNat len) true] else []) ++ (wi4O (w c) 41 (w c % 41) :: wi4O (jw ((w c).tdiv 41)) 9 (dfZ (w c)) :: cO lg len b w m (c + 1))
def tA (lg : Bool) (n : Nat) (w : Nat → Nat → Int) : Nat → Nat → List Ans
  | 0, _ => []
  | m + 1, i => cA lg (w i) n 0 ++ tA lg n w m (i + 1)
noncomputable def tO (lg : Bool) (len n : Nat) (w : Nat → Nat → Int) : Nat → Nat → List Obl
  | 0, _ => []
  | m + 1, i => cO lg len (i * n) (w i) n 0 ++ tO lg len n w m (i + 1)
/-- What the law reckons: a row's sum, the greatest. -/
def rZ (w : Nat → Int) (i : Nat) : Nat → Nat → Int → Int
  | 0, _, s => s
  | m + 1, c, s => rZ w i m (c + 1) (jw (s + bif Nat.beq c i then hiZ (w c) else szZ (w c)))
def bZ (n : Nat) (w : Nat → Nat → Int) : Nat → Nat → Int → Int
  | 0, _, b => b
  | m + 1, i, b => bZ n w m (i + 1) (gm b (rZ (w i) i n 0 0))
def c001 : Nat := 4562254508917369340
noncomputable def jnO (lg : Bool) (H : AHeap) (len n : Nat) (zs : List Int) (size : Int) (x : Nat) : List Obl :=
  [.run 12 #[] #[] (.bool true) #[], wi4O size 4 (Int.ofNat (n - 1))] ++ (tO lg len n (getW zs n) n 0 ++
  [.run 14 #[.slice (some ⟨posO H.size n, 0, none⟩) n n] (froze (lawH H n (jM zs n))) (.float .f64 x) (froze (lawH H n (jM zs n)) ++ #[]),
   cmpF .geq x (F (bZ n (getW zs n) n 0 (-1099511627776))) true, cmpF .leq x (fop .add .f64 (F (bZ n (getW zs n) n 0 (-1099511627776))) c001) true])
def jnS (lg : Bool) (n : Nat) (zs : List Int) (x : Nat) : List Ans := [yes true, isI (Int.ofNat (n - 1))] ++ (tA lg n (getW zs n) n 0 ++ [isG x, yes true, yes true])
noncomputable def jnRun (k : Nat) (zs : List Int) (size : Int) (s : List Ans) : Option (Value × List Obl) :=
  (askN askJn (jnC k) 12 3 #[arg0 zs, .int .i64 size] (heap0 zs) s).map (fun r => (r.1, r.2.2))
def JnAt (n : Nat) (zs : List Int) : Prop := ∀ (size : Int) (x : Nat), ∃ (k : Nat) (lg : Bool), (lg = true → n * n ≤ zs.length) ∧ jnRun k zs size (jnS lg n zs x) = some (.bool true, jnO lg (heap0 zs) zs.length n zs size x)
theorem jn_short {n : Nat} {zs : List Int} (h : ∀ (size : Int) (x : Nat), jnRun 1000000 zs size (jnS false n zs x) = some (.bool true, jnO false (heap0 zs) zs.length n zs size x)) : JnAt n zs := fun size x => ⟨_, false, (fun h => by cases h), h size x⟩
theorem jn_long {n : Nat} {zs : List Int} (k : Nat) (hl : n * n ≤ zs.length) (h : ∀ (size : Int) (x : Nat), jnRun k zs size (jnS true n zs x) = some (.bool true, jnO true (heap0 zs) zs.length n zs size x)) : JnAt n zs := fun size x => ⟨k, true, fun _ => hl, h size x⟩

end Go.Proofs.Ytdlinjijccnaeaa
