/- The law ModelLine: what its run is, and what is reckoned. -/
import Derived.Test.YtnbbmihlokajaaaModelHo
import Derived.Test.YtnbbmihlokajaaaLdexp
namespace Go.Proofs.Ytnbbmihlokajaaa
open Go
set_option linter.unusedVariables false
set_option linter.unusedSimpArgs false
set_option maxRecDepth 100000

/-- A power of s. -/
def oneAt (a v : Nat) : List Nat := (List.range 9).map fun i => if i = a then v else 0
def wL2 : Nat := 4611686018427387904
def wL3 : Nat := 4613937818241073152
def wL6 : Nat := 4618441417868443648
def wLm6 : Nat := 13841813454723219456
def wLe : Nat := 4472406533629990549
def mLn (a b : Nat) : Nat → P2 := mulM (ofM (oneAt a wL2)) (ofM (oneAt b wL3))
def wantLn (a b k : Nat) : Nat := if k = a + b then wL6 else 0
def magW (X : P2) : Nat := sel (decide (ix (fabs X.1) < ix (fabs X.2))) (fabs X.2) (fabs X.1)
noncomputable def askLn5 (g : FuncId) : Nat := if [15, 17, 24, 27, 20, 28].contains g then 1 else 0
def cmLn : BinOp → Value → Value → Bool
  | .gtr, .float _ _, _ => true
  | .lss, .float _ _, _ => true
  | _, _, _ => false
def ansF (x : Nat) : Ans := ⟨fun _ => .float .f64 x, []⟩
def ansV (v : Value) : Ans := ⟨fun _ => v, []⟩
noncomputable def wiLn (z : Int) (w : Nat) : Obl := .run 17 #[.int .i64 z, .int .i64 (Int.ofNat 9)] #[] (.int .i64 (Int.ofNat w)) #[]
noncomputable def inLn (x : Nat) (X : P2) (t : Bool) : Obl := .run 20 #[.float .f64 x, vI X] #[] (.bool t) #[]
noncomputable def mgLn (X : P2) (g : Nat) : Obl := .run 28 #[vI X] #[] (.float .f64 g) #[]
noncomputable def cmLnO (op : BinOp) (x y : Nat) (t : Bool) : Obl := .cmp op 24 (.float .f64 x) (.float .f64 y) t
def rowLn (a v : Nat) : Option ABlk := some ⟨((oneAt a v).map fun x => Value.float .f64 x).toArray, 24, 1, true⟩
noncomputable def ofLn (H : List (Option ABlk)) (b : Nat) (c : Nat → P2) : Obl := .run 24 #[.slice (some ⟨b, 0, none⟩) 9 9] (froze H.toArray) (mW c) (froze H.toArray ++ #[])
def evenB (a b : Nat) : Bool := (a + b) % 2 == 0
def sLn (a b : Nat) (mg : Nat → Nat) : List Ans := (List.range 9).flatMap (fun k => [yes true, ansF (mg k), yes false]) ++ (if a + b ≤ 8 then [yes true, ansF (mg 9), yes true] else [yes true, yes (evenB a b), yes (!evenB a b)])
noncomputable def oLn (a b : Nat) (m : Nat → P2) (mg : Nat → Nat) : List Obl :=
  (List.range 9).flatMap (fun k => [inLn (wantLn a b k) (m k) true, mgLn (m k) (mg k), cmLnO .gtr (mg k) (fop .add .f64 (wantLn a b k) wLe) false]) ++
  (if a + b ≤ 8 then [inLn 0 (m 9) true, mgLn (m 9) (mg 9), cmLnO .lss (mg 9) wLe true] else [inLn 0 (m 9) true, inLn wL6 (m 9) (evenB a b), inLn wLm6 (m 9) (!evenB a b)])
def LnR (a b : Nat) : Prop := ∀ (i j : Int) (A B m : Nat → P2) (mg : Nat → Nat), (askN askLn5 cmLn 12 5 #[.int .i64 i, .int .i64 j] #[]
    ([yes true, isI (Int.ofNat a), isI (Int.ofNat b), ansV (mW A), ansV (mW B), ansV (mW m)] ++ sLn a b mg)).map (fun r => (r.1, r.2.2)) =
  some (.bool true, [.run 15 #[] #[] (.bool true) #[], wiLn i a, wiLn j b, ofLn [rowLn a wL2, rowLn b wL3] 0 A, ofLn [rowLn a wL2, rowLn b wL3] 1 B, .run 27 #[mW A, mW B] #[] (mW m) #[]] ++ oLn a b m mg)

/-! what is reckoned -/
def inB (x : Nat) (X : P2) : Bool := decide (ix X.1 ≤ ix x) && decide (ix x ≤ ix X.2)
def nnB (x : Nat) : Bool := decide (x < 18446744073709551616) && decide (-9218868437227405312 ≤ ix x) && decide (ix x ≤ 9218868437227405312)
def ivB2 (X : P2) : Bool := nnB X.1 && nnB X.2
def lnOk (a b : Nat) : Bool :=
  (List.range 9).all (fun k => ivB2 (mLn a b k) && inB (wantLn a b k) (mLn a b k) && decide ((ix (mLn a b k).1).natAbs ≤ ix (fop .add .f64 (wantLn a b k) wLe)) && decide ((ix (mLn a b k).2).natAbs ≤ ix (fop .add .f64 (wantLn a b k) wLe)) && nnB (fop .add .f64 (wantLn a b k) wLe)) &&
  ivB2 (mLn a b 9) && inB 0 (mLn a b 9) && (if a + b ≤ 8 then decide ((ix (mLn a b 9).1).natAbs < ix wLe) && decide ((ix (mLn a b 9).2).natAbs < ix wLe) else (inB wL6 (mLn a b 9) == evenB a b) && (inB wLm6 (mLn a b 9) == !evenB a b))

end Go.Proofs.Ytnbbmihlokajaaa
