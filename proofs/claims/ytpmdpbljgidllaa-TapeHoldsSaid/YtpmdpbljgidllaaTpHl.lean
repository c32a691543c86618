/- TapeHolds: its run about its first loop. -/
import Derived.Test.YtpmdpbljgidllaaTpHs
import Derived.Test.YtpmdpbljgidllaaTpKi
namespace Go.Proofs.Ytpmdpbljgidllaa
open Go
set_option linter.unusedVariables false
set_option linter.unusedSimpArgs false
set_option maxRecDepth 100000

noncomputable def askH2 (g : FuncId) : Nat := if [1000064, 1000065, 1000072, 1000073, 1000076, 1000077, 1000086, 1000090, 1000092].contains g then 7 else askHo g
structure RnHo where
  pk : Addr
  k : Int
  pw : Addr
  w : Int
  a7 : Int
  s : Int
  fs : Nat
  a4 : Int
  f4 : Nat
  q : Int
  b4 : Int
  g4 : Nat
def stHo (lm lw : Nat) (r : Nat → RnHo) (i : Nat) : List Ans :=
  [yes true] ++ (if i < lm then [yes true, pAnsT (r i).pk, isI (r i).k] else [yes false]) ++ (if i < lw then [yes true, pAnsT (r i).pw, isI (r i).w] else [yes false]) ++
  [isI (r i).a7, isI (r i).s, vAns (.float .f64 (r i).fs), isI (r i).a4, vAns (.float .f64 (r i).f4), isI (r i).q, isI (r i).b4, vAns (.float .f64 (r i).g4)]
noncomputable def soHo (H : List (Option ABlk)) (N lm lw nm nw : Nat) (vb vc : Value) (r : Nat → RnHo) (i : Nat) : List Obl :=
  [cpO .lss (Int.ofNat i) (Int.ofNat N) true] ++ (if i < lm then [cpO .lss (Int.ofNat i) nm true, .ex (indexAddrV Try.prog 23 vb (.int .i64 (Int.ofNat i)) = some (.pointer (some (r i).pk))), .ex (readVar Try.prog H.toArray 3 (r i).pk = some (.int .i64 (r i).k))] else [cpO .lss (Int.ofNat i) nm false]) ++
  (if i < lw then [cpO .lss (Int.ofNat i) nw true, .ex (indexAddrV Try.prog 23 vc (.int .i64 (Int.ofNat i)) = some (.pointer (some (r i).pw))), .ex (readVar Try.prog H.toArray 3 (r i).pw = some (.int .i64 (r i).w))] else [cpO .lss (Int.ofNat i) nw false]) ++
  [wiOt (if i < lm then (r i).k else Int.ofNat i) 7 (r i).a7, arO .sub (r i).a7 3 (r i).s, cvO (r i).s (r i).fs, wiOt (if i < lw then (r i).w else 0) 4 (r i).a4, cvO (r i).a4 (r i).f4, arO .quo (if i < lw then (r i).w else 0) 4 (r i).q, wiOt (r i).q 4 (r i).b4, cvO (r i).b4 (r i).g4]
def bHo (r : Nat → RnHo) (i : Nat) : Nat × Nat := (fop .sub .f64 (r i).fs (r i).f4, fop .add .f64 (r i).fs (r i).g4)
def pBH (X : Nat × Nat) : Option ABlk := some ⟨(pC X).toArray, 39, 2, true⟩
def grHo (n : Nat) (r : Nat → RnHo) : List (Option ABlk) := (List.range n).flatMap fun j => [some ⟨(fC (r j).fs).toArray, 30, 1, true⟩, if j + 1 = n then nwF ((List.range n).map fun i => (r i).fs) else none, pBH (bHo r j), if j + 1 = n then nwP ((List.range n).map (bHo r)) else none]
def hpHo (b1 b2 b3 : Option ABlk) (N M : Nat) (cu : Array Value) (O : Nat → OpD) (r : Nat → RnHo) (i : Nat) : List (Option ABlk) := hpH b1 b2 b3 N M cu O ++ grHo i r
def stHe (c : Nat → Bool) (g : Nat → Nat) (i : Nat) : List Ans := [yes true, isG (g i), yes (c i)] ++ (if c i then [yes true] else [])
noncomputable def soHe (N : Nat) (fy : Nat → Nat) (fZ : Nat → Nat × Nat) (c : Nat → Bool) (g : Nat → Nat) (i : Nat) : List Obl :=
  [cpO .lss (Int.ofNat i) (Int.ofNat N) true, qtO 33 #[.float .f64 (fy i)] (.float .f64 (g i)), cmpF .lss (g i) 4832362400168542208 (c i)] ++ (if c i then [qtO 29 #[.float .f64 (fy i), vI (fZ i)] (.bool true)] else [])
noncomputable def hoRun (N lm lw : Nat) (c : Nat → Bool) (b1 b2 b3 : Option ABlk) (n : Int) (va : Value) (am aw : Option Addr) (nm cm nw cw M : Nat) (cu : Array Value) (O O' : Nat → OpD) (j : Nat → Value) (r : Nat → RnHo) (fy g : Nat → Nat) (fZ : Nat → Nat × Nat) : Option (Value × AHeap × List Obl × List LpO) :=
  askT askH2 cmH 10 #[.int .i64 n, va, .slice am nm cm, .slice aw nw cw] #[b1, b2, b3]
    ([yes true, cAns (fun s => tpV s (s + 1) N M) [opsH M O, iB cu]] ++ (List.range N).flatMap (stHo lm lw r) ++ [yes false, rwA N fy, rwP N fZ] ++ (List.range N).flatMap (stHe c g) ++ [yes false])
    [some ⟨.exit 0, tmH n va (.slice am nm cm) (.slice aw nw cw) M j, (hpH b1 b2 b3 N M cu O').toArray⟩, none, none]
noncomputable def lgHo (N lm lw : Nat) (c : Nat → Bool) (b1 b2 b3 : Option ABlk) (n : Int) (va : Value) (am aw : Option Addr) (nm cm nw cw M : Nat) (cu : Array Value) (O O' : Nat → OpD) (r : Nat → RnHo) (fy g : Nat → Nat) (fZ : Nat → Nat × Nat) : List Obl :=
  [qtO 12 #[] (.bool true), rnO 14 #[.int .i64 n, va, .bool false] [b1, b2, b3] (tpV 3 4 N M) [opsH M O, iB cu]] ++
  (List.range N).flatMap (fun i => soHo (hpHo b1 b2 b3 N M cu O' r i) N lm lw nm nw (.slice am nm cm) (.slice aw nw cw) r i) ++
  [cpO .lss (Int.ofNat N) (Int.ofNat N) false,
    rnO 25 #[tpV 3 4 N M, slV (4 * N + 3) N] (hpHo b1 b2 b3 N M cu O' r N) (slV (6 + 4 * N) N) [nwF ((List.range N).map fy)],
    rnO 20 #[tpV 3 4 N M, slV (4 * N + 5) N] (hpHo b1 b2 b3 N M cu O' r N ++ [nwF ((List.range N).map fy)]) (slV (7 + 4 * N) N) [nwP ((List.range N).map fZ)]] ++
  (List.range N).flatMap (soHe N fy fZ c g) ++ [cpO .lss (Int.ofNat N) (Int.ofNat N) false]
/-- What the temporaries hold ahead of the first loop. -/
def j0Ho (n : Int) (va vb vc : Value) (N M : Nat) (i : Nat) : Value := if i = 20 then .bool true else if i = 21 then .bool false else if i = 22 then .int .i64 n else if i = 23 then va else if i = 24 then tpV 3 4 N M else undef
def HoRun (N lm lw : Nat) (c : Nat → Bool) : Prop := ∀ (b1 b2 b3 : Option ABlk) (n : Int) (va : Value) (am aw : Option Addr) (nm cm nw cw M : Nat) (cu : Array Value) (O O' : Nat → OpD) (j : Nat → Value) (r : Nat → RnHo) (fy g : Nat → Nat) (fZ : Nat → Nat × Nat),
  (hoRun N lm lw c b1 b2 b3 n va am aw nm cm nw cw M cu O O' j r fy g fZ).map (fun x => (x.1, x.2.2.1, x.2.2.2)) =
    some (.bool true, lgHo N lm lw c b1 b2 b3 n va am aw nm cm nw cw M cu O O' r fy g fZ,
      [(bodyH, tmH n va (.slice am nm cm) (.slice aw nw cw) 0 (j0Ho n va (.slice am nm cm) (.slice aw nw cw) N M), (hpH b1 b2 b3 N M cu O).toArray, (.exit 0, tmH n va (.slice am nm cm) (.slice aw nw cw) M j, (hpH b1 b2 b3 N M cu O').toArray))])

end Go.Proofs.Ytpmdpbljgidllaa
