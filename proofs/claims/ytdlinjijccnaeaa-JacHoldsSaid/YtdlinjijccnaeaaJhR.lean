/- JacHolds: its first loop, round by round; its last loop: what a round is. -/
import Derived.Test.YtdlinjijccnaeaaJqK
import Derived.Test.YtdlinjijccnaeaaTpM
namespace Go.Proofs.Ytdlinjijccnaeaa
open Go
set_option linter.unusedVariables false
set_option linter.unusedSimpArgs false
set_option maxRecDepth 100000

noncomputable def askJh (g : FuncId) : Nat := if [12, 17, 13, 16, 20, 28, 29, 27, 22, 21].contains g then 1 else 0
def cmJh : BinOp → Value → Value → Bool
  | .lss, .int _ _, _ => true
  | .lss, .float _ _, _ => true
  | _, _, _ => false
noncomputable def bodyJh : Code := bodyAt Try.prog 9 0
noncomputable def bodyJc : Code := bodyAt Try.prog 9 2
def tmJh (n : Int) (va vb vc : Value) (i : Nat) (j : Nat → Value) : List Value := (List.range 194).map fun s =>
  if s = 0 then .int .i64 n else if s = 1 then va else if s = 2 then vb else if s = 3 then vc else if s = 8 then .bool false else if s = 9 then .pointer (some ⟨5, 0, none⟩) else if s = 10 then .slice none 0 0 else if s = 11 then .slice none 0 0 else if s = 12 then .int .i64 i else j s
def opsH (M : Nat) (O : Nat → OpD) : Option ABlk := opB ((List.range M).flatMap fun i => opC (O i)).toArray
def hpH (b1 b2 b3 : Option ABlk) (N M : Nat) (cu : Array Value) (O : Nat → OpD) : List (Option ABlk) := [b1, b2, b3, opsH M O, iB cu, tcB 3 N M]
def flJ (f : Nat) (o : OpD) : OpD := ⟨o.K, o.A, o.B, f⟩
def slJh (tm : List Value) : Nat × List Value := (tm.length, [getT tm 0, getT tm 1, getT tm 2, getT tm 3, getT tm 8, getT tm 9, getT tm 10, getT tm 11, getT tm 12])
/-- A round: the k-th operation's number is floored. -/
def RdJh (M k : Nat) : Prop := ∀ (b1 b2 b3 : Option ABlk) (n : Int) (va vb vc : Value) (N : Nat) (cu : Array Value) (O : Nat → OpD) (j : Nat → Value) (f : Nat),
  (rndT askJh cmJh bodyJh (tmJh n va vb vc k j) (hpH b1 b2 b3 N M cu O).toArray [yes true, vAns (.float .f64 f)] []).map (fun r => (r.1, (slJh r.2.1, r.2.2.1), r.2.2.2)) =
  some (.normal, ((194, [.int .i64 n, va, vb, vc, .bool false, .pointer (some ⟨5, 0, none⟩), .slice none 0 0, .slice none 0 0, .int .i64 (Int.ofNat (k + 1))]), (hpH b1 b2 b3 N M cu (fun i => if i = k then flJ f (O k) else O i)).toArray),
    [cpO .lss (Int.ofNat k) (Int.ofNat M) true, qtO 27 #[.float .f64 (O k).C] (.float .f64 f)], [])
def RdJhEnd (M : Nat) : Prop := ∀ (b1 b2 b3 : Option ABlk) (n : Int) (va vb vc : Value) (N : Nat) (cu : Array Value) (O : Nat → OpD) (j : Nat → Value),
  (rndT askJh cmJh bodyJh (tmJh n va vb vc M j) (hpH b1 b2 b3 N M cu O).toArray [yes false] []).map (fun r => (r.1, (slJh r.2.1, r.2.2.1), r.2.2.2)) =
  some (.exit 0, ((194, [.int .i64 n, va, vb, vc, .bool false, .pointer (some ⟨5, 0, none⟩), .slice none 0 0, .slice none 0 0, .int .i64 (Int.ofNat M)]), (hpH b1 b2 b3 N M cu O).toArray), [cpO .lss (Int.ofNat M) (Int.ofNat M) false], [])
/-! the last loop -/
structure RnJh where
  pk : Addr
  k : Int
  pw : Addr
  w : Int
  a7 : Int
  s : Int
  fs : Nat
  a4 : Int
  f4 : Nat
  q : Int
  b4 : Int
  g4 : Nat
def bHo (r : Nat → RnJh) (i : Nat) : P2 := (fop .sub .f64 (r i).fs (r i).f4, fop .add .f64 (r i).fs (r i).g4)
def pBH (X : P2) : Option ABlk := some ⟨(pC X).toArray, 29, 2, true⟩
def grHo (n : Nat) (r : Nat → RnJh) : List (Option ABlk) := (List.range n).flatMap fun j => [some ⟨(fC (r j).fs).toArray, 27, 1, true⟩, if j + 1 = n then nwF ((List.range n).map fun i => (r i).fs) else none, pBH (bHo r j), if j + 1 = n then nwPj ((List.range n).map (bHo r)) else none]
def hpHo (b1 b2 b3 : Option ABlk) (N M : Nat) (cu : Array Value) (O : Nat → OpD) (r : Nat → RnJh) (i : Nat) : List (Option ABlk) := hpH b1 b2 b3 N M cu O ++ grHo i r
def e8 : P2 := (13844065254536904704, 4620693217682128896)
def s0J (N : Nat) : Nat := 6 + 4 * N
structure TbJh where
  R : Nat → Nat → Nat
  RI : Nat → Nat → P2
  B : Nat → P2
  A : Nat → Nat → P2
def litB : Option ABlk := nwPj [e8, e8, e8]
def hpJ1 (b1 b2 b3 : Option ABlk) (N M : Nat) (cu : Array Value) (O : Nat → OpD) (r : Nat → RnJh) (T : TbJh) : List (Option ABlk) := hpHo b1 b2 b3 N M cu O r N ++ tabJ (s0J N) N T.R
def hpJ2 (b1 b2 b3 : Option ABlk) (N M : Nat) (cu : Array Value) (O : Nat → OpD) (r : Nat → RnJh) (T : TbJh) : List (Option ABlk) := hpJ1 b1 b2 b3 N M cu O r T ++ tabJI (s0J N + N + 1) N T.RI ++ [litB]
def hpJ3 (b1 b2 b3 : Option ABlk) (N M : Nat) (cu : Array Value) (O : Nat → OpD) (r : Nat → RnJh) (T : TbJh) : List (Option ABlk) := hpJ2 b1 b2 b3 N M cu O r T ++ [nwPj ((List.range N).map T.B), litB]
def hpJ4 (b1 b2 b3 : Option ABlk) (N M : Nat) (cu : Array Value) (O : Nat → OpD) (r : Nat → RnJh) (T : TbJh) : List (Option ABlk) := hpJ3 b1 b2 b3 N M cu O r T ++ tabJI (s0J N + 2 * N + 5) N T.A
def tmJc (N i : Nat) (j : Nat → Value) : List Value := (List.range 194).map fun s =>
  if s = 8 then .bool false else if s = 9 then .pointer (some ⟨5, 0, none⟩) else if s = 17 then slV (s0J N + N) N else if s = 18 then slV (s0J N + 2 * N + 1) N else if s = 19 then slV (s0J N + 2 * N + 3) N else if s = 20 then slV (s0J N + 3 * N + 5) N else if s = 21 then .int .i64 i else j s
def slJc (tm : List Value) : Nat × List Value := (tm.length, [getT tm 8, getT tm 9, getT tm 17, getT tm 18, getT tm 19, getT tm 20, getT tm 21])
def svJc (N i : Nat) : Nat × List Value := (194, [.bool false, .pointer (some ⟨5, 0, none⟩), slV (s0J N + N) N, slV (s0J N + 2 * N + 1) N, slV (s0J N + 2 * N + 3) N, slV (s0J N + 3 * N + 5) N, .int .i64 (Int.ofNat i)])
def stJc (g : Nat) (h : Nat → Nat) (c : Nat → Nat) (k : Nat) : List Ans := [yes true, isG g] ++ (if c k = 0 then [yes false] else [yes true, isG (h k)] ++ (if c k = 1 then [yes false] else [yes true, yes true]))
noncomputable def soJc (N i : Nat) (T : TbJh) (g : Nat) (h : Nat → Nat) (c : Nat → Nat) (k : Nat) : List Obl :=
  [cpO .lss (Int.ofNat k) (Int.ofNat N) true, qtO 22 #[vI (T.B i)] (.float .f64 g)] ++ (if c k = 0 then [cmpF .lss g 4787326403894837248 false] else
    [cmpF .lss g 4787326403894837248 true, qtO 22 #[vI (T.A i k)] (.float .f64 (h k))] ++ (if c k = 1 then [cmpF .lss (h k) 4787326403894837248 false] else [cmpF .lss (h k) 4787326403894837248 true, qtO 21 #[.float .f64 (T.R i k), vI (T.RI i k)] (.bool true)]))
def RdJc (N i : Nat) (c : Nat → Nat) : Prop := ∀ (b1 b2 b3 : Option ABlk) (M : Nat) (cu : Array Value) (O : Nat → OpD) (r : Nat → RnJh) (T : TbJh) (j : Nat → Value) (g : Nat) (h : Nat → Nat),
  (rndT askJh cmJh bodyJc (tmJc N i j) (hpJ4 b1 b2 b3 N M cu O r T).toArray ([yes true] ++ (List.range N).flatMap (stJc g h c) ++ [yes false]) [none]).map (fun r => (r.1, (slJc r.2.1, r.2.2.1), r.2.2.2)) =
  some (.normal, (svJc N (i + 1), (hpJ4 b1 b2 b3 N M cu O r T).toArray), [cpO .lss (Int.ofNat i) (Int.ofNat N) true] ++ (List.range N).flatMap (soJc N i T g h c) ++ [cpO .lss (Int.ofNat N) (Int.ofNat N) false], [])
def RdJcEnd (N : Nat) : Prop := ∀ (b1 b2 b3 : Option ABlk) (M : Nat) (cu : Array Value) (O : Nat → OpD) (r : Nat → RnJh) (T : TbJh) (j : Nat → Value),
  (rndT askJh cmJh bodyJc (tmJc N N j) (hpJ4 b1 b2 b3 N M cu O r T).toArray [yes false] []).map (fun r => (r.1, (slJc r.2.1, r.2.2.1), r.2.2.2)) =
  some (.exit 4, (svJc N N, (hpJ4 b1 b2 b3 N M cu O r T).toArray), [cpO .lss (Int.ofNat N) (Int.ofNat N) false], [])
theorem rdJh_2_0 : RdJh 2 0 := fun _ _ _ _ _ _ _ _ _ _ _ _ => by kernel_rfl
theorem rdJh_2_1 : RdJh 2 1 := fun _ _ _ _ _ _ _ _ _ _ _ _ => by kernel_rfl
theorem rdJhEnd_2 : RdJhEnd 2 := fun _ _ _ _ _ _ _ _ _ _ _ => by kernel_rfl
theorem rdJhA_2 : ∀ k, k < 2 → RdJh 2 k
  | 0, _ => rdJh_2_0
  | 1, _ => rdJh_2_1
  | i + 2, h => absurd h (by omega)
theorem rdJh_3_0 : RdJh 3 0 := fun _ _ _ _ _ _ _ _ _ _ _ _ => by kernel_rfl
theorem rdJh_3_1 : RdJh 3 1 := fun _ _ _ _ _ _ _ _ _ _ _ _ => by kernel_rfl
theorem rdJh_3_2 : RdJh 3 2 := fun _ _ _ _ _ _ _ _ _ _ _ _ => by kernel_rfl
theorem rdJhEnd_3 : RdJhEnd 3 := fun _ _ _ _ _ _ _ _ _ _ _ => by kernel_rfl
theorem rdJhA_3 : ∀ k, k < 3 → RdJh 3 k
  | 0, _ => rdJh_3_0
  | 1, _ => rdJh_3_1
  | 2, _ => rdJh_3_2
  | i + 3, h => absurd h (by omega)
theorem rdJh_4_0 : RdJh 4 0 := fun _ _ _ _ _ _ _ _ _ _ _ _ => by kernel_rfl
theorem rdJh_4_1 : RdJh 4 1 := fun _ _ _ _ _ _ _ _ _ _ _ _ => by kernel_rfl
theorem rdJh_4_2 : RdJh 4 2 := fun _ _ _ _ _ _ _ _ _ _ _ _ => by kernel_rfl
theorem rdJh_4_3 : RdJh 4 3 := fun _ _ _ _ _ _ _ _ _ _ _ _ => by kernel_rfl
theorem rdJhEnd_4 : RdJhEnd 4 := fun _ _ _ _ _ _ _ _ _ _ _ => by kernel_rfl
theorem rdJhA_4 : ∀ k, k < 4 → RdJh 4 k
  | 0, _ => rdJh_4_0
  | 1, _ => rdJh_4_1
  | 2, _ => rdJh_4_2
  | 3, _ => rdJh_4_3
  | i + 4, h => absurd h (by omega)
theorem rdJh_5_0 : RdJh 5 0 := fun _ _ _ _ _ _ _ _ _ _ _ _ => by kernel_rfl
theorem rdJh_5_1 : RdJh 5 1 := fun _ _ _ _ _ _ _ _ _ _ _ _ => by kernel_rfl
theorem rdJh_5_2 : RdJh 5 2 := fun _ _ _ _ _ _ _ _ _ _ _ _ => by kernel_rfl
theorem rdJh_5_3 : RdJh 5 3 := fun _ _ _ _ _ _ _ _ _ _ _ _ => by kernel_rfl
theorem rdJh_5_4 : RdJh 5 4 := fun _ _ _ _ _ _ _ _ _ _ _ _ => by kernel_rfl
theorem rdJhEnd_5 : RdJhEnd 5 := fun _ _ _ _ _ _ _ _ _ _ _ => by kernel_rfl
theorem rdJhA_5 : ∀ k, k < 5 → RdJh 5 k
  | 0, _ => rdJh_5_0
  | 1, _ => rdJh_5_1
  | 2, _ => rdJh_5_2
  | 3, _ => rdJh_5_3
  | 4, _ => rdJh_5_4
  | i + 5, h => absurd h (by omega)
theorem rdJh_6_0 : RdJh 6 0 := fun _ _ _ _ _ _ _ _ _ _ _ _ => by kernel_rfl
theorem rdJh_6_1 : RdJh 6 1 := fun _ _ _ _ _ _ _ _ _ _ _ _ => by kernel_rfl
theorem rdJh_6_2 : RdJh 6 2 := fun _ _ _ _ _ _ _ _ _ _ _ _ => by kernel_rfl
theorem rdJh_6_3 : RdJh 6 3 := fun _ _ _ _ _ _ _ _ _ _ _ _ => by kernel_rfl
theorem rdJh_6_4 : RdJh 6 4 := fun _ _ _ _ _ _ _ _ _ _ _ _ => by kernel_rfl
theorem rdJh_6_5 : RdJh 6 5 := fun _ _ _ _ _ _ _ _ _ _ _ _ => by kernel_rfl
theorem rdJhEnd_6 : RdJhEnd 6 := fun _ _ _ _ _ _ _ _ _ _ _ => by kernel_rfl
theorem rdJhA_6 : ∀ k, k < 6 → RdJh 6 k
  | 0, _ => rdJh_6_0
  | 1, _ => rdJh_6_1
  | 2, _ => rdJh_6_2
  | 3, _ => rdJh_6_3
  | 4, _ => rdJh_6_4
  | 5, _ => rdJh_6_5
  | i + 6, h => absurd h (by omega)
theorem rdJh_7_0 : RdJh 7 0 := fun _ _ _ _ _ _ _ _ _ _ _ _ => by kernel_rfl
theorem rdJh_7_1 : RdJh 7 1 := fun _ _ _ _ _ _ _ _ _ _ _ _ => by kernel_rfl
theorem rdJh_7_2 : RdJh 7 2 := fun _ _ _ _ _ _ _ _ _ _ _ _ => by kernel_rfl
theorem rdJh_7_3 : RdJh 7 3 := fun _ _ _ _ _ _ _ _ _ _ _ _ => by kernel_rfl
theorem rdJh_7_4 : RdJh 7 4 := fun _ _ _ _ _ _ _ _ _ _ _ _ => by kernel_rfl
theorem rdJh_7_5 : RdJh 7 5 := fun _ _ _ _ _ _ _ _ _ _ _ _ => by kernel_rfl
theorem rdJh_7_6 : RdJh 7 6 := fun _ _ _ _ _ _ _ _ _ _ _ _ => by kernel_rfl
theorem rdJhEnd_7 : RdJhEnd 7 := fun _ _ _ _ _ _ _ _ _ _ _ => by kernel_rfl
theorem rdJhA_7 : ∀ k, k < 7 → RdJh 7 k
  | 0, _ => rdJh_7_0
  | 1, _ => rdJh_7_1
  | 2, _ => rdJh_7_2
  | 3, _ => rdJh_7_3
  | 4, _ => rdJh_7_4
  | 5, _ => rdJh_7_5
  | 6, _ => rdJh_7_6
  | i + 7, h => absurd h (by omega)
theorem rdJh_8_0 : RdJh 8 0 := fun _ _ _ _ _ _ _ _ _ _ _ _ => by kernel_rfl
theorem rdJh_8_1 : RdJh 8 1 := fun _ _ _ _ _ _ _ _ _ _ _ _ => by kernel_rfl
theorem rdJh_8_2 : RdJh 8 2 := fun _ _ _ _ _ _ _ _ _ _ _ _ => by kernel_rfl
theorem rdJh_8_3 : RdJh 8 3 := fun _ _ _ _ _ _ _ _ _ _ _ _ => by kernel_rfl
theorem rdJh_8_4 : RdJh 8 4 := fun _ _ _ _ _ _ _ _ _ _ _ _ => by kernel_rfl
theorem rdJh_8_5 : RdJh 8 5 := fun _ _ _ _ _ _ _ _ _ _ _ _ => by kernel_rfl
theorem rdJh_8_6 : RdJh 8 6 := fun _ _ _ _ _ _ _ _ _ _ _ _ => by kernel_rfl
theorem rdJh_8_7 : RdJh 8 7 := fun _ _ _ _ _ _ _ _ _ _ _ _ => by kernel_rfl
theorem rdJhEnd_8 : RdJhEnd 8 := fun _ _ _ _ _ _ _ _ _ _ _ => by kernel_rfl
theorem rdJhA_8 : ∀ k, k < 8 → RdJh 8 k
  | 0, _ => rdJh_8_0
  | 1, _ => rdJh_8_1
  | 2, _ => rdJh_8_2
  | 3, _ => rdJh_8_3
  | 4, _ => rdJh_8_4
  | 5, _ => rdJh_8_5
  | 6, _ => rdJh_8_6
  | 7, _ => rdJh_8_7
  | i + 8, h => absurd h (by omega)
theorem rdJh_9_0 : RdJh 9 0 := fun _ _ _ _ _ _ _ _ _ _ _ _ => by kernel_rfl
theorem rdJh_9_1 : RdJh 9 1 := fun _ _ _ _ _ _ _ _ _ _ _ _ => by kernel_rfl
theorem rdJh_9_2 : RdJh 9 2 := fun _ _ _ _ _ _ _ _ _ _ _ _ => by kernel_rfl
theorem rdJh_9_3 : RdJh 9 3 := fun _ _ _ _ _ _ _ _ _ _ _ _ => by kernel_rfl
theorem rdJh_9_4 : RdJh 9 4 := fun _ _ _ _ _ _ _ _ _ _ _ _ => by kernel_rfl
theorem rdJh_9_5 : RdJh 9 5 := fun _ _ _ _ _ _ _ _ _ _ _ _ => by kernel_rfl
theorem rdJh_9_6 : RdJh 9 6 := fun _ _ _ _ _ _ _ _ _ _ _ _ => by kernel_rfl
theorem rdJh_9_7 : RdJh 9 7 := fun _ _ _ _ _ _ _ _ _ _ _ _ => by kernel_rfl
theorem rdJh_9_8 : RdJh 9 8 := fun _ _ _ _ _ _ _ _ _ _ _ _ => by kernel_rfl
theorem rdJhEnd_9 : RdJhEnd 9 := fun _ _ _ _ _ _ _ _ _ _ _ => by kernel_rfl
theorem rdJhA_9 : ∀ k, k < 9 → RdJh 9 k
  | 0, _ => rdJh_9_0
  | 1, _ => rdJh_9_1
  | 2, _ => rdJh_9_2
  | 3, _ => rdJh_9_3
  | 4, _ => rdJh_9_4
  | 5, _ => rdJh_9_5
  | 6, _ => rdJh_9_6
  | 7, _ => rdJh_9_7
  | 8, _ => rdJh_9_8
  | i + 9, h => absurd h (by omega)
theorem rdJh_10_0 : RdJh 10 0 := fun _ _ _ _ _ _ _ _ _ _ _ _ => by kernel_rfl
theorem rdJh_10_1 : RdJh 10 1 := fun _ _ _ _ _ _ _ _ _ _ _ _ => by kernel_rfl
theorem rdJh_10_2 : RdJh 10 2 := fun _ _ _ _ _ _ _ _ _ _ _ _ => by kernel_rfl
theorem rdJh_10_3 : RdJh 10 3 := fun _ _ _ _ _ _ _ _ _ _ _ _ => by kernel_rfl
theorem rdJh_10_4 : RdJh 10 4 := fun _ _ _ _ _ _ _ _ _ _ _ _ => by kernel_rfl
theorem rdJh_10_5 : RdJh 10 5 := fun _ _ _ _ _ _ _ _ _ _ _ _ => by kernel_rfl
theorem rdJh_10_6 : RdJh 10 6 := fun _ _ _ _ _ _ _ _ _ _ _ _ => by kernel_rfl
theorem rdJh_10_7 : RdJh 10 7 := fun _ _ _ _ _ _ _ _ _ _ _ _ => by kernel_rfl
theorem rdJh_10_8 : RdJh 10 8 := fun _ _ _ _ _ _ _ _ _ _ _ _ => by kernel_rfl
theorem rdJh_10_9 : RdJh 10 9 := fun _ _ _ _ _ _ _ _ _ _ _ _ => by kernel_rfl
theorem rdJhEnd_10 : RdJhEnd 10 := fun _ _ _ _ _ _ _ _ _ _ _ => by kernel_rfl
theorem rdJhA_10 : ∀ k, k < 10 → RdJh 10 k
  | 0, _ => rdJh_10_0
  | 1, _ => rdJh_10_1
  | 2, _ => rdJh_10_2
  | 3, _ => rdJh_10_3
  | 4, _ => rdJh_10_4
  | 5, _ => rdJh_10_5
  | 6, _ => rdJh_10_6
  | 7, _ => rdJh_10_7
  | 8, _ => rdJh_10_8
  | 9, _ => rdJh_10_9
  | i + 10, h => absurd h (by omega)
theorem rdJh_11_0 : RdJh 11 0 := fun _ _ _ _ _ _ _ _ _ _ _ _ => by kernel_rfl
theorem rdJh_11_1 : RdJh 11 1 := fun _ _ _ _ _ _ _ _ _ _ _ _ => by kernel_rfl
theorem rdJh_11_2 : RdJh 11 2 := fun _ _ _ _ _ _ _ _ _ _ _ _ => by kernel_rfl
theorem rdJh_11_3 : RdJh 11 3 := fun _ _ _ _ _ _ _ _ _ _ _ _ => by kernel_rfl
theorem rdJh_11_4 : RdJh 11 4 := fun _ _ _ _ _ _ _ _ _ _ _ _ => by kernel_rfl
theorem rdJh_11_5 : RdJh 11 5 := fun _ _ _ _ _ _ _ _ _ _ _ _ => by kernel_rfl
theorem rdJh_11_6 : RdJh 11 6 := fun _ _ _ _ _ _ _ _ _ _ _ _ => by kernel_rfl
theorem rdJh_11_7 : RdJh 11 7 := fun _ _ _ _ _ _ _ _ _ _ _ _ => by kernel_rfl
theorem rdJh_11_8 : RdJh 11 8 := fun _ _ _ _ _ _ _ _ _ _ _ _ => by kernel_rfl
theorem rdJh_11_9 : RdJh 11 9 := fun _ _ _ _ _ _ _ _ _ _ _ _ => by kernel_rfl
theorem rdJh_11_10 : RdJh 11 10 := fun _ _ _ _ _ _ _ _ _ _ _ _ => by kernel_rfl
theorem rdJhEnd_11 : RdJhEnd 11 := fun _ _ _ _ _ _ _ _ _ _ _ => by kernel_rfl
theorem rdJhA_11 : ∀ k, k < 11 → RdJh 11 k
  | 0, _ => rdJh_11_0
  | 1, _ => rdJh_11_1
  | 2, _ => rdJh_11_2
  | 3, _ => rdJh_11_3
  | 4, _ => rdJh_11_4
  | 5, _ => rdJh_11_5
  | 6, _ => rdJh_11_6
  | 7, _ => rdJh_11_7
  | 8, _ => rdJh_11_8
  | 9, _ => rdJh_11_9
  | 10, _ => rdJh_11_10
  | i + 11, h => absurd h (by omega)
theorem rdJh_12_0 : RdJh 12 0 := fun _ _ _ _ _ _ _ _ _ _ _ _ => by kernel_rfl
theorem rdJh_12_1 : RdJh 12 1 := fun _ _ _ _ _ _ _ _ _ _ _ _ => by kernel_rfl
theorem rdJh_12_2 : RdJh 12 2 := fun _ _ _ _ _ _ _ _ _ _ _ _ => by kernel_rfl
theorem rdJh_12_3 : RdJh 12 3 := fun _ _ _ _ _ _ _ _ _ _ _ _ => by kernel_rfl
theorem rdJh_12_4 : RdJh 12 4 := fun _ _ _ _ _ _ _ _ _ _ _ _ => by kernel_rfl
theorem rdJh_12_5 : RdJh 12 5 := fun _ _ _ _ _ _ _ _ _ _ _ _ => by kernel_rfl
theorem rdJh_12_6 : RdJh 12 6 := fun _ _ _ _ _ _ _ _ _ _ _ _ => by kernel_rfl
theorem rdJh_12_7 : RdJh 12 7 := fun _ _ _ _ _ _ _ _ _ _ _ _ => by kernel_rfl
theorem rdJh_12_8 : RdJh 12 8 := fun _ _ _ _ _ _ _ _ _ _ _ _ => by kernel_rfl
theorem rdJh_12_9 : RdJh 12 9 := fun _ _ _ _ _ _ _ _ _ _ _ _ => by kernel_rfl
theorem rdJh_12_10 : RdJh 12 10 := fun _ _ _ _ _ _ _ _ _ _ _ _ => by kernel_rfl
theorem rdJh_12_11 : RdJh 12 11 := fun _ _ _ _ _ _ _ _ _ _ _ _ => by kernel_rfl
theorem rdJhEnd_12 : RdJhEnd 12 := fun _ _ _ _ _ _ _ _ _ _ _ => by kernel_rfl
theorem rdJhA_12 : ∀ k, k < 12 → RdJh 12 k
  | 0, _ => rdJh_12_0
  | 1, _ => rdJh_12_1
  | 2, _ => rdJh_12_2
  | 3, _ => rdJh_12_3
  | 4, _ => rdJh_12_4
  | 5, _ => rdJh_12_5
  | 6, _ => rdJh_12_6
  | 7, _ => rdJh_12_7
  | 8, _ => rdJh_12_8
  | 9, _ => rdJh_12_9
  | 10, _ => rdJh_12_10
  | 11, _ => rdJh_12_11
  | i + 12, h => absurd h (by omega)
theorem rdJh {M : Nat} (h1 : 2 ≤ M) (h2 : M ≤ 12) {k : Nat} (h : k < M) : RdJh M k := by
  have : M = 2 ∨ M = 3 ∨ M = 4 ∨ M = 5 ∨ M = 6 ∨ M = 7 ∨ M = 8 ∨ M = 9 ∨ M = 10 ∨ M = 11 ∨ M = 12 := by omega
  rcases this with rfl | rfl | rfl | rfl | rfl | rfl | rfl | rfl | rfl | rfl | rfl
  · exact rdJhA_2 k h
  · exact rdJhA_3 k h
  · exact rdJhA_4 k h
  · exact rdJhA_5 k h
  · exact rdJhA_6 k h
  · exact rdJhA_7 k h
  · exact rdJhA_8 k h
  · exact rdJhA_9 k h
  · exact rdJhA_10 k h
  · exact rdJhA_11 k h
  · exact rdJhA_12 k h
theorem rdJhEnd {M : Nat} (h1 : 2 ≤ M) (h2 : M ≤ 12) : RdJhEnd M := by
  have : M = 2 ∨ M = 3 ∨ M = 4 ∨ M = 5 ∨ M = 6 ∨ M = 7 ∨ M = 8 ∨ M = 9 ∨ M = 10 ∨ M = 11 ∨ M = 12 := by omega
  rcases this with rfl | rfl | rfl | rfl | rfl | rfl | rfl | rfl | rfl | rfl | rfl
  · exact rdJhEnd_2
  · exact rdJhEnd_3
  · exact rdJhEnd_4
  · exact rdJhEnd_5
  · exact rdJhEnd_6
  · exact rdJhEnd_7
  · exact rdJhEnd_8
  · exact rdJhEnd_9
  · exact rdJhEnd_10
  · exact rdJhEnd_11
  · exact rdJhEnd_12

end Go.Proofs.Ytdlinjijccnaeaa
