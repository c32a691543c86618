/- The laws' own Make of fields, round by round. -/
import Derived.Test.YtpmdpbljgidllaaTpC
namespace Go.Proofs.Ytpmdpbljgidllaa
open Go
set_option linter.unusedVariables false
set_option linter.unusedSimpArgs false
set_option maxRecDepth 100000

/-- Make's slots that are asked for; and what 'within' tells. -/
noncomputable def askK (g : FuncId) : Nat := if g == 17 then 1 else if g == 1000035 || g == 1000036 || g == 1000054 || g == 1000055 || g == 1000061 || g == 1000063 || g == 1000067 || g == 1000082 || g == 1000084 || g == 1000085 || g == 1000107 || g == 1000109 || g == 1000115 then 7 else 0
def cmK : BinOp → Value → Value → Bool
  | .lss, .int _ _, _ => true
  | .eql, .int _ _, _ => true
  | _, _, _ => false
noncomputable def bodyK : Code := bodyAt Try.prog 14 1
def tmK (n : Int) (ns : Value) (dv : Bool) (i : Nat) (j : Nat → Value) : List Value := (List.range 120).map fun s =>
  if s = 0 then .int .i64 n else if s = 1 then ns else if s = 2 then .bool dv else if s = 6 then .pointer (some ⟨1, 0, none⟩) else if s = 7 then .pointer (some ⟨2, 0, none⟩) else if s = 9 then .int .i64 i else j s
def tpB (N o c : Nat) (out : Value) : Option ABlk := some ⟨#[.int .i64 N, .slice (some ⟨o, 0, none⟩) c c, out], 25, 0, true⟩
def b6K : Option ABlk := some ⟨#[.int .i64 0, .slice none 0 0, .slice none 0 0], 25, 0, true⟩
def opsK (c : Nat) (O : Nat → OpD) : Option ABlk := some ⟨((List.range c).flatMap fun i => opC (O i)).toArray, 32, 4, true⟩
def jcK (N i : Nat) : Nat := 2 * N + 1 + 3 * i
def hpK (bz : Option ABlk) (N i : Nat) (O : Nat → OpD) (g : Nat → Option ABlk) : List (Option ABlk) := [bz, b6K, tpB N (3 + jcK N i) (N + 1 + i) (.slice none 0 0)] ++ (List.range (jcK N i)).map g ++ [opsK (N + 1 + i) O]
abbrev SlK := Nat × List Value × List (Option ABlk) × Nat × Option (Option ABlk)
def slK (tm : List Value) (H : AHeap) : SlK := (tm.length, [getT tm 0, getT tm 1, getT tm 2, getT tm 6, getT tm 7, getT tm 9], H.toList.take 3, H.toList.length, H.toList.getLast?)
def outK (bz : Option ABlk) (n : Int) (ns : Value) (dv : Bool) (N i : Nat) (O : Nat → OpD) (op : OpD) : SlK :=
  (120, [.int .i64 n, ns, .bool dv, .pointer (some ⟨1, 0, none⟩), .pointer (some ⟨2, 0, none⟩), .int .i64 (Int.ofNat (i + 1))], [bz, b6K, tpB N (3 + jcK N (i + 1)) (N + 1 + (i + 1)) (.slice none 0 0)], 3 + jcK N (i + 1) + 1,
    some (some ⟨(((List.range (N + 1 + i)).flatMap fun i => opC (O i)) ++ opC op).toArray, 32, 4, true⟩))
noncomputable def runK (bz : Option ABlk) (n : Int) (ns : Value) (dv : Bool) (N i : Nat) (O : Nat → OpD) (g : Nat → Option ABlk) (j : Nat → Value) (s : List Ans) : Option (AExit × SlK × List Obl × List LpO) :=
  (rndT askK cmK bodyK (tmK n ns dv i j) (hpK bz N i O g).toArray s []).map fun r => (r.1, slK r.2.1 r.2.2.1, r.2.2.2)
noncomputable def wiOt (z : Int) (n : Nat) (w : Int) : Obl := .run 17 #[.int .i64 z, .int .i64 (Int.ofNat n)] #[] (.int .i64 w) #[]
noncomputable def arO (op : BinOp) (a b c : Int) : Obl := .ex (pureV Try.prog (binOp op 3 (.int .i64 a) (.int .i64 b)) = some (.int .i64 c))
noncomputable def cvO (c : Int) (f : Nat) : Obl := .ex (convV Try.prog 3 30 (.int .i64 c) = some (.float .f64 f))
noncomputable def cpO (op : BinOp) (a b : Int) (c : Bool) : Obl := .cmp op 3 (.int .i64 a) (.int .i64 b) c
/-- A round's numbers. -/
structure RnK where
  z : Int
  w3 : Int
  K : Int
  q4 : Int
  A : Int
  q40 : Int
  B : Int
  w7 : Int
  w11 : Int
  q11 : Int
  w33 : Int
  c : Int
  fc : Nat
def RnK.op (r : RnK) (dv e7 e11 : Bool) : OpD := if e11 then ⟨0, 0, 0, fop .quo .f64 r.fc 4620693217682128896⟩ else ⟨if dv && e7 then 5 else r.K, r.A, r.B, 0⟩
def RnK.ans (r : RnK) (pz : Addr) (dv e7 e11 : Bool) : List Ans :=
  [yes true, yes true, pAnsT pz, vAns (.int .i64 r.z), isI r.w3, isI r.K, isI r.q4, isI r.A, isI r.q40, isI r.B] ++ (if dv then [isI r.w7, yes e7] else []) ++ [isI r.w11, yes e11] ++ (if e11 then [isI r.q11, isI r.w33, isI r.c, vAns (.float .f64 r.fc)] else [])
noncomputable def RnK.log (r : RnK) (H : List (Option ABlk)) (ns : Value) (len i c : Nat) (pz : Addr) (dv e7 e11 : Bool) : List Obl :=
  [cpO .lss (Int.ofNat i) len true, cpO .lss (Int.ofNat i) 8 true, .ex (indexAddrV Try.prog 23 ns (.int .i64 (Int.ofNat i)) = some (.pointer (some pz))), .ex (readVar Try.prog H.toArray 3 pz = some (.int .i64 r.z)),
   wiOt r.z 3 r.w3, arO .add 2 r.w3 r.K, arO .quo r.z 4 r.q4, wiOt r.q4 c r.A, arO .quo r.z 40 r.q40, wiOt r.q40 c r.B] ++
  (if dv then [wiOt r.z 7 r.w7, cpO .eql r.w7 0 e7] else []) ++ [wiOt r.z 11 r.w11, cpO .eql r.w11 0 e11] ++ (if e11 then [arO .quo r.z 11 r.q11, wiOt r.q11 33 r.w33, arO .sub r.w33 16 r.c, cvO r.c r.fc] else [])
/-- A round, at a shape. -/
def RdK (N i : Nat) (dv e7 e11 : Bool) : Prop := ∀ (bz : Option ABlk) (n : Int) (len : Nat) (O : Nat → OpD) (g : Nat → Option ABlk) (j : Nat → Value) (pz : Addr) (z w3 K q4 A q40 B w7 w11 q11 w33 c : Int) (fc : Nat),
  runK bz n (.slice (some ⟨0, 0, none⟩) len len) dv N i O g j (RnK.ans ⟨z, w3, K, q4, A, q40, B, w7, w11, q11, w33, c, fc⟩ pz dv e7 e11) =
    some (.normal, outK bz n (.slice (some ⟨0, 0, none⟩) len len) dv N i O (RnK.op ⟨z, w3, K, q4, A, q40, B, w7, w11, q11, w33, c, fc⟩ dv e7 e11), RnK.log ⟨z, w3, K, q4, A, q40, B, w7, w11, q11, w33, c, fc⟩ (hpK bz N i O g) (.slice (some ⟨0, 0, none⟩) len len) len i (N + 1 + i) pz dv e7 e11, [])
theorem rdK_1_0_fff : RdK 1 0 false false false := fun _ _ _ _ _ _ _ _ _ _ _ _ _ _ _ _ _ _ _ _ => by kernel_rfl
theorem rdK_1_0_fft : RdK 1 0 false false true := fun _ _ _ _ _ _ _ _ _ _ _ _ _ _ _ _ _ _ _ _ => by kernel_rfl
theorem rdK_1_0_tff : RdK 1 0 true false false := fun _ _ _ _ _ _ _ _ _ _ _ _ _ _ _ _ _ _ _ _ => by kernel_rfl
theorem rdK_1_0_tft : RdK 1 0 true false true := fun _ _ _ _ _ _ _ _ _ _ _ _ _ _ _ _ _ _ _ _ => by kernel_rfl
theorem rdK_1_0_ttf : RdK 1 0 true true false := fun _ _ _ _ _ _ _ _ _ _ _ _ _ _ _ _ _ _ _ _ => by kernel_rfl
theorem rdK_1_0_ttt : RdK 1 0 true true true := fun _ _ _ _ _ _ _ _ _ _ _ _ _ _ _ _ _ _ _ _ => by kernel_rfl
theorem rdK_1_1_fff : RdK 1 1 false false false := fun _ _ _ _ _ _ _ _ _ _ _ _ _ _ _ _ _ _ _ _ => by kernel_rfl
theorem rdK_1_1_fft : RdK 1 1 false false true := fun _ _ _ _ _ _ _ _ _ _ _ _ _ _ _ _ _ _ _ _ => by kernel_rfl
theorem rdK_1_1_tff : RdK 1 1 true false false := fun _ _ _ _ _ _ _ _ _ _ _ _ _ _ _ _ _ _ _ _ => by kernel_rfl
theorem rdK_1_1_tft : RdK 1 1 true false true := fun _ _ _ _ _ _ _ _ _ _ _ _ _ _ _ _ _ _ _ _ => by kernel_rfl
theorem rdK_1_1_ttf : RdK 1 1 true true false := fun _ _ _ _ _ _ _ _ _ _ _ _ _ _ _ _ _ _ _ _ => by kernel_rfl
theorem rdK_1_1_ttt : RdK 1 1 true true true := fun _ _ _ _ _ _ _ _ _ _ _ _ _ _ _ _ _ _ _ _ => by kernel_rfl
theorem rdK_1_2_fff : RdK 1 2 false false false := fun _ _ _ _ _ _ _ _ _ _ _ _ _ _ _ _ _ _ _ _ => by kernel_rfl
theorem rdK_1_2_fft : RdK 1 2 false false true := fun _ _ _ _ _ _ _ _ _ _ _ _ _ _ _ _ _ _ _ _ => by kernel_rfl
theorem rdK_1_2_tff : RdK 1 2 true false false := fun _ _ _ _ _ _ _ _ _ _ _ _ _ _ _ _ _ _ _ _ => by kernel_rfl
theorem rdK_1_2_tft : RdK 1 2 true false true := fun _ _ _ _ _ _ _ _ _ _ _ _ _ _ _ _ _ _ _ _ => by kernel_rfl
theorem rdK_1_2_ttf : RdK 1 2 true true false := fun _ _ _ _ _ _ _ _ _ _ _ _ _ _ _ _ _ _ _ _ => by kernel_rfl
theorem rdK_1_2_ttt : RdK 1 2 true true true := fun _ _ _ _ _ _ _ _ _ _ _ _ _ _ _ _ _ _ _ _ => by kernel_rfl
theorem rdK_1_3_fff : RdK 1 3 false false false := fun _ _ _ _ _ _ _ _ _ _ _ _ _ _ _ _ _ _ _ _ => by kernel_rfl
theorem rdK_1_3_fft : RdK 1 3 false false true := fun _ _ _ _ _ _ _ _ _ _ _ _ _ _ _ _ _ _ _ _ => by kernel_rfl
theorem rdK_1_3_tff : RdK 1 3 true false false := fun _ _ _ _ _ _ _ _ _ _ _ _ _ _ _ _ _ _ _ _ => by kernel_rfl
theorem rdK_1_3_tft : RdK 1 3 true false true := fun _ _ _ _ _ _ _ _ _ _ _ _ _ _ _ _ _ _ _ _ => by kernel_rfl
theorem rdK_1_3_ttf : RdK 1 3 true true false := fun _ _ _ _ _ _ _ _ _ _ _ _ _ _ _ _ _ _ _ _ => by kernel_rfl
theorem rdK_1_3_ttt : RdK 1 3 true true true := fun _ _ _ _ _ _ _ _ _ _ _ _ _ _ _ _ _ _ _ _ => by kernel_rfl
theorem rdK_1_4_fff : RdK 1 4 false false false := fun _ _ _ _ _ _ _ _ _ _ _ _ _ _ _ _ _ _ _ _ => by kernel_rfl
theorem rdK_1_4_fft : RdK 1 4 false false true := fun _ _ _ _ _ _ _ _ _ _ _ _ _ _ _ _ _ _ _ _ => by kernel_rfl
theorem rdK_1_4_tff : RdK 1 4 true false false := fun _ _ _ _ _ _ _ _ _ _ _ _ _ _ _ _ _ _ _ _ => by kernel_rfl
theorem rdK_1_4_tft : RdK 1 4 true false true := fun _ _ _ _ _ _ _ _ _ _ _ _ _ _ _ _ _ _ _ _ => by kernel_rfl
theorem rdK_1_4_ttf : RdK 1 4 true true false := fun _ _ _ _ _ _ _ _ _ _ _ _ _ _ _ _ _ _ _ _ => by kernel_rfl
theorem rdK_1_4_ttt : RdK 1 4 true true true := fun _ _ _ _ _ _ _ _ _ _ _ _ _ _ _ _ _ _ _ _ => by kernel_rfl
theorem rdK_1_5_fff : RdK 1 5 false false false := fun _ _ _ _ _ _ _ _ _ _ _ _ _ _ _ _ _ _ _ _ => by kernel_rfl
theorem rdK_1_5_fft : RdK 1 5 false false true := fun _ _ _ _ _ _ _ _ _ _ _ _ _ _ _ _ _ _ _ _ => by kernel_rfl
theorem rdK_1_5_tff : RdK 1 5 true false false := fun _ _ _ _ _ _ _ _ _ _ _ _ _ _ _ _ _ _ _ _ => by kernel_rfl
theorem rdK_1_5_tft : RdK 1 5 true false true := fun _ _ _ _ _ _ _ _ _ _ _ _ _ _ _ _ _ _ _ _ => by kernel_rfl
theorem rdK_1_5_ttf : RdK 1 5 true true false := fun _ _ _ _ _ _ _ _ _ _ _ _ _ _ _ _ _ _ _ _ => by kernel_rfl
theorem rdK_1_5_ttt : RdK 1 5 true true true := fun _ _ _ _ _ _ _ _ _ _ _ _ _ _ _ _ _ _ _ _ => by kernel_rfl
theorem rdK_1_6_fff : RdK 1 6 false false false := fun _ _ _ _ _ _ _ _ _ _ _ _ _ _ _ _ _ _ _ _ => by kernel_rfl
theorem rdK_1_6_fft : RdK 1 6 false false true := fun _ _ _ _ _ _ _ _ _ _ _ _ _ _ _ _ _ _ _ _ => by kernel_rfl
theorem rdK_1_6_tff : RdK 1 6 true false false := fun _ _ _ _ _ _ _ _ _ _ _ _ _ _ _ _ _ _ _ _ => by kernel_rfl
theorem rdK_1_6_tft : RdK 1 6 true false true := fun _ _ _ _ _ _ _ _ _ _ _ _ _ _ _ _ _ _ _ _ => by kernel_rfl
theorem rdK_1_6_ttf : RdK 1 6 true true false := fun _ _ _ _ _ _ _ _ _ _ _ _ _ _ _ _ _ _ _ _ => by kernel_rfl
theorem rdK_1_6_ttt : RdK 1 6 true true true := fun _ _ _ _ _ _ _ _ _ _ _ _ _ _ _ _ _ _ _ _ => by kernel_rfl
theorem rdK_1_7_fff : RdK 1 7 false false false := fun _ _ _ _ _ _ _ _ _ _ _ _ _ _ _ _ _ _ _ _ => by kernel_rfl
theorem rdK_1_7_fft : RdK 1 7 false false true := fun _ _ _ _ _ _ _ _ _ _ _ _ _ _ _ _ _ _ _ _ => by kernel_rfl
theorem rdK_1_7_tff : RdK 1 7 true false false := fun _ _ _ _ _ _ _ _ _ _ _ _ _ _ _ _ _ _ _ _ => by kernel_rfl
theorem rdK_1_7_tft : RdK 1 7 true false true := fun _ _ _ _ _ _ _ _ _ _ _ _ _ _ _ _ _ _ _ _ => by kernel_rfl
theorem rdK_1_7_ttf : RdK 1 7 true true false := fun _ _ _ _ _ _ _ _ _ _ _ _ _ _ _ _ _ _ _ _ => by kernel_rfl
theorem rdK_1_7_ttt : RdK 1 7 true true true := fun _ _ _ _ _ _ _ _ _ _ _ _ _ _ _ _ _ _ _ _ => by kernel_rfl
theorem rdK_2_0_fff : RdK 2 0 false false false := fun _ _ _ _ _ _ _ _ _ _ _ _ _ _ _ _ _ _ _ _ => by kernel_rfl
theorem rdK_2_0_fft : RdK 2 0 false false true := fun _ _ _ _ _ _ _ _ _ _ _ _ _ _ _ _ _ _ _ _ => by kernel_rfl
theorem rdK_2_0_tff : RdK 2 0 true false false := fun _ _ _ _ _ _ _ _ _ _ _ _ _ _ _ _ _ _ _ _ => by kernel_rfl
theorem rdK_2_0_tft : RdK 2 0 true false true := fun _ _ _ _ _ _ _ _ _ _ _ _ _ _ _ _ _ _ _ _ => by kernel_rfl
theorem rdK_2_0_ttf : RdK 2 0 true true false := fun _ _ _ _ _ _ _ _ _ _ _ _ _ _ _ _ _ _ _ _ => by kernel_rfl
theorem rdK_2_0_ttt : RdK 2 0 true true true := fun _ _ _ _ _ _ _ _ _ _ _ _ _ _ _ _ _ _ _ _ => by kernel_rfl
theorem rdK_2_1_fff : RdK 2 1 false false false := fun _ _ _ _ _ _ _ _ _ _ _ _ _ _ _ _ _ _ _ _ => by kernel_rfl
theorem rdK_2_1_fft : RdK 2 1 false false true := fun _ _ _ _ _ _ _ _ _ _ _ _ _ _ _ _ _ _ _ _ => by kernel_rfl
theorem rdK_2_1_tff : RdK 2 1 true false false := fun _ _ _ _ _ _ _ _ _ _ _ _ _ _ _ _ _ _ _ _ => by kernel_rfl
theorem rdK_2_1_tft : RdK 2 1 true false true := fun _ _ _ _ _ _ _ _ _ _ _ _ _ _ _ _ _ _ _ _ => by kernel_rfl
theorem rdK_2_1_ttf : RdK 2 1 true true false := fun _ _ _ _ _ _ _ _ _ _ _ _ _ _ _ _ _ _ _ _ => by kernel_rfl
theorem rdK_2_1_ttt : RdK 2 1 true true true := fun _ _ _ _ _ _ _ _ _ _ _ _ _ _ _ _ _ _ _ _ => by kernel_rfl
theorem rdK_2_2_fff : RdK 2 2 false false false := fun _ _ _ _ _ _ _ _ _ _ _ _ _ _ _ _ _ _ _ _ => by kernel_rfl
theorem rdK_2_2_fft : RdK 2 2 false false true := fun _ _ _ _ _ _ _ _ _ _ _ _ _ _ _ _ _ _ _ _ => by kernel_rfl
theorem rdK_2_2_tff : RdK 2 2 true false false := fun _ _ _ _ _ _ _ _ _ _ _ _ _ _ _ _ _ _ _ _ => by kernel_rfl
theorem rdK_2_2_tft : RdK 2 2 true false true := fun _ _ _ _ _ _ _ _ _ _ _ _ _ _ _ _ _ _ _ _ => by kernel_rfl
theorem rdK_2_2_ttf : RdK 2 2 true true false := fun _ _ _ _ _ _ _ _ _ _ _ _ _ _ _ _ _ _ _ _ => by kernel_rfl
theorem rdK_2_2_ttt : RdK 2 2 true true true := fun _ _ _ _ _ _ _ _ _ _ _ _ _ _ _ _ _ _ _ _ => by kernel_rfl
theorem rdK_2_3_fff : RdK 2 3 false false false := fun _ _ _ _ _ _ _ _ _ _ _ _ _ _ _ _ _ _ _ _ => by kernel_rfl
theorem rdK_2_3_fft : RdK 2 3 false false true := fun _ _ _ _ _ _ _ _ _ _ _ _ _ _ _ _ _ _ _ _ => by kernel_rfl
theorem rdK_2_3_tff : RdK 2 3 true false false := fun _ _ _ _ _ _ _ _ _ _ _ _ _ _ _ _ _ _ _ _ => by kernel_rfl
theorem rdK_2_3_tft : RdK 2 3 true false true := fun _ _ _ _ _ _ _ _ _ _ _ _ _ _ _ _ _ _ _ _ => by kernel_rfl
theorem rdK_2_3_ttf : RdK 2 3 true true false := fun _ _ _ _ _ _ _ _ _ _ _ _ _ _ _ _ _ _ _ _ => by kernel_rfl
theorem rdK_2_3_ttt : RdK 2 3 true true true := fun _ _ _ _ _ _ _ _ _ _ _ _ _ _ _ _ _ _ _ _ => by kernel_rfl
theorem rdK_2_4_fff : RdK 2 4 false false false := fun _ _ _ _ _ _ _ _ _ _ _ _ _ _ _ _ _ _ _ _ => by kernel_rfl
theorem rdK_2_4_fft : RdK 2 4 false false true := fun _ _ _ _ _ _ _ _ _ _ _ _ _ _ _ _ _ _ _ _ => by kernel_rfl
theorem rdK_2_4_tff : RdK 2 4 true false false := fun _ _ _ _ _ _ _ _ _ _ _ _ _ _ _ _ _ _ _ _ => by kernel_rfl
theorem rdK_2_4_tft : RdK 2 4 true false true := fun _ _ _ _ _ _ _ _ _ _ _ _ _ _ _ _ _ _ _ _ => by kernel_rfl
theorem rdK_2_4_ttf : RdK 2 4 true true false := fun _ _ _ _ _ _ _ _ _ _ _ _ _ _ _ _ _ _ _ _ => by kernel_rfl
theorem rdK_2_4_ttt : RdK 2 4 true true true := fun _ _ _ _ _ _ _ _ _ _ _ _ _ _ _ _ _ _ _ _ => by kernel_rfl
theorem rdK_2_5_fff : RdK 2 5 false false false := fun _ _ _ _ _ _ _ _ _ _ _ _ _ _ _ _ _ _ _ _ => by kernel_rfl
theorem rdK_2_5_fft : RdK 2 5 false false true := fun _ _ _ _ _ _ _ _ _ _ _ _ _ _ _ _ _ _ _ _ => by kernel_rfl
theorem rdK_2_5_tff : RdK 2 5 true false false := fun _ _ _ _ _ _ _ _ _ _ _ _ _ _ _ _ _ _ _ _ => by kernel_rfl
theorem rdK_2_5_tft : RdK 2 5 true false true := fun _ _ _ _ _ _ _ _ _ _ _ _ _ _ _ _ _ _ _ _ => by kernel_rfl
theorem rdK_2_5_ttf : RdK 2 5 true true false := fun _ _ _ _ _ _ _ _ _ _ _ _ _ _ _ _ _ _ _ _ => by kernel_rfl
theorem rdK_2_5_ttt : RdK 2 5 true true true := fun _ _ _ _ _ _ _ _ _ _ _ _ _ _ _ _ _ _ _ _ => by kernel_rfl
theorem rdK_2_6_fff : RdK 2 6 false false false := fun _ _ _ _ _ _ _ _ _ _ _ _ _ _ _ _ _ _ _ _ => by kernel_rfl
theorem rdK_2_6_fft : RdK 2 6 false false true := fun _ _ _ _ _ _ _ _ _ _ _ _ _ _ _ _ _ _ _ _ => by kernel_rfl
theorem rdK_2_6_tff : RdK 2 6 true false false := fun _ _ _ _ _ _ _ _ _ _ _ _ _ _ _ _ _ _ _ _ => by kernel_rfl
theorem rdK_2_6_tft : RdK 2 6 true false true := fun _ _ _ _ _ _ _ _ _ _ _ _ _ _ _ _ _ _ _ _ => by kernel_rfl
theorem rdK_2_6_ttf : RdK 2 6 true true false := fun _ _ _ _ _ _ _ _ _ _ _ _ _ _ _ _ _ _ _ _ => by kernel_rfl
theorem rdK_2_6_ttt : RdK 2 6 true true true := fun _ _ _ _ _ _ _ _ _ _ _ _ _ _ _ _ _ _ _ _ => by kernel_rfl
theorem rdK_2_7_fff : RdK 2 7 false false false := fun _ _ _ _ _ _ _ _ _ _ _ _ _ _ _ _ _ _ _ _ => by kernel_rfl
theorem rdK_2_7_fft : RdK 2 7 false false true := fun _ _ _ _ _ _ _ _ _ _ _ _ _ _ _ _ _ _ _ _ => by kernel_rfl
theorem rdK_2_7_tff : RdK 2 7 true false false := fun _ _ _ _ _ _ _ _ _ _ _ _ _ _ _ _ _ _ _ _ => by kernel_rfl
theorem rdK_2_7_tft : RdK 2 7 true false true := fun _ _ _ _ _ _ _ _ _ _ _ _ _ _ _ _ _ _ _ _ => by kernel_rfl
theorem rdK_2_7_ttf : RdK 2 7 true true false := fun _ _ _ _ _ _ _ _ _ _ _ _ _ _ _ _ _ _ _ _ => by kernel_rfl
theorem rdK_2_7_ttt : RdK 2 7 true true true := fun _ _ _ _ _ _ _ _ _ _ _ _ _ _ _ _ _ _ _ _ => by kernel_rfl
theorem rdK_3_0_fff : RdK 3 0 false false false := fun _ _ _ _ _ _ _ _ _ _ _ _ _ _ _ _ _ _ _ _ => by kernel_rfl
theorem rdK_3_0_fft : RdK 3 0 false false true := fun _ _ _ _ _ _ _ _ _ _ _ _ _ _ _ _ _ _ _ _ => by kernel_rfl
theorem rdK_3_0_tff : RdK 3 0 true false false := fun _ _ _ _ _ _ _ _ _ _ _ _ _ _ _ _ _ _ _ _ => by kernel_rfl
theorem rdK_3_0_tft : RdK 3 0 true false true := fun _ _ _ _ _ _ _ _ _ _ _ _ _ _ _ _ _ _ _ _ => by kernel_rfl
theorem rdK_3_0_ttf : RdK 3 0 true true false := fun _ _ _ _ _ _ _ _ _ _ _ _ _ _ _ _ _ _ _ _ => by kernel_rfl
theorem rdK_3_0_ttt : RdK 3 0 true true true := fun _ _ _ _ _ _ _ _ _ _ _ _ _ _ _ _ _ _ _ _ => by kernel_rfl
theorem rdK_3_1_fff : RdK 3 1 false false false := fun _ _ _ _ _ _ _ _ _ _ _ _ _ _ _ _ _ _ _ _ => by kernel_rfl
theorem rdK_3_1_fft : RdK 3 1 false false true := fun _ _ _ _ _ _ _ _ _ _ _ _ _ _ _ _ _ _ _ _ => by kernel_rfl
theorem rdK_3_1_tff : RdK 3 1 true false false := fun _ _ _ _ _ _ _ _ _ _ _ _ _ _ _ _ _ _ _ _ => by kernel_rfl
theorem rdK_3_1_tft : RdK 3 1 true false true := fun _ _ _ _ _ _ _ _ _ _ _ _ _ _ _ _ _ _ _ _ => by kernel_rfl
theorem rdK_3_1_ttf : RdK 3 1 true true false := fun _ _ _ _ _ _ _ _ _ _ _ _ _ _ _ _ _ _ _ _ => by kernel_rfl
theorem rdK_3_1_ttt : RdK 3 1 true true true := fun _ _ _ _ _ _ _ _ _ _ _ _ _ _ _ _ _ _ _ _ => by kernel_rfl
theorem rdK_3_2_fff : RdK 3 2 false false false := fun _ _ _ _ _ _ _ _ _ _ _ _ _ _ _ _ _ _ _ _ => by kernel_rfl
theorem rdK_3_2_fft : RdK 3 2 false false true := fun _ _ _ _ _ _ _ _ _ _ _ _ _ _ _ _ _ _ _ _ => by kernel_rfl
theorem rdK_3_2_tff : RdK 3 2 true false false := fun _ _ _ _ _ _ _ _ _ _ _ _ _ _ _ _ _ _ _ _ => by kernel_rfl
theorem rdK_3_2_tft : RdK 3 2 true false true := fun _ _ _ _ _ _ _ _ _ _ _ _ _ _ _ _ _ _ _ _ => by kernel_rfl
theorem rdK_3_2_ttf : RdK 3 2 true true false := fun _ _ _ _ _ _ _ _ _ _ _ _ _ _ _ _ _ _ _ _ => by kernel_rfl
theorem rdK_3_2_ttt : RdK 3 2 true true true := fun _ _ _ _ _ _ _ _ _ _ _ _ _ _ _ _ _ _ _ _ => by kernel_rfl
theorem rdK_3_3_fff : RdK 3 3 false false false := fun _ _ _ _ _ _ _ _ _ _ _ _ _ _ _ _ _ _ _ _ => by kernel_rfl
theorem rdK_3_3_fft : RdK 3 3 false false true := fun _ _ _ _ _ _ _ _ _ _ _ _ _ _ _ _ _ _ _ _ => by kernel_rfl
theorem rdK_3_3_tff : RdK 3 3 true false false := fun _ _ _ _ _ _ _ _ _ _ _ _ _ _ _ _ _ _ _ _ => by kernel_rfl
theorem rdK_3_3_tft : RdK 3 3 true false true := fun _ _ _ _ _ _ _ _ _ _ _ _ _ _ _ _ _ _ _ _ => by kernel_rfl
theorem rdK_3_3_ttf : RdK 3 3 true true false := fun _ _ _ _ _ _ _ _ _ _ _ _ _ _ _ _ _ _ _ _ => by kernel_rfl
theorem rdK_3_3_ttt : RdK 3 3 true true true := fun _ _ _ _ _ _ _ _ _ _ _ _ _ _ _ _ _ _ _ _ => by kernel_rfl
theorem rdK_3_4_fff : RdK 3 4 false false false := fun _ _ _ _ _ _ _ _ _ _ _ _ _ _ _ _ _ _ _ _ => by kernel_rfl
theorem rdK_3_4_fft : RdK 3 4 false false true := fun _ _ _ _ _ _ _ _ _ _ _ _ _ _ _ _ _ _ _ _ => by kernel_rfl
theorem rdK_3_4_tff : RdK 3 4 true false false := fun _ _ _ _ _ _ _ _ _ _ _ _ _ _ _ _ _ _ _ _ => by kernel_rfl
theorem rdK_3_4_tft : RdK 3 4 true false true := fun _ _ _ _ _ _ _ _ _ _ _ _ _ _ _ _ _ _ _ _ => by kernel_rfl
theorem rdK_3_4_ttf : RdK 3 4 true true false := fun _ _ _ _ _ _ _ _ _ _ _ _ _ _ _ _ _ _ _ _ => by kernel_rfl
theorem rdK_3_4_ttt : RdK 3 4 true true true := fun _ _ _ _ _ _ _ _ _ _ _ _ _ _ _ _ _ _ _ _ => by kernel_rfl
theorem rdK_3_5_fff : RdK 3 5 false false false := fun _ _ _ _ _ _ _ _ _ _ _ _ _ _ _ _ _ _ _ _ => by kernel_rfl
theorem rdK_3_5_fft : RdK 3 5 false false true := fun _ _ _ _ _ _ _ _ _ _ _ _ _ _ _ _ _ _ _ _ => by kernel_rfl
theorem rdK_3_5_tff : RdK 3 5 true false false := fun _ _ _ _ _ _ _ _ _ _ _ _ _ _ _ _ _ _ _ _ => by kernel_rfl
theorem rdK_3_5_tft : RdK 3 5 true false true := fun _ _ _ _ _ _ _ _ _ _ _ _ _ _ _ _ _ _ _ _ => by kernel_rfl
theorem rdK_3_5_ttf : RdK 3 5 true true false := fun _ _ _ _ _ _ _ _ _ _ _ _ _ _ _ _ _ _ _ _ => by kernel_rfl
theorem rdK_3_5_ttt : RdK 3 5 true true true := fun _ _ _ _ _ _ _ _ _ _ _ _ _ _ _ _ _ _ _ _ => by kernel_rfl
theorem rdK_3_6_fff : RdK 3 6 false false false := fun _ _ _ _ _ _ _ _ _ _ _ _ _ _ _ _ _ _ _ _ => by kernel_rfl
theorem rdK_3_6_fft : RdK 3 6 false false true := fun _ _ _ _ _ _ _ _ _ _ _ _ _ _ _ _ _ _ _ _ => by kernel_rfl
theorem rdK_3_6_tff : RdK 3 6 true false false := fun _ _ _ _ _ _ _ _ _ _ _ _ _ _ _ _ _ _ _ _ => by kernel_rfl
theorem rdK_3_6_tft : RdK 3 6 true false true := fun _ _ _ _ _ _ _ _ _ _ _ _ _ _ _ _ _ _ _ _ => by kernel_rfl
theorem rdK_3_6_ttf : RdK 3 6 true true false := fun _ _ _ _ _ _ _ _ _ _ _ _ _ _ _ _ _ _ _ _ => by kernel_rfl
theorem rdK_3_6_ttt : RdK 3 6 true true true := fun _ _ _ _ _ _ _ _ _ _ _ _ _ _ _ _ _ _ _ _ => by kernel_rfl
theorem rdK_3_7_fff : RdK 3 7 false false false := fun _ _ _ _ _ _ _ _ _ _ _ _ _ _ _ _ _ _ _ _ => by kernel_rfl
theorem rdK_3_7_fft : RdK 3 7 false false true := fun _ _ _ _ _ _ _ _ _ _ _ _ _ _ _ _ _ _ _ _ => by kernel_rfl
theorem rdK_3_7_tff : RdK 3 7 true false false := fun _ _ _ _ _ _ _ _ _ _ _ _ _ _ _ _ _ _ _ _ => by kernel_rfl
theorem rdK_3_7_tft : RdK 3 7 true false true := fun _ _ _ _ _ _ _ _ _ _ _ _ _ _ _ _ _ _ _ _ => by kernel_rfl
theorem rdK_3_7_ttf : RdK 3 7 true true false := fun _ _ _ _ _ _ _ _ _ _ _ _ _ _ _ _ _ _ _ _ => by kernel_rfl
theorem rdK_3_7_ttt : RdK 3 7 true true true := fun _ _ _ _ _ _ _ _ _ _ _ _ _ _ _ _ _ _ _ _ => by kernel_rfl

end Go.Proofs.Ytpmdpbljgidllaa
