/- tape.Eval, round by round: the state before a round, and what a round makes of it. -/
import Derived.Test.YtpmdpbljgidllaaTpC
namespace Go.Proofs.Ytpmdpbljgidllaa
open Go
set_option linter.unusedVariables false
set_option linter.unusedSimpArgs false
set_option maxRecDepth 100000

/-- tape.Eval's slots that are asked for: the operation that is next; registers, numbers, by an operation's own numbers. -/
noncomputable def askTe (g : FuncId) : Nat := if g == 1000017 || g == 1000018 || g == 1000037 || g == 1000038 || g == 1000049 || g == 1000050 || g == 1000054 || g == 1000055 || g == 1000067 || g == 1000068 || g == 1000072 || g == 1000073 || g == 1000085 || g == 1000086 || g == 1000090 || g == 1000091 || g == 1000103 || g == 1000104 || g == 1000108 || g == 1000109 || g == 1000129 || g == 1000130 || g == 1000131 then 7 else 0
noncomputable def bodyE : Code := bodyAt Try.prog 48 0
def kbE : Option ABlk := some ⟨#[.func (.func 64) #[] #[], .func (.func 65) #[] #[], .func (.func 66) #[] #[], .func (.func 67) #[] #[], .func (.func 68) #[] #[]], 75, 0, true⟩
def jkE (g : Nat → Option ABlk) (k : Nat) : List (Option ABlk) := match k with
  | 0 => []
  | k + 1 => (List.range (3 * k + 2)).map g
def rgE (F : Nat → Nat) (k : Nat) : List (Option ABlk) := match k with
  | 0 => []
  | k + 1 => [some ⟨((List.range (k + 1)).flatMap fun i => fC (F i)).toArray, 30, 1, true⟩]
def rvE (k : Nat) : Value := match k with
  | 0 => .slice none 0 0
  | k + 1 => .slice (some ⟨6 + (3 * k + 2), 0, none⟩) (k + 1) (k + 1)
def hpE (bs : List (Option ABlk)) (N M k : Nat) (F : Nat → Nat) (g : Nat → Option ABlk) : List (Option ABlk) := bs ++ [kbE, tbE N M] ++ jkE g k ++ rgE F k
def tmE (x rv : Value) (M : Nat) (k : Nat) (j : Nat → Value) : List Value := (List.range 135).map fun i =>
  if i = 2 then x else if i = 3 then .pointer (some ⟨4, 0, none⟩) else if i = 4 then .pointer (some ⟨5, 0, none⟩) else if i = 7 then rv else if i = 13 then .slice (some ⟨0, 0, none⟩) M M else if i = 14 then .int .i64 M else if i = 15 then .int .i64 k else j i
/-- What counts, behind a round. -/
abbrev SlE := Nat × List Value × List (Option ABlk) × Nat × Option (Option ABlk)
def slE (tm : List Value) (H : AHeap) : SlE := (tm.length, [getT tm 2, getT tm 3, getT tm 4, getT tm 7, getT tm 13, getT tm 14, getT tm 15], H.toList.take 6, H.toList.length, H.toList.getLast?)
def outE (b0 b1 b2 b3 : Option ABlk) (x : Value) (N M k : Nat) (F : Nat → Nat) (v : Nat) : SlE :=
  (135, [x, .pointer (some ⟨4, 0, none⟩), .pointer (some ⟨5, 0, none⟩), rvE (k + 1), .slice (some ⟨0, 0, none⟩) M M, .int .i64 M, .int .i64 (Int.ofNat (k + 1))], [b0, b1, b2, b3, kbE, tbE N M], 6 + (3 * k + 2) + 1,
    some (some ⟨(((List.range k).flatMap fun i => fC (F i)) ++ fC v).toArray, 30, 1, true⟩))
noncomputable def runE (b0 b1 b2 b3 : Option ABlk) (N M k : Nat) (x : Value) (F : Nat → Nat) (g : Nat → Option ABlk) (j : Nat → Value) (s : List Ans) : Option (AExit × SlE × List Obl × List LpO) :=
  (rndT askTe lssC bodyE (tmE x (rvE k) M k j) (hpE [b0, b1, b2, b3] N M k F g).toArray s []).map fun r => (r.1, slE r.2.1 r.2.2.1, r.2.2.2)
def RdBin (k : Nat) (K : Int) : Prop := ∀ (b0 b1 b2 b3 : Option ABlk) (N M : Nat) (A B : Int) (C fa fb : Nat) (x : Value) (po pa pb : Addr) (F : Nat → Nat) (g : Nat → Option ABlk) (j : Nat → Value),
  runE b0 b1 b2 b3 N M k x F g j [yes true, pAnsT po, vAns (opV K A B C), pAnsT pa, vAns (.float .f64 fa), pAnsT pb, vAns (.float .f64 fb)] =
    some (.normal, outE b0 b1 b2 b3 x N M k F (fop (opKd K) .f64 fa fb), lgE (hpE [b0, b1, b2, b3] N M k F g) M k po (opV K A B C) ++ lgR (hpE [b0, b1, b2, b3] N M k F g ++ [obE K A B C]) (rvE k) A pa fa ++ lgR (hpE [b0, b1, b2, b3] N M k F g ++ [obE K A B C]) (rvE k) B pb fb, [])
def RdCon (k : Nat) : Prop := ∀ (b0 b1 b2 b3 : Option ABlk) (N M : Nat) (A B : Int) (C : Nat) (x : Value) (po : Addr) (F : Nat → Nat) (g : Nat → Option ABlk) (j : Nat → Value),
  runE b0 b1 b2 b3 N M k x F g j [yes true, pAnsT po, vAns (opV 0 A B C)] = some (.normal, outE b0 b1 b2 b3 x N M k F C, lgE (hpE [b0, b1, b2, b3] N M k F g) M k po (opV 0 A B C), [])
def RdVar (k : Nat) : Prop := ∀ (b0 b1 b2 b3 : Option ABlk) (N M : Nat) (A B : Int) (C fa : Nat) (x : Value) (po pa : Addr) (F : Nat → Nat) (g : Nat → Option ABlk) (j : Nat → Value),
  runE b0 b1 b2 b3 N M k x F g j [yes true, pAnsT po, vAns (opV 1 A B C), pAnsT pa, vAns (.float .f64 fa)] = some (.normal, outE b0 b1 b2 b3 x N M k F fa, lgE (hpE [b0, b1, b2, b3] N M k F g) M k po (opV 1 A B C) ++ lgR (hpE [b0, b1, b2, b3] N M k F g ++ [obE 1 A B C]) x A pa fa, [])

theorem rdCon_0 : RdCon 0 := fun _ _ _ _ _ _ _ _ _ _ _ _ _ _ => by kernel_rfl
theorem rdVar_0 : RdVar 0 := fun _ _ _ _ _ _ _ _ _ _ _ _ _ _ _ _ => by kernel_rfl
theorem rdCon_1 : RdCon 1 := fun _ _ _ _ _ _ _ _ _ _ _ _ _ _ => by kernel_rfl
theorem rdVar_1 : RdVar 1 := fun _ _ _ _ _ _ _ _ _ _ _ _ _ _ _ _ => by kernel_rfl
theorem rdBin_1_2 : RdBin 1 2 := fun _ _ _ _ _ _ _ _ _ _ _ _ _ _ _ _ _ _ => by kernel_rfl
theorem rdBin_1_3 : RdBin 1 3 := fun _ _ _ _ _ _ _ _ _ _ _ _ _ _ _ _ _ _ => by kernel_rfl
theorem rdBin_1_4 : RdBin 1 4 := fun _ _ _ _ _ _ _ _ _ _ _ _ _ _ _ _ _ _ => by kernel_rfl
theorem rdBin_1_5 : RdBin 1 5 := fun _ _ _ _ _ _ _ _ _ _ _ _ _ _ _ _ _ _ => by kernel_rfl
theorem rdCon_2 : RdCon 2 := fun _ _ _ _ _ _ _ _ _ _ _ _ _ _ => by kernel_rfl
theorem rdVar_2 : RdVar 2 := fun _ _ _ _ _ _ _ _ _ _ _ _ _ _ _ _ => by kernel_rfl
theorem rdBin_2_2 : RdBin 2 2 := fun _ _ _ _ _ _ _ _ _ _ _ _ _ _ _ _ _ _ => by kernel_rfl
theorem rdBin_2_3 : RdBin 2 3 := fun _ _ _ _ _ _ _ _ _ _ _ _ _ _ _ _ _ _ => by kernel_rfl
theorem rdBin_2_4 : RdBin 2 4 := fun _ _ _ _ _ _ _ _ _ _ _ _ _ _ _ _ _ _ => by kernel_rfl
theorem rdBin_2_5 : RdBin 2 5 := fun _ _ _ _ _ _ _ _ _ _ _ _ _ _ _ _ _ _ => by kernel_rfl
theorem rdCon_3 : RdCon 3 := fun _ _ _ _ _ _ _ _ _ _ _ _ _ _ => by kernel_rfl
theorem rdVar_3 : RdVar 3 := fun _ _ _ _ _ _ _ _ _ _ _ _ _ _ _ _ => by kernel_rfl
theorem rdBin_3_2 : RdBin 3 2 := fun _ _ _ _ _ _ _ _ _ _ _ _ _ _ _ _ _ _ => by kernel_rfl
theorem rdBin_3_3 : RdBin 3 3 := fun _ _ _ _ _ _ _ _ _ _ _ _ _ _ _ _ _ _ => by kernel_rfl
theorem rdBin_3_4 : RdBin 3 4 := fun _ _ _ _ _ _ _ _ _ _ _ _ _ _ _ _ _ _ => by kernel_rfl
theorem rdBin_3_5 : RdBin 3 5 := fun _ _ _ _ _ _ _ _ _ _ _ _ _ _ _ _ _ _ => by kernel_rfl
theorem rdCon_4 : RdCon 4 := fun _ _ _ _ _ _ _ _ _ _ _ _ _ _ => by kernel_rfl
theorem rdVar_4 : RdVar 4 := fun _ _ _ _ _ _ _ _ _ _ _ _ _ _ _ _ => by kernel_rfl
theorem rdBin_4_2 : RdBin 4 2 := fun _ _ _ _ _ _ _ _ _ _ _ _ _ _ _ _ _ _ => by kernel_rfl
theorem rdBin_4_3 : RdBin 4 3 := fun _ _ _ _ _ _ _ _ _ _ _ _ _ _ _ _ _ _ => by kernel_rfl
theorem rdBin_4_4 : RdBin 4 4 := fun _ _ _ _ _ _ _ _ _ _ _ _ _ _ _ _ _ _ => by kernel_rfl
theorem rdBin_4_5 : RdBin 4 5 := fun _ _ _ _ _ _ _ _ _ _ _ _ _ _ _ _ _ _ => by kernel_rfl
theorem rdCon_5 : RdCon 5 := fun _ _ _ _ _ _ _ _ _ _ _ _ _ _ => by kernel_rfl
theorem rdVar_5 : RdVar 5 := fun _ _ _ _ _ _ _ _ _ _ _ _ _ _ _ _ => by kernel_rfl
theorem rdBin_5_2 : RdBin 5 2 := fun _ _ _ _ _ _ _ _ _ _ _ _ _ _ _ _ _ _ => by kernel_rfl
theorem rdBin_5_3 : RdBin 5 3 := fun _ _ _ _ _ _ _ _ _ _ _ _ _ _ _ _ _ _ => by kernel_rfl
theorem rdBin_5_4 : RdBin 5 4 := fun _ _ _ _ _ _ _ _ _ _ _ _ _ _ _ _ _ _ => by kernel_rfl
theorem rdBin_5_5 : RdBin 5 5 := fun _ _ _ _ _ _ _ _ _ _ _ _ _ _ _ _ _ _ => by kernel_rfl
theorem rdCon_6 : RdCon 6 := fun _ _ _ _ _ _ _ _ _ _ _ _ _ _ => by kernel_rfl
theorem rdVar_6 : RdVar 6 := fun _ _ _ _ _ _ _ _ _ _ _ _ _ _ _ _ => by kernel_rfl
theorem rdBin_6_2 : RdBin 6 2 := fun _ _ _ _ _ _ _ _ _ _ _ _ _ _ _ _ _ _ => by kernel_rfl
theorem rdBin_6_3 : RdBin 6 3 := fun _ _ _ _ _ _ _ _ _ _ _ _ _ _ _ _ _ _ => by kernel_rfl
theorem rdBin_6_4 : RdBin 6 4 := fun _ _ _ _ _ _ _ _ _ _ _ _ _ _ _ _ _ _ => by kernel_rfl
theorem rdBin_6_5 : RdBin 6 5 := fun _ _ _ _ _ _ _ _ _ _ _ _ _ _ _ _ _ _ => by kernel_rfl
theorem rdCon_7 : RdCon 7 := fun _ _ _ _ _ _ _ _ _ _ _ _ _ _ => by kernel_rfl
theorem rdVar_7 : RdVar 7 := fun _ _ _ _ _ _ _ _ _ _ _ _ _ _ _ _ => by kernel_rfl
theorem rdBin_7_2 : RdBin 7 2 := fun _ _ _ _ _ _ _ _ _ _ _ _ _ _ _ _ _ _ => by kernel_rfl
theorem rdBin_7_3 : RdBin 7 3 := fun _ _ _ _ _ _ _ _ _ _ _ _ _ _ _ _ _ _ => by kernel_rfl
theorem rdBin_7_4 : RdBin 7 4 := fun _ _ _ _ _ _ _ _ _ _ _ _ _ _ _ _ _ _ => by kernel_rfl
theorem rdBin_7_5 : RdBin 7 5 := fun _ _ _ _ _ _ _ _ _ _ _ _ _ _ _ _ _ _ => by kernel_rfl
theorem rdCon_8 : RdCon 8 := fun _ _ _ _ _ _ _ _ _ _ _ _ _ _ => by kernel_rfl
theorem rdVar_8 : RdVar 8 := fun _ _ _ _ _ _ _ _ _ _ _ _ _ _ _ _ => by kernel_rfl
theorem rdBin_8_2 : RdBin 8 2 := fun _ _ _ _ _ _ _ _ _ _ _ _ _ _ _ _ _ _ => by kernel_rfl
theorem rdBin_8_3 : RdBin 8 3 := fun _ _ _ _ _ _ _ _ _ _ _ _ _ _ _ _ _ _ => by kernel_rfl
theorem rdBin_8_4 : RdBin 8 4 := fun _ _ _ _ _ _ _ _ _ _ _ _ _ _ _ _ _ _ => by kernel_rfl
theorem rdBin_8_5 : RdBin 8 5 := fun _ _ _ _ _ _ _ _ _ _ _ _ _ _ _ _ _ _ => by kernel_rfl
theorem rdCon_9 : RdCon 9 := fun _ _ _ _ _ _ _ _ _ _ _ _ _ _ => by kernel_rfl
theorem rdVar_9 : RdVar 9 := fun _ _ _ _ _ _ _ _ _ _ _ _ _ _ _ _ => by kernel_rfl
theorem rdBin_9_2 : RdBin 9 2 := fun _ _ _ _ _ _ _ _ _ _ _ _ _ _ _ _ _ _ => by kernel_rfl
theorem rdBin_9_3 : RdBin 9 3 := fun _ _ _ _ _ _ _ _ _ _ _ _ _ _ _ _ _ _ => by kernel_rfl
theorem rdBin_9_4 : RdBin 9 4 := fun _ _ _ _ _ _ _ _ _ _ _ _ _ _ _ _ _ _ => by kernel_rfl
theorem rdBin_9_5 : RdBin 9 5 := fun _ _ _ _ _ _ _ _ _ _ _ _ _ _ _ _ _ _ => by kernel_rfl
theorem rdCon_10 : RdCon 10 := fun _ _ _ _ _ _ _ _ _ _ _ _ _ _ => by kernel_rfl
theorem rdVar_10 : RdVar 10 := fun _ _ _ _ _ _ _ _ _ _ _ _ _ _ _ _ => by kernel_rfl
theorem rdBin_10_2 : RdBin 10 2 := fun _ _ _ _ _ _ _ _ _ _ _ _ _ _ _ _ _ _ => by kernel_rfl
theorem rdBin_10_3 : RdBin 10 3 := fun _ _ _ _ _ _ _ _ _ _ _ _ _ _ _ _ _ _ => by kernel_rfl
theorem rdBin_10_4 : RdBin 10 4 := fun _ _ _ _ _ _ _ _ _ _ _ _ _ _ _ _ _ _ => by kernel_rfl
theorem rdBin_10_5 : RdBin 10 5 := fun _ _ _ _ _ _ _ _ _ _ _ _ _ _ _ _ _ _ => by kernel_rfl
theorem rdCon_11 : RdCon 11 := fun _ _ _ _ _ _ _ _ _ _ _ _ _ _ => by kernel_rfl
theorem rdVar_11 : RdVar 11 := fun _ _ _ _ _ _ _ _ _ _ _ _ _ _ _ _ => by kernel_rfl
theorem rdBin_11_2 : RdBin 11 2 := fun _ _ _ _ _ _ _ _ _ _ _ _ _ _ _ _ _ _ => by kernel_rfl
theorem rdBin_11_3 : RdBin 11 3 := fun _ _ _ _ _ _ _ _ _ _ _ _ _ _ _ _ _ _ => by kernel_rfl
theorem rdBin_11_4 : RdBin 11 4 := fun _ _ _ _ _ _ _ _ _ _ _ _ _ _ _ _ _ _ => by kernel_rfl
theorem rdBin_11_5 : RdBin 11 5 := fun _ _ _ _ _ _ _ _ _ _ _ _ _ _ _ _ _ _ => by kernel_rfl
theorem rdCon_12 : RdCon 12 := fun _ _ _ _ _ _ _ _ _ _ _ _ _ _ => by kernel_rfl
theorem rdVar_12 : RdVar 12 := fun _ _ _ _ _ _ _ _ _ _ _ _ _ _ _ _ => by kernel_rfl
theorem rdBin_12_2 : RdBin 12 2 := fun _ _ _ _ _ _ _ _ _ _ _ _ _ _ _ _ _ _ => by kernel_rfl
theorem rdBin_12_3 : RdBin 12 3 := fun _ _ _ _ _ _ _ _ _ _ _ _ _ _ _ _ _ _ => by kernel_rfl
theorem rdBin_12_4 : RdBin 12 4 := fun _ _ _ _ _ _ _ _ _ _ _ _ _ _ _ _ _ _ => by kernel_rfl
theorem rdBin_12_5 : RdBin 12 5 := fun _ _ _ _ _ _ _ _ _ _ _ _ _ _ _ _ _ _ => by kernel_rfl
theorem rdCon_13 : RdCon 13 := fun _ _ _ _ _ _ _ _ _ _ _ _ _ _ => by kernel_rfl
theorem rdVar_13 : RdVar 13 := fun _ _ _ _ _ _ _ _ _ _ _ _ _ _ _ _ => by kernel_rfl
theorem rdBin_13_2 : RdBin 13 2 := fun _ _ _ _ _ _ _ _ _ _ _ _ _ _ _ _ _ _ => by kernel_rfl
theorem rdBin_13_3 : RdBin 13 3 := fun _ _ _ _ _ _ _ _ _ _ _ _ _ _ _ _ _ _ => by kernel_rfl
theorem rdBin_13_4 : RdBin 13 4 := fun _ _ _ _ _ _ _ _ _ _ _ _ _ _ _ _ _ _ => by kernel_rfl
theorem rdBin_13_5 : RdBin 13 5 := fun _ _ _ _ _ _ _ _ _ _ _ _ _ _ _ _ _ _ => by kernel_rfl
theorem rdCon_14 : RdCon 14 := fun _ _ _ _ _ _ _ _ _ _ _ _ _ _ => by kernel_rfl
theorem rdVar_14 : RdVar 14 := fun _ _ _ _ _ _ _ _ _ _ _ _ _ _ _ _ => by kernel_rfl
theorem rdBin_14_2 : RdBin 14 2 := fun _ _ _ _ _ _ _ _ _ _ _ _ _ _ _ _ _ _ => by kernel_rfl
theorem rdBin_14_3 : RdBin 14 3 := fun _ _ _ _ _ _ _ _ _ _ _ _ _ _ _ _ _ _ => by kernel_rfl
theorem rdBin_14_4 : RdBin 14 4 := fun _ _ _ _ _ _ _ _ _ _ _ _ _ _ _ _ _ _ => by kernel_rfl
theorem rdBin_14_5 : RdBin 14 5 := fun _ _ _ _ _ _ _ _ _ _ _ _ _ _ _ _ _ _ => by kernel_rfl
theorem rdCon_15 : RdCon 15 := fun _ _ _ _ _ _ _ _ _ _ _ _ _ _ => by kernel_rfl
theorem rdVar_15 : RdVar 15 := fun _ _ _ _ _ _ _ _ _ _ _ _ _ _ _ _ => by kernel_rfl
theorem rdBin_15_2 : RdBin 15 2 := fun _ _ _ _ _ _ _ _ _ _ _ _ _ _ _ _ _ _ => by kernel_rfl
theorem rdBin_15_3 : RdBin 15 3 := fun _ _ _ _ _ _ _ _ _ _ _ _ _ _ _ _ _ _ => by kernel_rfl
theorem rdBin_15_4 : RdBin 15 4 := fun _ _ _ _ _ _ _ _ _ _ _ _ _ _ _ _ _ _ => by kernel_rfl
theorem rdBin_15_5 : RdBin 15 5 := fun _ _ _ _ _ _ _ _ _ _ _ _ _ _ _ _ _ _ => by kernel_rfl
theorem rdCon_16 : RdCon 16 := fun _ _ _ _ _ _ _ _ _ _ _ _ _ _ => by kernel_rfl
theorem rdVar_16 : RdVar 16 := fun _ _ _ _ _ _ _ _ _ _ _ _ _ _ _ _ => by kernel_rfl
theorem rdBin_16_2 : RdBin 16 2 := fun _ _ _ _ _ _ _ _ _ _ _ _ _ _ _ _ _ _ => by kernel_rfl
theorem rdBin_16_3 : RdBin 16 3 := fun _ _ _ _ _ _ _ _ _ _ _ _ _ _ _ _ _ _ => by kernel_rfl
theorem rdBin_16_4 : RdBin 16 4 := fun _ _ _ _ _ _ _ _ _ _ _ _ _ _ _ _ _ _ => by kernel_rfl
theorem rdBin_16_5 : RdBin 16 5 := fun _ _ _ _ _ _ _ _ _ _ _ _ _ _ _ _ _ _ => by kernel_rfl
theorem rdCon_17 : RdCon 17 := fun _ _ _ _ _ _ _ _ _ _ _ _ _ _ => by kernel_rfl
theorem rdVar_17 : RdVar 17 := fun _ _ _ _ _ _ _ _ _ _ _ _ _ _ _ _ => by kernel_rfl
theorem rdBin_17_2 : RdBin 17 2 := fun _ _ _ _ _ _ _ _ _ _ _ _ _ _ _ _ _ _ => by kernel_rfl
theorem rdBin_17_3 : RdBin 17 3 := fun _ _ _ _ _ _ _ _ _ _ _ _ _ _ _ _ _ _ => by kernel_rfl
theorem rdBin_17_4 : RdBin 17 4 := fun _ _ _ _ _ _ _ _ _ _ _ _ _ _ _ _ _ _ => by kernel_rfl
theorem rdBin_17_5 : RdBin 17 5 := fun _ _ _ _ _ _ _ _ _ _ _ _ _ _ _ _ _ _ => by kernel_rfl
theorem rdCon_18 : RdCon 18 := fun _ _ _ _ _ _ _ _ _ _ _ _ _ _ => by kernel_rfl
theorem rdVar_18 : RdVar 18 := fun _ _ _ _ _ _ _ _ _ _ _ _ _ _ _ _ => by kernel_rfl
theorem rdBin_18_2 : RdBin 18 2 := fun _ _ _ _ _ _ _ _ _ _ _ _ _ _ _ _ _ _ => by kernel_rfl
theorem rdBin_18_3 : RdBin 18 3 := fun _ _ _ _ _ _ _ _ _ _ _ _ _ _ _ _ _ _ => by kernel_rfl
theorem rdBin_18_4 : RdBin 18 4 := fun _ _ _ _ _ _ _ _ _ _ _ _ _ _ _ _ _ _ => by kernel_rfl
theorem rdBin_18_5 : RdBin 18 5 := fun _ _ _ _ _ _ _ _ _ _ _ _ _ _ _ _ _ _ => by kernel_rfl
theorem rdCon_19 : RdCon 19 := fun _ _ _ _ _ _ _ _ _ _ _ _ _ _ => by kernel_rfl
theorem rdVar_19 : RdVar 19 := fun _ _ _ _ _ _ _ _ _ _ _ _ _ _ _ _ => by kernel_rfl
theorem rdBin_19_2 : RdBin 19 2 := fun _ _ _ _ _ _ _ _ _ _ _ _ _ _ _ _ _ _ => by kernel_rfl
theorem rdBin_19_3 : RdBin 19 3 := fun _ _ _ _ _ _ _ _ _ _ _ _ _ _ _ _ _ _ => by kernel_rfl
theorem rdBin_19_4 : RdBin 19 4 := fun _ _ _ _ _ _ _ _ _ _ _ _ _ _ _ _ _ _ => by kernel_rfl
theorem rdBin_19_5 : RdBin 19 5 := fun _ _ _ _ _ _ _ _ _ _ _ _ _ _ _ _ _ _ => by kernel_rfl
theorem rdCon_20 : RdCon 20 := fun _ _ _ _ _ _ _ _ _ _ _ _ _ _ => by kernel_rfl
theorem rdVar_20 : RdVar 20 := fun _ _ _ _ _ _ _ _ _ _ _ _ _ _ _ _ => by kernel_rfl
theorem rdBin_20_2 : RdBin 20 2 := fun _ _ _ _ _ _ _ _ _ _ _ _ _ _ _ _ _ _ => by kernel_rfl
theorem rdBin_20_3 : RdBin 20 3 := fun _ _ _ _ _ _ _ _ _ _ _ _ _ _ _ _ _ _ => by kernel_rfl
theorem rdBin_20_4 : RdBin 20 4 := fun _ _ _ _ _ _ _ _ _ _ _ _ _ _ _ _ _ _ => by kernel_rfl
theorem rdBin_20_5 : RdBin 20 5 := fun _ _ _ _ _ _ _ _ _ _ _ _ _ _ _ _ _ _ => by kernel_rfl

end Go.Proofs.Ytpmdpbljgidllaa
