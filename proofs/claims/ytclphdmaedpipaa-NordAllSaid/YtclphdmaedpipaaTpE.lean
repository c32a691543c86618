/- TpE / TpF / TpG / TpH: several texts in one. -/
import Derived.Test.YtclphdmaedpipaaTpC
import Derived.Test.YtclphdmaedpipaaSlices
/-!  tape.Eval, round by round: the state before a round, and what a round makes of it. -/
namespace Go.Proofs.Ytclphdmaedpipaa
open Go
set_option linter.unusedVariables false
set_option linter.unusedSimpArgs false
set_option maxRecDepth 100000

/-- tape.Eval's slots that are asked for: the operation that is next; registers, numbers, by an operation's own numbers. -/
noncomputable def askTe (g : FuncId) : Nat := if g == 1000017 || g == 1000018 || g == 1000037 || g == 1000038 || g == 1000049 || g == 1000050 || g == 1000054 || g == 1000055 || g == 1000067 || g == 1000068 || g == 1000072 || g == 1000073 || g == 1000085 || g == 1000086 || g == 1000090 || g == 1000091 || g == 1000103 || g == 1000104 || g == 1000108 || g == 1000109 || g == 1000129 || g == 1000130 || g == 1000131 then 7 else 0
noncomputable def bodyE : Code := bodyAt Try.prog 57 0
def kbE : Option ABlk := some ⟨#[.func (.func 61) #[] #[], .func (.func 62) #[] #[], .func (.func 63) #[] #[], .func (.func 64) #[] #[], .func (.func 65) #[] #[]], 83, 0, true⟩
def jkE (g : Nat → Option ABlk) (k : Nat) : List (Option ABlk) := match k with
  | 0 => []
  | k + 1 => (List.range (3 * k + 2)).map g
def rgE (F : Nat → Nat) (k : Nat) : List (Option ABlk) := match k with
  | 0 => []
  | k + 1 => [some ⟨((List.range (k + 1)).flatMap fun i => fC (F i)).toArray, 28, 1, true⟩]
def rvE (k : Nat) : Value := match k with
  | 0 => .slice none 0 0
  | k + 1 => .slice (some ⟨6 + (3 * k + 2), 0, none⟩) (k + 1) (k + 1)
def hpE (bs : List (Option ABlk)) (N M k : Nat) (F : Nat → Nat) (g : Nat → Option ABlk) : List (Option ABlk) := bs ++ [kbE, tbE N M] ++ jkE g k ++ rgE F k
def tmE (x rv : Value) (M : Nat) (k : Nat) (j : Nat → Value) : List Value := (List.range 135).map fun i =>
  if i = 2 then x else if i = 3 then .pointer (some ⟨4, 0, none⟩) else if i = 4 then .pointer (some ⟨5, 0, none⟩) else if i = 7 then rv else if i = 13 then .slice (some ⟨0, 0, none⟩) M M else if i = 14 then .int .i64 M else if i = 15 then .int .i64 k else j i
/-- What counts, behind a round. -/
abbrev SlE := Nat × List Value × List (Option ABlk) × Nat × Option (Option ABlk)
def slE (tm : List Value) (H : AHeap) : SlE := (tm.length, [getT tm 2, getT tm 3, getT tm 4, getT tm 7, getT tm 13, getT tm 14, getT tm 15], H.toList.take 6, H.toList.length, H.toList.getLast?)
def outE (b0 b1 b2 b3 : Option ABlk) (x : Value) (N M k : Nat) (F : Nat → Nat) (v : Nat) : SlE :=
  (135, [x, .pointer (some ⟨4, 0, none⟩), .pointer (some ⟨5, 0, none⟩), rvE (k + 1), .slice (some ⟨0, 0, none⟩) M M, .int .i64 M, .int .i64 (Int.ofNat (k + 1))], [b0, b1, b2, b3, kbE, tbE N M], 6 + (3 * k + 2) + 1,
    some (some ⟨(((List.range k).flatMap fun i => fC (F i)) ++ fC v).toArray, 28, 1, true⟩))
noncomputable def runE (b0 b1 b2 b3 : Option ABlk) (N M k : Nat) (x : Value) (F : Nat → Nat) (g : Nat → Option ABlk) (j : Nat → Value) (s : List Ans) : Option (AExit × SlE × List Obl × List LpO) :=
  (rndT askTe lssC bodyE (tmE x (rvE k) M k j) (hpE [b0, b1, b2, b3] N M k F g).toArray s []).map fun r => (r.1, slE r.2.1 r.2.2.1, r.2.2.2)
def RdBin (k : Nat) (K : Int) : Prop := ∀ (b0 b1 b2 b3 : Option ABlk) (N M : Nat) (A B : Int) (C fa fb : Nat) (x : Value) (po pa pb : Addr) (F : Nat → Nat) (g : Nat → Option ABlk) (j : Nat → Value),
  runE b0 b1 b2 b3 N M k x F g j [yes true, pAnsT po, vAns (opV K A B C), pAnsT pa, vAns (.float .f64 fa), pAnsT pb, vAns (.float .f64 fb)] =
    some (.normal, outE b0 b1 b2 b3 x N M k F (fop (opKd K) .f64 fa fb), lgE (hpE [b0, b1, b2, b3] N M k F g) M k po (opV K A B C) ++ lgR (hpE [b0, b1, b2, b3] N M k F g ++ [obE K A B C]) (rvE k) A pa fa ++ lgR (hpE [b0, b1, b2, b3] N M k F g ++ [obE K A B C]) (rvE k) B pb fb, [])
def RdCon (k : Nat) : Prop := ∀ (b0 b1 b2 b3 : Option ABlk) (N M : Nat) (A B : Int) (C : Nat) (x : Value) (po : Addr) (F : Nat → Nat) (g : Nat → Option ABlk) (j : Nat → Value),
  runE b0 b1 b2 b3 N M k x F g j [yes true, pAnsT po, vAns (opV 0 A B C)] = some (.normal, outE b0 b1 b2 b3 x N M k F C, lgE (hpE [b0, b1, b2, b3] N M k F g) M k po (opV 0 A B C), [])
def RdVar (k : Nat) : Prop := ∀ (b0 b1 b2 b3 : Option ABlk) (N M : Nat) (A B : Int) (C fa : Nat) (x : Value) (po pa : Addr) (F : Nat → Nat) (g : Nat → Option ABlk) (j : Nat → Value),
  runE b0 b1 b2 b3 N M k x F g j [yes true, pAnsT po, vAns (opV 1 A B C), pAnsT pa, vAns (.float .f64 fa)] = some (.normal, outE b0 b1 b2 b3 x N M k F fa, lgE (hpE [b0, b1, b2, b3] N M k F g) M k po (opV 1 A B C) ++ lgR (hpE [b0, b1, b2, b3] N M k F g ++ [obE 1 A B C]) x A pa fa, [])

theorem rdCon_0 : RdCon 0 := fun _ _ _ _ _ _ _ _ _ _ _ _ _ _ => by kernel_rfl
theorem rdVar_0 : RdVar 0 := fun _ _ _ _ _ _ _ _ _ _ _ _ _ _ _ _ => by kernel_rfl
theorem rdCon_1 : RdCon 1 := fun _ _ _ _ _ _ _ _ _ _ _ _ _ _ => by kernel_rfl
theorem rdVar_1 : RdVar 1 := fun _ _ _ _ _ _ _ _ _ _ _ _ _ _ _ _ => by kernel_rfl
theorem rdBin_1_2 : RdBin 1 2 := fun _ _ _ _ _ _ _ _ _ _ _ _ _ _ _ _ _ _ => by kernel_rfl
theorem rdBin_1_3 : RdBin 1 3 := fun _ _ _ _ _ _ _ _ _ _ _ _ _ _ _ _ _ _ => by kernel_rfl
theorem rdBin_1_4 : RdBin 1 4 := fun _ _ _ _ _ _ _ _ _ _ _ _ _ _ _ _ _ _ => by kernel_rfl
theorem rdBin_1_5 : RdBin 1 5 := fun _ _ _ _ _ _ _ _ _ _ _ _ _ _ _ _ _ _ => by kernel_rfl
theorem rdCon_2 : RdCon 2 := fun _ _ _ _ _ _ _ _ _ _ _ _ _ _ => by kernel_rfl
theorem rdVar_2 : RdVar 2 := fun _ _ _ _ _ _ _ _ _ _ _ _ _ _ _ _ => by kernel_rfl
theorem rdBin_2_2 : RdBin 2 2 := fun _ _ _ _ _ _ _ _ _ _ _ _ _ _ _ _ _ _ => by kernel_rfl
theorem rdBin_2_3 : RdBin 2 3 := fun _ _ _ _ _ _ _ _ _ _ _ _ _ _ _ _ _ _ => by kernel_rfl
theorem rdBin_2_4 : RdBin 2 4 := fun _ _ _ _ _ _ _ _ _ _ _ _ _ _ _ _ _ _ => by kernel_rfl
theorem rdBin_2_5 : RdBin 2 5 := fun _ _ _ _ _ _ _ _ _ _ _ _ _ _ _ _ _ _ => by kernel_rfl
theorem rdCon_3 : RdCon 3 := fun _ _ _ _ _ _ _ _ _ _ _ _ _ _ => by kernel_rfl
theorem rdVar_3 : RdVar 3 := fun _ _ _ _ _ _ _ _ _ _ _ _ _ _ _ _ => by kernel_rfl
theorem rdBin_3_2 : RdBin 3 2 := fun _ _ _ _ _ _ _ _ _ _ _ _ _ _ _ _ _ _ => by kernel_rfl
theorem rdBin_3_3 : RdBin 3 3 := fun _ _ _ _ _ _ _ _ _ _ _ _ _ _ _ _ _ _ => by kernel_rfl
theorem rdBin_3_4 : RdBin 3 4 := fun _ _ _ _ _ _ _ _ _ _ _ _ _ _ _ _ _ _ => by kernel_rfl
theorem rdBin_3_5 : RdBin 3 5 := fun _ _ _ _ _ _ _ _ _ _ _ _ _ _ _ _ _ _ => by kernel_rfl
theorem rdCon_4 : RdCon 4 := fun _ _ _ _ _ _ _ _ _ _ _ _ _ _ => by kernel_rfl
theorem rdVar_4 : RdVar 4 := fun _ _ _ _ _ _ _ _ _ _ _ _ _ _ _ _ => by kernel_rfl
theorem rdBin_4_2 : RdBin 4 2 := fun _ _ _ _ _ _ _ _ _ _ _ _ _ _ _ _ _ _ => by kernel_rfl
theorem rdBin_4_3 : RdBin 4 3 := fun _ _ _ _ _ _ _ _ _ _ _ _ _ _ _ _ _ _ => by kernel_rfl
theorem rdBin_4_4 : RdBin 4 4 := fun _ _ _ _ _ _ _ _ _ _ _ _ _ _ _ _ _ _ => by kernel_rfl
theorem rdBin_4_5 : RdBin 4 5 := fun _ _ _ _ _ _ _ _ _ _ _ _ _ _ _ _ _ _ => by kernel_rfl
theorem rdCon_5 : RdCon 5 := fun _ _ _ _ _ _ _ _ _ _ _ _ _ _ => by kernel_rfl
theorem rdVar_5 : RdVar 5 := fun _ _ _ _ _ _ _ _ _ _ _ _ _ _ _ _ => by kernel_rfl
theorem rdBin_5_2 : RdBin 5 2 := fun _ _ _ _ _ _ _ _ _ _ _ _ _ _ _ _ _ _ => by kernel_rfl
theorem rdBin_5_3 : RdBin 5 3 := fun _ _ _ _ _ _ _ _ _ _ _ _ _ _ _ _ _ _ => by kernel_rfl
theorem rdBin_5_4 : RdBin 5 4 := fun _ _ _ _ _ _ _ _ _ _ _ _ _ _ _ _ _ _ => by kernel_rfl
theorem rdBin_5_5 : RdBin 5 5 := fun _ _ _ _ _ _ _ _ _ _ _ _ _ _ _ _ _ _ => by kernel_rfl
theorem rdCon_6 : RdCon 6 := fun _ _ _ _ _ _ _ _ _ _ _ _ _ _ => by kernel_rfl
theorem rdVar_6 : RdVar 6 := fun _ _ _ _ _ _ _ _ _ _ _ _ _ _ _ _ => by kernel_rfl
theorem rdBin_6_2 : RdBin 6 2 := fun _ _ _ _ _ _ _ _ _ _ _ _ _ _ _ _ _ _ => by kernel_rfl
theorem rdBin_6_3 : RdBin 6 3 := fun _ _ _ _ _ _ _ _ _ _ _ _ _ _ _ _ _ _ => by kernel_rfl
theorem rdBin_6_4 : RdBin 6 4 := fun _ _ _ _ _ _ _ _ _ _ _ _ _ _ _ _ _ _ => by kernel_rfl
theorem rdBin_6_5 : RdBin 6 5 := fun _ _ _ _ _ _ _ _ _ _ _ _ _ _ _ _ _ _ => by kernel_rfl
theorem rdCon_7 : RdCon 7 := fun _ _ _ _ _ _ _ _ _ _ _ _ _ _ => by kernel_rfl
theorem rdVar_7 : RdVar 7 := fun _ _ _ _ _ _ _ _ _ _ _ _ _ _ _ _ => by kernel_rfl
theorem rdBin_7_2 : RdBin 7 2 := fun _ _ _ _ _ _ _ _ _ _ _ _ _ _ _ _ _ _ => by kernel_rfl
theorem rdBin_7_3 : RdBin 7 3 := fun _ _ _ _ _ _ _ _ _ _ _ _ _ _ _ _ _ _ => by kernel_rfl
theorem rdBin_7_4 : RdBin 7 4 := fun _ _ _ _ _ _ _ _ _ _ _ _ _ _ _ _ _ _ => by kernel_rfl
theorem rdBin_7_5 : RdBin 7 5 := fun _ _ _ _ _ _ _ _ _ _ _ _ _ _ _ _ _ _ => by kernel_rfl
theorem rdCon_8 : RdCon 8 := fun _ _ _ _ _ _ _ _ _ _ _ _ _ _ => by kernel_rfl
theorem rdVar_8 : RdVar 8 := fun _ _ _ _ _ _ _ _ _ _ _ _ _ _ _ _ => by kernel_rfl
theorem rdBin_8_2 : RdBin 8 2 := fun _ _ _ _ _ _ _ _ _ _ _ _ _ _ _ _ _ _ => by kernel_rfl
theorem rdBin_8_3 : RdBin 8 3 := fun _ _ _ _ _ _ _ _ _ _ _ _ _ _ _ _ _ _ => by kernel_rfl
theorem rdBin_8_4 : RdBin 8 4 := fun _ _ _ _ _ _ _ _ _ _ _ _ _ _ _ _ _ _ => by kernel_rfl
theorem rdBin_8_5 : RdBin 8 5 := fun _ _ _ _ _ _ _ _ _ _ _ _ _ _ _ _ _ _ => by kernel_rfl
theorem rdCon_9 : RdCon 9 := fun _ _ _ _ _ _ _ _ _ _ _ _ _ _ => by kernel_rfl
theorem rdVar_9 : RdVar 9 := fun _ _ _ _ _ _ _ _ _ _ _ _ _ _ _ _ => by kernel_rfl
theorem rdBin_9_2 : RdBin 9 2 := fun _ _ _ _ _ _ _ _ _ _ _ _ _ _ _ _ _ _ => by kernel_rfl
theorem rdBin_9_3 : RdBin 9 3 := fun _ _ _ _ _ _ _ _ _ _ _ _ _ _ _ _ _ _ => by kernel_rfl
theorem rdBin_9_4 : RdBin 9 4 := fun _ _ _ _ _ _ _ _ _ _ _ _ _ _ _ _ _ _ => by kernel_rfl
theorem rdBin_9_5 : RdBin 9 5 := fun _ _ _ _ _ _ _ _ _ _ _ _ _ _ _ _ _ _ => by kernel_rfl
theorem rdCon_10 : RdCon 10 := fun _ _ _ _ _ _ _ _ _ _ _ _ _ _ => by kernel_rfl
theorem rdVar_10 : RdVar 10 := fun _ _ _ _ _ _ _ _ _ _ _ _ _ _ _ _ => by kernel_rfl
theorem rdBin_10_2 : RdBin 10 2 := fun _ _ _ _ _ _ _ _ _ _ _ _ _ _ _ _ _ _ => by kernel_rfl
theorem rdBin_10_3 : RdBin 10 3 := fun _ _ _ _ _ _ _ _ _ _ _ _ _ _ _ _ _ _ => by kernel_rfl
theorem rdBin_10_4 : RdBin 10 4 := fun _ _ _ _ _ _ _ _ _ _ _ _ _ _ _ _ _ _ => by kernel_rfl
theorem rdBin_10_5 : RdBin 10 5 := fun _ _ _ _ _ _ _ _ _ _ _ _ _ _ _ _ _ _ => by kernel_rfl
theorem rdCon_11 : RdCon 11 := fun _ _ _ _ _ _ _ _ _ _ _ _ _ _ => by kernel_rfl
theorem rdVar_11 : RdVar 11 := fun _ _ _ _ _ _ _ _ _ _ _ _ _ _ _ _ => by kernel_rfl
theorem rdBin_11_2 : RdBin 11 2 := fun _ _ _ _ _ _ _ _ _ _ _ _ _ _ _ _ _ _ => by kernel_rfl
theorem rdBin_11_3 : RdBin 11 3 := fun _ _ _ _ _ _ _ _ _ _ _ _ _ _ _ _ _ _ => by kernel_rfl
theorem rdBin_11_4 : RdBin 11 4 := fun _ _ _ _ _ _ _ _ _ _ _ _ _ _ _ _ _ _ => by kernel_rfl
theorem rdBin_11_5 : RdBin 11 5 := fun _ _ _ _ _ _ _ _ _ _ _ _ _ _ _ _ _ _ => by kernel_rfl
theorem rdCon_12 : RdCon 12 := fun _ _ _ _ _ _ _ _ _ _ _ _ _ _ => by kernel_rfl
theorem rdVar_12 : RdVar 12 := fun _ _ _ _ _ _ _ _ _ _ _ _ _ _ _ _ => by kernel_rfl
theorem rdBin_12_2 : RdBin 12 2 := fun _ _ _ _ _ _ _ _ _ _ _ _ _ _ _ _ _ _ => by kernel_rfl
theorem rdBin_12_3 : RdBin 12 3 := fun _ _ _ _ _ _ _ _ _ _ _ _ _ _ _ _ _ _ => by kernel_rfl
theorem rdBin_12_4 : RdBin 12 4 := fun _ _ _ _ _ _ _ _ _ _ _ _ _ _ _ _ _ _ => by kernel_rfl
theorem rdBin_12_5 : RdBin 12 5 := fun _ _ _ _ _ _ _ _ _ _ _ _ _ _ _ _ _ _ => by kernel_rfl
theorem rdCon_13 : RdCon 13 := fun _ _ _ _ _ _ _ _ _ _ _ _ _ _ => by kernel_rfl
theorem rdVar_13 : RdVar 13 := fun _ _ _ _ _ _ _ _ _ _ _ _ _ _ _ _ => by kernel_rfl
theorem rdBin_13_2 : RdBin 13 2 := fun _ _ _ _ _ _ _ _ _ _ _ _ _ _ _ _ _ _ => by kernel_rfl
theorem rdBin_13_3 : RdBin 13 3 := fun _ _ _ _ _ _ _ _ _ _ _ _ _ _ _ _ _ _ => by kernel_rfl
theorem rdBin_13_4 : RdBin 13 4 := fun _ _ _ _ _ _ _ _ _ _ _ _ _ _ _ _ _ _ => by kernel_rfl
theorem rdBin_13_5 : RdBin 13 5 := fun _ _ _ _ _ _ _ _ _ _ _ _ _ _ _ _ _ _ => by kernel_rfl
theorem rdCon_14 : RdCon 14 := fun _ _ _ _ _ _ _ _ _ _ _ _ _ _ => by kernel_rfl
theorem rdVar_14 : RdVar 14 := fun _ _ _ _ _ _ _ _ _ _ _ _ _ _ _ _ => by kernel_rfl
theorem rdBin_14_2 : RdBin 14 2 := fun _ _ _ _ _ _ _ _ _ _ _ _ _ _ _ _ _ _ => by kernel_rfl
theorem rdBin_14_3 : RdBin 14 3 := fun _ _ _ _ _ _ _ _ _ _ _ _ _ _ _ _ _ _ => by kernel_rfl
theorem rdBin_14_4 : RdBin 14 4 := fun _ _ _ _ _ _ _ _ _ _ _ _ _ _ _ _ _ _ => by kernel_rfl
theorem rdBin_14_5 : RdBin 14 5 := fun _ _ _ _ _ _ _ _ _ _ _ _ _ _ _ _ _ _ => by kernel_rfl
theorem rdCon_15 : RdCon 15 := fun _ _ _ _ _ _ _ _ _ _ _ _ _ _ => by kernel_rfl
theorem rdVar_15 : RdVar 15 := fun _ _ _ _ _ _ _ _ _ _ _ _ _ _ _ _ => by kernel_rfl
theorem rdBin_15_2 : RdBin 15 2 := fun _ _ _ _ _ _ _ _ _ _ _ _ _ _ _ _ _ _ => by kernel_rfl
theorem rdBin_15_3 : RdBin 15 3 := fun _ _ _ _ _ _ _ _ _ _ _ _ _ _ _ _ _ _ => by kernel_rfl
theorem rdBin_15_4 : RdBin 15 4 := fun _ _ _ _ _ _ _ _ _ _ _ _ _ _ _ _ _ _ => by kernel_rfl
theorem rdBin_15_5 : RdBin 15 5 := fun _ _ _ _ _ _ _ _ _ _ _ _ _ _ _ _ _ _ => by kernel_rfl
theorem rdCon_16 : RdCon 16 := fun _ _ _ _ _ _ _ _ _ _ _ _ _ _ => by kernel_rfl
theorem rdVar_16 : RdVar 16 := fun _ _ _ _ _ _ _ _ _ _ _ _ _ _ _ _ => by kernel_rfl
theorem rdBin_16_2 : RdBin 16 2 := fun _ _ _ _ _ _ _ _ _ _ _ _ _ _ _ _ _ _ => by kernel_rfl
theorem rdBin_16_3 : RdBin 16 3 := fun _ _ _ _ _ _ _ _ _ _ _ _ _ _ _ _ _ _ => by kernel_rfl
theorem rdBin_16_4 : RdBin 16 4 := fun _ _ _ _ _ _ _ _ _ _ _ _ _ _ _ _ _ _ => by kernel_rfl
theorem rdBin_16_5 : RdBin 16 5 := fun _ _ _ _ _ _ _ _ _ _ _ _ _ _ _ _ _ _ => by kernel_rfl
theorem rdCon_17 : RdCon 17 := fun _ _ _ _ _ _ _ _ _ _ _ _ _ _ => by kernel_rfl
theorem rdVar_17 : RdVar 17 := fun _ _ _ _ _ _ _ _ _ _ _ _ _ _ _ _ => by kernel_rfl
theorem rdBin_17_2 : RdBin 17 2 := fun _ _ _ _ _ _ _ _ _ _ _ _ _ _ _ _ _ _ => by kernel_rfl
theorem rdBin_17_3 : RdBin 17 3 := fun _ _ _ _ _ _ _ _ _ _ _ _ _ _ _ _ _ _ => by kernel_rfl
theorem rdBin_17_4 : RdBin 17 4 := fun _ _ _ _ _ _ _ _ _ _ _ _ _ _ _ _ _ _ => by kernel_rfl
theorem rdBin_17_5 : RdBin 17 5 := fun _ _ _ _ _ _ _ _ _ _ _ _ _ _ _ _ _ _ => by kernel_rfl
theorem rdCon_18 : RdCon 18 := fun _ _ _ _ _ _ _ _ _ _ _ _ _ _ => by kernel_rfl
theorem rdVar_18 : RdVar 18 := fun _ _ _ _ _ _ _ _ _ _ _ _ _ _ _ _ => by kernel_rfl
theorem rdBin_18_2 : RdBin 18 2 := fun _ _ _ _ _ _ _ _ _ _ _ _ _ _ _ _ _ _ => by kernel_rfl
theorem rdBin_18_3 : RdBin 18 3 := fun _ _ _ _ _ _ _ _ _ _ _ _ _ _ _ _ _ _ => by kernel_rfl
theorem rdBin_18_4 : RdBin 18 4 := fun _ _ _ _ _ _ _ _ _ _ _ _ _ _ _ _ _ _ => by kernel_rfl
theorem rdBin_18_5 : RdBin 18 5 := fun _ _ _ _ _ _ _ _ _ _ _ _ _ _ _ _ _ _ => by kernel_rfl
theorem rdCon_19 : RdCon 19 := fun _ _ _ _ _ _ _ _ _ _ _ _ _ _ => by kernel_rfl
theorem rdVar_19 : RdVar 19 := fun _ _ _ _ _ _ _ _ _ _ _ _ _ _ _ _ => by kernel_rfl
theorem rdBin_19_2 : RdBin 19 2 := fun _ _ _ _ _ _ _ _ _ _ _ _ _ _ _ _ _ _ => by kernel_rfl
theorem rdBin_19_3 : RdBin 19 3 := fun _ _ _ _ _ _ _ _ _ _ _ _ _ _ _ _ _ _ => by kernel_rfl
theorem rdBin_19_4 : RdBin 19 4 := fun _ _ _ _ _ _ _ _ _ _ _ _ _ _ _ _ _ _ => by kernel_rfl
theorem rdBin_19_5 : RdBin 19 5 := fun _ _ _ _ _ _ _ _ _ _ _ _ _ _ _ _ _ _ => by kernel_rfl
theorem rdCon_20 : RdCon 20 := fun _ _ _ _ _ _ _ _ _ _ _ _ _ _ => by kernel_rfl
theorem rdVar_20 : RdVar 20 := fun _ _ _ _ _ _ _ _ _ _ _ _ _ _ _ _ => by kernel_rfl
theorem rdBin_20_2 : RdBin 20 2 := fun _ _ _ _ _ _ _ _ _ _ _ _ _ _ _ _ _ _ => by kernel_rfl
theorem rdBin_20_3 : RdBin 20 3 := fun _ _ _ _ _ _ _ _ _ _ _ _ _ _ _ _ _ _ => by kernel_rfl
theorem rdBin_20_4 : RdBin 20 4 := fun _ _ _ _ _ _ _ _ _ _ _ _ _ _ _ _ _ _ => by kernel_rfl
theorem rdBin_20_5 : RdBin 20 5 := fun _ _ _ _ _ _ _ _ _ _ _ _ _ _ _ _ _ _ => by kernel_rfl

end Go.Proofs.Ytclphdmaedpipaa

/-!  tape.Eval: the run about its rounds, at each number of variables, of operations. -/
namespace Go.Proofs.Ytclphdmaedpipaa
open Go
set_option linter.unusedVariables false
set_option linter.unusedSimpArgs false
set_option maxRecDepth 100000

def outBt (N i : Nat) (f : Nat → Nat) : Option ABlk := some ⟨((List.range N).flatMap fun n => fC (if n < i then f n else 0)).toArray, 28, 1, true⟩
noncomputable def lgO (H : List (Option ABlk)) (rv : Value) (N : Nat) (u : Nat → Int) (p : Nat → Addr) (f : Nat → Nat) : List Obl :=
  ((List.range N).flatMap fun i => [.cmp .lss 3 (.int .i64 (Int.ofNat i)) (.int .i64 (Int.ofNat N)) true, .ex (readVar Try.prog (H ++ [outBt N i f]).toArray 3 ⟨1, i, none⟩ = some (.int .i64 (u i))),
    .ex (indexAddrV Try.prog 30 rv (.int .i64 (u i)) = some (.pointer (some (p i)))), .ex (readVar Try.prog (H ++ [outBt N i f]).toArray 28 (p i) = some (.float .f64 (f i)))]) ++ [.cmp .lss 3 (.int .i64 (Int.ofNat N)) (.int .i64 (Int.ofNat N)) false]
def kindV : Value := .agg #[.func (.func 61) #[] #[], .func (.func 62) #[] #[], .func (.func 63) #[] #[], .func (.func 64) #[] #[], .func (.func 65) #[] #[]]
def j0E (N M : Nat) (i : Nat) : Value := if i = 0 then kindV else if i = 1 then tpV 0 1 N M else if i = 6 then .slice none 0 0 else if i = 12 then .pointer (some ⟨5, 1, none⟩) else undef
def FinE (N M : Nat) : Prop := ∀ (b0 b1 b2 b3 : Option ABlk) (x : Value) (F : Nat → Nat) (g : Nat → Option ABlk) (j : Nat → Value) (u : Nat → Int) (p : Nat → Addr) (f : Nat → Nat),
  (askT askTe lssC 57 #[kindV, tpV 0 1 N M, x] #[b0, b1, b2, b3] (((List.range N).flatMap fun i => [yes true, vAns (.int .i64 (u i)), pAnsT (p i), vAns (.float .f64 (f i))]) ++ [yes false])
    [some ⟨.exit 0, tmE x (rvE M) M M j, (hpE [b0, b1, b2, b3] N M M F g).toArray⟩, none]) =
  some (.slice (some ⟨6 + 3 * M, 0, none⟩) N N, (hpE [b0, b1, b2, b3] N M M F g ++ [outBt N N f]).toArray, lgO (hpE [b0, b1, b2, b3] N M M F g) (rvE M) N u p f,
    [(bodyE, tmE x (rvE 0) M 0 (j0E N M), (hpE [b0, b1, b2, b3] N M 0 F g).toArray, (.exit 0, tmE x (rvE M) M M j, (hpE [b0, b1, b2, b3] N M M F g).toArray))])
def RdEnd (k : Nat) : Prop := ∀ (b0 b1 b2 b3 : Option ABlk) (N M : Nat) (x : Value) (F : Nat → Nat) (g : Nat → Option ABlk) (j : Nat → Value),
  (rndT askTe lssC bodyE (tmE x (rvE k) M k j) (hpE [b0, b1, b2, b3] N M k F g).toArray [yes false] []).map (fun r => (r.1, ((r.2.1.length, [getT r.2.1 2, getT r.2.1 3, getT r.2.1 4, getT r.2.1 7, getT r.2.1 13, getT r.2.1 14, getT r.2.1 15]), r.2.2.1), r.2.2.2)) =
  some (.exit 0, ((135, [x, .pointer (some ⟨4, 0, none⟩), .pointer (some ⟨5, 0, none⟩), rvE k, .slice (some ⟨0, 0, none⟩) M M, .int .i64 M, .int .i64 (Int.ofNat k)]), (hpE [b0, b1, b2, b3] N M k F g).toArray), [.cmp .lss 3 (.int .i64 k) (.int .i64 M) false], [])
theorem rdEnd_2 : RdEnd 2 := fun _ _ _ _ _ _ _ _ _ _ => by kernel_rfl
theorem rdEnd_3 : RdEnd 3 := fun _ _ _ _ _ _ _ _ _ _ => by kernel_rfl
theorem rdEnd_4 : RdEnd 4 := fun _ _ _ _ _ _ _ _ _ _ => by kernel_rfl
theorem rdEnd_5 : RdEnd 5 := fun _ _ _ _ _ _ _ _ _ _ => by kernel_rfl
theorem rdEnd_6 : RdEnd 6 := fun _ _ _ _ _ _ _ _ _ _ => by kernel_rfl
theorem rdEnd_7 : RdEnd 7 := fun _ _ _ _ _ _ _ _ _ _ => by kernel_rfl
theorem rdEnd_8 : RdEnd 8 := fun _ _ _ _ _ _ _ _ _ _ => by kernel_rfl
theorem rdEnd_9 : RdEnd 9 := fun _ _ _ _ _ _ _ _ _ _ => by kernel_rfl
theorem rdEnd_10 : RdEnd 10 := fun _ _ _ _ _ _ _ _ _ _ => by kernel_rfl
theorem rdEnd_11 : RdEnd 11 := fun _ _ _ _ _ _ _ _ _ _ => by kernel_rfl
theorem rdEnd_12 : RdEnd 12 := fun _ _ _ _ _ _ _ _ _ _ => by kernel_rfl
theorem rdEnd_13 : RdEnd 13 := fun _ _ _ _ _ _ _ _ _ _ => by kernel_rfl
theorem rdEnd_14 : RdEnd 14 := fun _ _ _ _ _ _ _ _ _ _ => by kernel_rfl
theorem rdEnd_15 : RdEnd 15 := fun _ _ _ _ _ _ _ _ _ _ => by kernel_rfl
theorem rdEnd_16 : RdEnd 16 := fun _ _ _ _ _ _ _ _ _ _ => by kernel_rfl
theorem rdEnd_17 : RdEnd 17 := fun _ _ _ _ _ _ _ _ _ _ => by kernel_rfl
theorem rdEnd_18 : RdEnd 18 := fun _ _ _ _ _ _ _ _ _ _ => by kernel_rfl
theorem rdEnd_19 : RdEnd 19 := fun _ _ _ _ _ _ _ _ _ _ => by kernel_rfl
theorem rdEnd_20 : RdEnd 20 := fun _ _ _ _ _ _ _ _ _ _ => by kernel_rfl
theorem finE_1_2 : FinE 1 2 := fun _ _ _ _ _ _ _ _ _ _ _ => by kernel_rfl
theorem finE_1_3 : FinE 1 3 := fun _ _ _ _ _ _ _ _ _ _ _ => by kernel_rfl
theorem finE_1_4 : FinE 1 4 := fun _ _ _ _ _ _ _ _ _ _ _ => by kernel_rfl
theorem finE_1_5 : FinE 1 5 := fun _ _ _ _ _ _ _ _ _ _ _ => by kernel_rfl
theorem finE_1_6 : FinE 1 6 := fun _ _ _ _ _ _ _ _ _ _ _ => by kernel_rfl
theorem finE_1_7 : FinE 1 7 := fun _ _ _ _ _ _ _ _ _ _ _ => by kernel_rfl
theorem finE_1_8 : FinE 1 8 := fun _ _ _ _ _ _ _ _ _ _ _ => by kernel_rfl
theorem finE_1_9 : FinE 1 9 := fun _ _ _ _ _ _ _ _ _ _ _ => by kernel_rfl
theorem finE_1_10 : FinE 1 10 := fun _ _ _ _ _ _ _ _ _ _ _ => by kernel_rfl
theorem finE_1_11 : FinE 1 11 := fun _ _ _ _ _ _ _ _ _ _ _ => by kernel_rfl
theorem finE_1_12 : FinE 1 12 := fun _ _ _ _ _ _ _ _ _ _ _ => by kernel_rfl
theorem finE_1_13 : FinE 1 13 := fun _ _ _ _ _ _ _ _ _ _ _ => by kernel_rfl
theorem finE_1_14 : FinE 1 14 := fun _ _ _ _ _ _ _ _ _ _ _ => by kernel_rfl
theorem finE_1_15 : FinE 1 15 := fun _ _ _ _ _ _ _ _ _ _ _ => by kernel_rfl
theorem finE_1_16 : FinE 1 16 := fun _ _ _ _ _ _ _ _ _ _ _ => by kernel_rfl
theorem finE_1_17 : FinE 1 17 := fun _ _ _ _ _ _ _ _ _ _ _ => by kernel_rfl
theorem finE_1_18 : FinE 1 18 := fun _ _ _ _ _ _ _ _ _ _ _ => by kernel_rfl
theorem finE_1_19 : FinE 1 19 := fun _ _ _ _ _ _ _ _ _ _ _ => by kernel_rfl
theorem finE_1_20 : FinE 1 20 := fun _ _ _ _ _ _ _ _ _ _ _ => by kernel_rfl
theorem finE_2_2 : FinE 2 2 := fun _ _ _ _ _ _ _ _ _ _ _ => by kernel_rfl
theorem finE_2_3 : FinE 2 3 := fun _ _ _ _ _ _ _ _ _ _ _ => by kernel_rfl
theorem finE_2_4 : FinE 2 4 := fun _ _ _ _ _ _ _ _ _ _ _ => by kernel_rfl
theorem finE_2_5 : FinE 2 5 := fun _ _ _ _ _ _ _ _ _ _ _ => by kernel_rfl
theorem finE_2_6 : FinE 2 6 := fun _ _ _ _ _ _ _ _ _ _ _ => by kernel_rfl
theorem finE_2_7 : FinE 2 7 := fun _ _ _ _ _ _ _ _ _ _ _ => by kernel_rfl
theorem finE_2_8 : FinE 2 8 := fun _ _ _ _ _ _ _ _ _ _ _ => by kernel_rfl
theorem finE_2_9 : FinE 2 9 := fun _ _ _ _ _ _ _ _ _ _ _ => by kernel_rfl
theorem finE_2_10 : FinE 2 10 := fun _ _ _ _ _ _ _ _ _ _ _ => by kernel_rfl
theorem finE_2_11 : FinE 2 11 := fun _ _ _ _ _ _ _ _ _ _ _ => by kernel_rfl
theorem finE_2_12 : FinE 2 12 := fun _ _ _ _ _ _ _ _ _ _ _ => by kernel_rfl
theorem finE_2_13 : FinE 2 13 := fun _ _ _ _ _ _ _ _ _ _ _ => by kernel_rfl
theorem finE_2_14 : FinE 2 14 := fun _ _ _ _ _ _ _ _ _ _ _ => by kernel_rfl
theorem finE_2_15 : FinE 2 15 := fun _ _ _ _ _ _ _ _ _ _ _ => by kernel_rfl
theorem finE_2_16 : FinE 2 16 := fun _ _ _ _ _ _ _ _ _ _ _ => by kernel_rfl
theorem finE_2_17 : FinE 2 17 := fun _ _ _ _ _ _ _ _ _ _ _ => by kernel_rfl
theorem finE_2_18 : FinE 2 18 := fun _ _ _ _ _ _ _ _ _ _ _ => by kernel_rfl
theorem finE_2_19 : FinE 2 19 := fun _ _ _ _ _ _ _ _ _ _ _ => by kernel_rfl
theorem finE_2_20 : FinE 2 20 := fun _ _ _ _ _ _ _ _ _ _ _ => by kernel_rfl
theorem finE_3_2 : FinE 3 2 := fun _ _ _ _ _ _ _ _ _ _ _ => by kernel_rfl
theorem finE_3_3 : FinE 3 3 := fun _ _ _ _ _ _ _ _ _ _ _ => by kernel_rfl
theorem finE_3_4 : FinE 3 4 := fun _ _ _ _ _ _ _ _ _ _ _ => by kernel_rfl
theorem finE_3_5 : FinE 3 5 := fun _ _ _ _ _ _ _ _ _ _ _ => by kernel_rfl
theorem finE_3_6 : FinE 3 6 := fun _ _ _ _ _ _ _ _ _ _ _ => by kernel_rfl
theorem finE_3_7 : FinE 3 7 := fun _ _ _ _ _ _ _ _ _ _ _ => by kernel_rfl
theorem finE_3_8 : FinE 3 8 := fun _ _ _ _ _ _ _ _ _ _ _ => by kernel_rfl
theorem finE_3_9 : FinE 3 9 := fun _ _ _ _ _ _ _ _ _ _ _ => by kernel_rfl
theorem finE_3_10 : FinE 3 10 := fun _ _ _ _ _ _ _ _ _ _ _ => by kernel_rfl
theorem finE_3_11 : FinE 3 11 := fun _ _ _ _ _ _ _ _ _ _ _ => by kernel_rfl
theorem finE_3_12 : FinE 3 12 := fun _ _ _ _ _ _ _ _ _ _ _ => by kernel_rfl
theorem finE_3_13 : FinE 3 13 := fun _ _ _ _ _ _ _ _ _ _ _ => by kernel_rfl
theorem finE_3_14 : FinE 3 14 := fun _ _ _ _ _ _ _ _ _ _ _ => by kernel_rfl
theorem finE_3_15 : FinE 3 15 := fun _ _ _ _ _ _ _ _ _ _ _ => by kernel_rfl
theorem finE_3_16 : FinE 3 16 := fun _ _ _ _ _ _ _ _ _ _ _ => by kernel_rfl
theorem finE_3_17 : FinE 3 17 := fun _ _ _ _ _ _ _ _ _ _ _ => by kernel_rfl
theorem finE_3_18 : FinE 3 18 := fun _ _ _ _ _ _ _ _ _ _ _ => by kernel_rfl
theorem finE_3_19 : FinE 3 19 := fun _ _ _ _ _ _ _ _ _ _ _ => by kernel_rfl
theorem finE_3_20 : FinE 3 20 := fun _ _ _ _ _ _ _ _ _ _ _ => by kernel_rfl

theorem rdCon : ∀ k, k < 21 → RdCon k
  | 0, _ => rdCon_0
  | 1, _ => rdCon_1
  | 2, _ => rdCon_2
  | 3, _ => rdCon_3
  | 4, _ => rdCon_4
  | 5, _ => rdCon_5
  | 6, _ => rdCon_6
  | 7, _ => rdCon_7
  | 8, _ => rdCon_8
  | 9, _ => rdCon_9
  | 10, _ => rdCon_10
  | 11, _ => rdCon_11
  | 12, _ => rdCon_12
  | 13, _ => rdCon_13
  | 14, _ => rdCon_14
  | 15, _ => rdCon_15
  | 16, _ => rdCon_16
  | 17, _ => rdCon_17
  | 18, _ => rdCon_18
  | 19, _ => rdCon_19
  | 20, _ => rdCon_20
  | n + 21, h => absurd h (by omega)
theorem rdVar : ∀ k, k < 21 → RdVar k
  | 0, _ => rdVar_0
  | 1, _ => rdVar_1
  | 2, _ => rdVar_2
  | 3, _ => rdVar_3
  | 4, _ => rdVar_4
  | 5, _ => rdVar_5
  | 6, _ => rdVar_6
  | 7, _ => rdVar_7
  | 8, _ => rdVar_8
  | 9, _ => rdVar_9
  | 10, _ => rdVar_10
  | 11, _ => rdVar_11
  | 12, _ => rdVar_12
  | 13, _ => rdVar_13
  | 14, _ => rdVar_14
  | 15, _ => rdVar_15
  | 16, _ => rdVar_16
  | 17, _ => rdVar_17
  | 18, _ => rdVar_18
  | 19, _ => rdVar_19
  | 20, _ => rdVar_20
  | n + 21, h => absurd h (by omega)
theorem rdEnd : ∀ k, 2 ≤ k → k < 21 → RdEnd k
  | 0, h, _ => absurd h (by omega)
  | 1, h, _ => absurd h (by omega)
  | 2, _, _ => rdEnd_2
  | 3, _, _ => rdEnd_3
  | 4, _, _ => rdEnd_4
  | 5, _, _ => rdEnd_5
  | 6, _, _ => rdEnd_6
  | 7, _, _ => rdEnd_7
  | 8, _, _ => rdEnd_8
  | 9, _, _ => rdEnd_9
  | 10, _, _ => rdEnd_10
  | 11, _, _ => rdEnd_11
  | 12, _, _ => rdEnd_12
  | 13, _, _ => rdEnd_13
  | 14, _, _ => rdEnd_14
  | 15, _, _ => rdEnd_15
  | 16, _, _ => rdEnd_16
  | 17, _, _ => rdEnd_17
  | 18, _, _ => rdEnd_18
  | 19, _, _ => rdEnd_19
  | 20, _, _ => rdEnd_20
  | n + 21, _, h => absurd h (by omega)
theorem rdBinA_2 : ∀ k, 1 ≤ k → k < 21 → RdBin k 2
  | 0, h, _ => absurd h (by omega)
  | 1, _, _ => rdBin_1_2
  | 2, _, _ => rdBin_2_2
  | 3, _, _ => rdBin_3_2
  | 4, _, _ => rdBin_4_2
  | 5, _, _ => rdBin_5_2
  | 6, _, _ => rdBin_6_2
  | 7, _, _ => rdBin_7_2
  | 8, _, _ => rdBin_8_2
  | 9, _, _ => rdBin_9_2
  | 10, _, _ => rdBin_10_2
  | 11, _, _ => rdBin_11_2
  | 12, _, _ => rdBin_12_2
  | 13, _, _ => rdBin_13_2
  | 14, _, _ => rdBin_14_2
  | 15, _, _ => rdBin_15_2
  | 16, _, _ => rdBin_16_2
  | 17, _, _ => rdBin_17_2
  | 18, _, _ => rdBin_18_2
  | 19, _, _ => rdBin_19_2
  | 20, _, _ => rdBin_20_2
  | n + 21, _, h => absurd h (by omega)
theorem rdBinA_3 : ∀ k, 1 ≤ k → k < 21 → RdBin k 3
  | 0, h, _ => absurd h (by omega)
  | 1, _, _ => rdBin_1_3
  | 2, _, _ => rdBin_2_3
  | 3, _, _ => rdBin_3_3
  | 4, _, _ => rdBin_4_3
  | 5, _, _ => rdBin_5_3
  | 6, _, _ => rdBin_6_3
  | 7, _, _ => rdBin_7_3
  | 8, _, _ => rdBin_8_3
  | 9, _, _ => rdBin_9_3
  | 10, _, _ => rdBin_10_3
  | 11, _, _ => rdBin_11_3
  | 12, _, _ => rdBin_12_3
  | 13, _, _ => rdBin_13_3
  | 14, _, _ => rdBin_14_3
  | 15, _, _ => rdBin_15_3
  | 16, _, _ => rdBin_16_3
  | 17, _, _ => rdBin_17_3
  | 18, _, _ => rdBin_18_3
  | 19, _, _ => rdBin_19_3
  | 20, _, _ => rdBin_20_3
  | n + 21, _, h => absurd h (by omega)
theorem rdBinA_4 : ∀ k, 1 ≤ k → k < 21 → RdBin k 4
  | 0, h, _ => absurd h (by omega)
  | 1, _, _ => rdBin_1_4
  | 2, _, _ => rdBin_2_4
  | 3, _, _ => rdBin_3_4
  | 4, _, _ => rdBin_4_4
  | 5, _, _ => rdBin_5_4
  | 6, _, _ => rdBin_6_4
  | 7, _, _ => rdBin_7_4
  | 8, _, _ => rdBin_8_4
  | 9, _, _ => rdBin_9_4
  | 10, _, _ => rdBin_10_4
  | 11, _, _ => rdBin_11_4
  | 12, _, _ => rdBin_12_4
  | 13, _, _ => rdBin_13_4
  | 14, _, _ => rdBin_14_4
  | 15, _, _ => rdBin_15_4
  | 16, _, _ => rdBin_16_4
  | 17, _, _ => rdBin_17_4
  | 18, _, _ => rdBin_18_4
  | 19, _, _ => rdBin_19_4
  | 20, _, _ => rdBin_20_4
  | n + 21, _, h => absurd h (by omega)
theorem rdBinA_5 : ∀ k, 1 ≤ k → k < 21 → RdBin k 5
  | 0, h, _ => absurd h (by omega)
  | 1, _, _ => rdBin_1_5
  | 2, _, _ => rdBin_2_5
  | 3, _, _ => rdBin_3_5
  | 4, _, _ => rdBin_4_5
  | 5, _, _ => rdBin_5_5
  | 6, _, _ => rdBin_6_5
  | 7, _, _ => rdBin_7_5
  | 8, _, _ => rdBin_8_5
  | 9, _, _ => rdBin_9_5
  | 10, _, _ => rdBin_10_5
  | 11, _, _ => rdBin_11_5
  | 12, _, _ => rdBin_12_5
  | 13, _, _ => rdBin_13_5
  | 14, _, _ => rdBin_14_5
  | 15, _, _ => rdBin_15_5
  | 16, _, _ => rdBin_16_5
  | 17, _, _ => rdBin_17_5
  | 18, _, _ => rdBin_18_5
  | 19, _, _ => rdBin_19_5
  | 20, _, _ => rdBin_20_5
  | n + 21, _, h => absurd h (by omega)
theorem rdBin (k : Nat) (K : Int) (h1 : 1 ≤ k) (h2 : k < 21) (h3 : 2 ≤ K) (h4 : K ≤ 5) : RdBin k K := by
  have : K = 2 ∨ K = 3 ∨ K = 4 ∨ K = 5 := by omega
  rcases this with rfl | rfl | rfl | rfl
  · exact rdBinA_2 k h1 h2
  · exact rdBinA_3 k h1 h2
  · exact rdBinA_4 k h1 h2
  · exact rdBinA_5 k h1 h2
theorem finEA_1 : ∀ m, 2 ≤ m → m < 21 → FinE 1 m
  | 0, h, _ => absurd h (by omega)
  | 1, h, _ => absurd h (by omega)
  | 2, _, _ => finE_1_2
  | 3, _, _ => finE_1_3
  | 4, _, _ => finE_1_4
  | 5, _, _ => finE_1_5
  | 6, _, _ => finE_1_6
  | 7, _, _ => finE_1_7
  | 8, _, _ => finE_1_8
  | 9, _, _ => finE_1_9
  | 10, _, _ => finE_1_10
  | 11, _, _ => finE_1_11
  | 12, _, _ => finE_1_12
  | 13, _, _ => finE_1_13
  | 14, _, _ => finE_1_14
  | 15, _, _ => finE_1_15
  | 16, _, _ => finE_1_16
  | 17, _, _ => finE_1_17
  | 18, _, _ => finE_1_18
  | 19, _, _ => finE_1_19
  | 20, _, _ => finE_1_20
  | m + 21, _, h => absurd h (by omega)
theorem finEA_2 : ∀ m, 2 ≤ m → m < 21 → FinE 2 m
  | 0, h, _ => absurd h (by omega)
  | 1, h, _ => absurd h (by omega)
  | 2, _, _ => finE_2_2
  | 3, _, _ => finE_2_3
  | 4, _, _ => finE_2_4
  | 5, _, _ => finE_2_5
  | 6, _, _ => finE_2_6
  | 7, _, _ => finE_2_7
  | 8, _, _ => finE_2_8
  | 9, _, _ => finE_2_9
  | 10, _, _ => finE_2_10
  | 11, _, _ => finE_2_11
  | 12, _, _ => finE_2_12
  | 13, _, _ => finE_2_13
  | 14, _, _ => finE_2_14
  | 15, _, _ => finE_2_15
  | 16, _, _ => finE_2_16
  | 17, _, _ => finE_2_17
  | 18, _, _ => finE_2_18
  | 19, _, _ => finE_2_19
  | 20, _, _ => finE_2_20
  | m + 21, _, h => absurd h (by omega)
theorem finEA_3 : ∀ m, 2 ≤ m → m < 21 → FinE 3 m
  | 0, h, _ => absurd h (by omega)
  | 1, h, _ => absurd h (by omega)
  | 2, _, _ => finE_3_2
  | 3, _, _ => finE_3_3
  | 4, _, _ => finE_3_4
  | 5, _, _ => finE_3_5
  | 6, _, _ => finE_3_6
  | 7, _, _ => finE_3_7
  | 8, _, _ => finE_3_8
  | 9, _, _ => finE_3_9
  | 10, _, _ => finE_3_10
  | 11, _, _ => finE_3_11
  | 12, _, _ => finE_3_12
  | 13, _, _ => finE_3_13
  | 14, _, _ => finE_3_14
  | 15, _, _ => finE_3_15
  | 16, _, _ => finE_3_16
  | 17, _, _ => finE_3_17
  | 18, _, _ => finE_3_18
  | 19, _, _ => finE_3_19
  | 20, _, _ => finE_3_20
  | m + 21, _, h => absurd h (by omega)
theorem finE (n m : Nat) (h1 : 1 ≤ n) (h2 : n ≤ 3) (h3 : 2 ≤ m) (h4 : m < 21) : FinE n m := by
  have : n = 1 ∨ n = 2 ∨ n = 3 := by omega
  rcases this with rfl | rfl | rfl
  · exact finEA_1 m h3 h4
  · exact finEA_2 m h3 h4
  · exact finEA_3 m h3 h4

end Go.Proofs.Ytclphdmaedpipaa

/-!  tape.Eval: what it tells is what its operations reckon, one after the other. -/
namespace Go.Proofs.Ytclphdmaedpipaa
open Go
set_option linter.unusedVariables false
set_option linter.unusedSimpArgs false
set_option maxRecDepth 100000

/-! what types are -/
theorem tmE_back {x rv : Value} {M k : Nat} {tm' : List Value} (hl : tm'.length = 135) (t2 : getT tm' 2 = x) (t3 : getT tm' 3 = .pointer (some ⟨4, 0, none⟩)) (t4 : getT tm' 4 = .pointer (some ⟨5, 0, none⟩)) (t7 : getT tm' 7 = rv)
    (t13 : getT tm' 13 = .slice (some ⟨0, 0, none⟩) M M) (t14 : getT tm' 14 = .int .i64 M) (t15 : getT tm' 15 = .int .i64 k) : ∃ j', tm' = tmE x rv M k j' := by
  refine ⟨getT tm', (tm_eq hl).trans ?_⟩
  unfold tmE
  apply List.map_congr_left
  intro i _
  split
  · rename_i h; subst h; exact t2
  split
  · rename_i h; subst h; exact t3
  split
  · rename_i h; subst h; exact t4
  split
  · rename_i h; subst h; exact t7
  split
  · rename_i h; subst h; exact t13
  split
  · rename_i h; subst h; exact t14
  split
  · rename_i h; subst h; exact t15
  rfl
theorem reE {b0 b1 b2 b3 : Option ABlk} {x : Value} {N M k : Nat} {F : Nat → Nat} {v : Nat} {tm' : List Value} {H' : AHeap} (h : slE tm' H' = outE b0 b1 b2 b3 x N M k F v) (hv : F k = v) :
    ∃ g' j', tm' = tmE x (rvE (k + 1)) M (k + 1) j' ∧ H' = (hpE [b0, b1, b2, b3] N M (k + 1) F g').toArray := by
  unfold slE outE at h
  simp only [Prod.mk.injEq, List.cons.injEq, and_true] at h
  obtain ⟨hl, ⟨t2, t3, t4, t7, t13, t14, t15⟩, ht, hn, hz⟩ := h
  obtain ⟨j', hj⟩ := tmE_back hl t2 t3 t4 t7 t13 t14 t15
  refine ⟨fun i => H'.toList.getD (6 + i) none, j', hj, ?_⟩
  · have := list_parts none H'.toList _ 6 (3 * k + 2) _ ht hn hz
    apply Array.ext'
    refine this.trans ?_
    have e : ((List.range (k + 1)).flatMap fun i => fC (F i)) = ((List.range k).flatMap fun i => fC (F i)) ++ fC v := by
      rw [List.range_succ, List.flatMap_append, List.flatMap_cons, List.flatMap_nil, List.append_nil, hv]
    show _ = [b0, b1, b2, b3] ++ [kbE, tbE N M] ++ List.map (fun i => H'.toList.getD (6 + i) none) (List.range (3 * k + 2)) ++ [some ⟨((List.range (k + 1)).flatMap fun i => fC (F i)).toArray, 28, 1, true⟩]
    rw [e]
    rfl

theorem hpE_reg {bs : List (Option ABlk)} (hb : bs.length = 4) {N M k : Nat} {F : Nat → Nat} {g : Nat → Option ABlk} (c : List (Option ABlk)) : (hpE bs N M (k + 1) F g ++ c).toArray[6 + (3 * k + 2)]? = some (some ⟨((List.range (k + 1)).flatMap fun i => fC (F i)).toArray, 28, 1, true⟩) := by
  unfold hpE jkE rgE
  rw [List.getElem?_toArray, List.getElem?_append_left (by simp; omega), List.getElem?_append_right (by simp; omega)]
  have e : 6 + (3 * k + 2) - (bs ++ [kbE, tbE N M] ++ (List.range (3 * k + 2)).map g).length = 0 := by simp [hb]; omega
  show [_][_]? = _
  rw [e]
  rfl
section
variable {b0 b1 b2 : Option ABlk} {N : Nat} {ops : List OpD} {out : List Int} {xs : List Nat}

theorem reg_ok {A : Int} {k : Nat} (h0 : 0 ≤ A) (h1 : A < (k + 1 : Nat)) (b3 : Option ABlk) (M : Nat) (F : Nat → Nat) (g : Nat → Option ABlk) (c : List (Option ABlk)) : okAll Try.prog (lgR (hpE [b0, b1, b2, b3] N M (k + 1) F g ++ c) (rvE (k + 1)) A ⟨6 + (3 * k + 2), A.toNat, none⟩ (F A.toNat)) := by
  refine ⟨ixF h0 h1 rfl, rdF (B := _) (l := (List.range (k + 1)).map F) (k := A.toNat) (hpE_reg rfl c) ?_ ?_ rfl, trivial⟩
  · rw [flat_range]
  · have : A.toNat < k + 1 := by omega
    rw [List.getElem?_map, List.getElem?_range this]; rfl

theorem EvH.round (h : EvH b0 b1 b2 N ops out xs) (b3 : Option ABlk) {k : Nat} {o : OpD} (ho : ops[k]? = some o) (hk : k < 21) (g : Nat → Option ABlk) (j : Nat → Value) :
    ∃ g' j', evR Try.prog (Runs Try.prog) (orcD 12) q1 bodyE (tmE (.slice (some ⟨2, 0, none⟩) N N) (rvE k) ops.length k j) (hpE [b0, b1, b2, b3] N ops.length k (regF ops xs) g).toArray
      (.normal, tmE (.slice (some ⟨2, 0, none⟩) N N) (rvE (k + 1)) ops.length (k + 1) j', (hpE [b0, b1, b2, b3] N ops.length (k + 1) (regF ops xs) g').toArray) := by
  have hd := h.head ho (H := hpE [b0, b1, b2, b3] N ops.length k (regF ops xs) g) rfl
  have hok := h.ok k o ho
  have hF : regF ops xs k = stepT (fun c => c) opF (fun i => xs.getD i 0) (regF ops xs) o := regT_at ho hok
  unfold stepT at hF
  rcases hok with h0 | ⟨h1, hA0, hA1⟩ | ⟨h2, h5, hA0, hA1, hB0, hB1⟩
  · rw [if_pos h0] at hF
    rw [h0] at hd
    have r := rdCon k hk b0 b1 b2 b3 N ops.length o.A o.B o.C (.slice (some ⟨2, 0, none⟩) N N) ⟨0, k * 4, none⟩ (regF ops xs) g j
    unfold runE at r
    obtain ⟨tm', H', hs, hev⟩ := rnd_part r hd
    obtain ⟨g', j', rfl, rfl⟩ := reE hs hF
    exact ⟨g', j', hev⟩
  · rw [if_neg (by omega), if_pos h1] at hF
    rw [h1] at hd
    have r := rdVar k hk b0 b1 b2 b3 N ops.length o.A o.B o.C (xs.getD o.A.toNat 0) (.slice (some ⟨2, 0, none⟩) N N) ⟨0, k * 4, none⟩ ⟨2, o.A.toNat, none⟩ (regF ops xs) g j
    unfold runE at r
    obtain ⟨tm', H', hs, hev⟩ := rnd_part r (okApp hd (h.var hA0 hA1 rfl))
    obtain ⟨g', j', rfl, rfl⟩ := reE hs hF
    exact ⟨g', j', hev⟩
  · rw [if_neg (by omega), if_neg (by omega)] at hF
    cases k with
    | zero => omega
    | succ k =>
      have r := rdBin (k + 1) o.K (by omega) hk h2 h5 b0 b1 b2 b3 N ops.length o.A o.B o.C (regF ops xs o.A.toNat) (regF ops xs o.B.toNat) (.slice (some ⟨2, 0, none⟩) N N) ⟨0, (k + 1) * 4, none⟩ ⟨6 + (3 * k + 2), o.A.toNat, none⟩ ⟨6 + (3 * k + 2), o.B.toNat, none⟩ (regF ops xs) g j
      unfold runE at r
      obtain ⟨tm', H', hs, hev⟩ := rnd_part r (okApp (okApp hd (reg_ok hA0 hA1 b3 _ _ _ _)) (reg_ok hB0 hB1 b3 _ _ _ _))
      obtain ⟨g', j', rfl, rfl⟩ := reE hs hF
      exact ⟨g', j', hev⟩

theorem EvH.rounds (h : EvH b0 b1 b2 N ops out xs) (b3 : Option ABlk) (h2 : 2 ≤ ops.length) (hM : ops.length < 21) : ∀ (d k : Nat), k + d = ops.length → ∀ (g : Nat → Option ABlk) (j : Nat → Value),
    ∃ g' j', Rds (evR Try.prog (Runs Try.prog) (orcD 12) q1 bodyE) (tmE (.slice (some ⟨2, 0, none⟩) N N) (rvE k) ops.length k j) (hpE [b0, b1, b2, b3] N ops.length k (regF ops xs) g).toArray
      (.exit 0, tmE (.slice (some ⟨2, 0, none⟩) N N) (rvE ops.length) ops.length ops.length j', (hpE [b0, b1, b2, b3] N ops.length ops.length (regF ops xs) g').toArray)
  | 0, k, hk, g, j => by
    have hk' : k = ops.length := by omega
    subst hk'
    have r := rdEnd ops.length h2 hM b0 b1 b2 b3 N ops.length (.slice (some ⟨2, 0, none⟩) N N) (regF ops xs) g j
    obtain ⟨tm', H', hs, hev⟩ := rnd_part (g := fun tm H => ((tm.length, [getT tm 2, getT tm 3, getT tm 4, getT tm 7, getT tm 13, getT tm 14, getT tm 15]), H)) r ⟨cmp_ok (decide_eq_false (by omega)), trivial⟩
    simp only [Prod.mk.injEq, List.cons.injEq, and_true] at hs
    obtain ⟨⟨hl, t2, t3, t4, t7, t13, t14, t15⟩, rfl⟩ := hs
    obtain ⟨j', rfl⟩ := tmE_back hl t2 t3 t4 t7 t13 t14 t15
    exact ⟨g, j', .last hev (by simp)⟩
  | d + 1, k, hk, g, j => by
    have hlt : k < ops.length := by omega
    obtain ⟨g1, j1, h1⟩ := h.round b3 (List.getElem?_eq_getElem hlt) (by omega) g j
    obtain ⟨g2, j2, h3⟩ := h.rounds b3 h2 hM d (k + 1) (by omega) g1 j1
    exact ⟨g2, j2, .next h1 h3⟩
end

end Go.Proofs.Ytclphdmaedpipaa

/-!  tape.Eval's contract: in a memory that holds a field and numbers, a new row of what its operations reckon. -/
namespace Go.Proofs.Ytclphdmaedpipaa
open Go
set_option linter.unusedVariables false
set_option linter.unusedSimpArgs false
set_option maxRecDepth 100000

section
variable {b0 b1 b2 : Option ABlk} {N : Nat} {ops : List OpD} {out : List Int} {xs : List Nat}

theorem outBt_full {N : Nat} {out : List Int} (F : Nat → Nat) (h : out.length = N) : outBt N N (fun i => F (out.getD i 0).toNat) = nwF (evOut F out) := by
  subst h
  unfold outBt evOut nwF
  rw [List.flatMap_map]
  have e : (List.range out.length).flatMap (fun n => fC (if n < out.length then F (out.getD n 0).toNat else 0)) = ((List.range out.length).map fun i => out.getD i 0).flatMap fun u => fC (F u.toNat) := by
    rw [List.flatMap_map]
    unfold List.flatMap
    congr 1
    apply List.map_congr_left
    intro i hi
    rw [if_pos (List.mem_range.1 hi)]
  rw [e, range_getD]

theorem EvH.outs (h : EvH b0 b1 b2 N ops out xs) (b3 : Option ABlk) (h2 : 2 ≤ ops.length) (g : Nat → Option ABlk) : okAll Try.prog (lgO (hpE [b0, b1, b2, b3] N ops.length ops.length (regF ops xs) g) (rvE ops.length) N
    (fun i => out.getD i 0) (fun i => ⟨6 + (3 * (ops.length - 1) + 2), (out.getD i 0).toNat, none⟩) (fun i => regF ops xs (out.getD i 0).toNat)) := by
  obtain ⟨k, hk⟩ : ∃ k, ops.length = k + 1 := ⟨ops.length - 1, by omega⟩
  unfold lgO
  refine okApp ?_ ⟨cmp_ok (decide_eq_false (by omega)), trivial⟩
  have key : ∀ l : List Nat, (∀ i ∈ l, i < N) → okAll Try.prog (l.flatMap fun i => [.cmp .lss 3 (.int .i64 (Int.ofNat i)) (.int .i64 (Int.ofNat N)) true, .ex (readVar Try.prog (hpE [b0, b1, b2, b3] N ops.length ops.length (regF ops xs) g ++ [outBt N i (fun i => regF ops xs (out.getD i 0).toNat)]).toArray 3 ⟨1, i, none⟩ = some (.int .i64 (out.getD i 0))),
      .ex (indexAddrV Try.prog 30 (rvE ops.length) (.int .i64 (out.getD i 0)) = some (.pointer (some ⟨6 + (3 * (ops.length - 1) + 2), (out.getD i 0).toNat, none⟩))), .ex (readVar Try.prog (hpE [b0, b1, b2, b3] N ops.length ops.length (regF ops xs) g ++ [outBt N i (fun i => regF ops xs (out.getD i 0).toNat)]).toArray 28 ⟨6 + (3 * (ops.length - 1) + 2), (out.getD i 0).toNat, none⟩ = some (.float .f64 (regF ops xs (out.getD i 0).toNat)))]) := by
    intro l hl
    induction l with
    | nil => trivial
    | cons i l ih =>
      rw [List.flatMap_cons]
      refine okApp ?_ (ih fun i hi => hl i (List.mem_cons_of_mem _ hi))
      have hi := hl i (List.mem_cons_self ..)
      have hio : i < out.length := by rw [h.lo]; exact hi
      have hg : out[i]? = some (out.getD i 0) := by
        rw [List.getD_eq_getElem?_getD, List.getElem?_eq_getElem hio]; rfl
      obtain ⟨u0, u1⟩ := h.oo _ (List.mem_of_getElem? hg)
      obtain ⟨B, hB, hc⟩ := h.m1
      have hr := reg_ok (b0 := b0) (b1 := b1) (b2 := b2) (N := N) (A := out.getD i 0) (k := k) u0 (by omega) b3 ops.length (regF ops xs) g [outBt N i (fun i => regF ops xs (out.getD i 0).toNat)]
      rw [← hk, show k = ops.length - 1 by omega] at hr
      refine ⟨cmp_ok (decide_eq_true hi), rdI (B := B) (l := out) (k := i) ?_ hc hg rfl, hr.1, hr.2.1, trivial⟩
      rw [hB]; rfl
  exact key _ fun i hi => List.mem_range.1 hi

/-- The run of a field. -/
theorem EvH.run (h : EvH b0 b1 b2 N ops out xs) (b3 : Option ABlk) (h2 : 2 ≤ ops.length) (hM : ops.length < 21) (hN : 1 ≤ N) (hN3 : N ≤ 3) (hf : AllFrozen #[b0, b1, b2, b3]) :
    Runs Try.prog 57 #[kindV, tpV 0 1 N ops.length, .slice (some ⟨2, 0, none⟩) N N] #[b0, b1, b2, b3] (.slice (some ⟨4, 0, none⟩) N N) (#[b0, b1, b2, b3] ++ #[nwF (evOut (regF ops xs) out)]) := by
  obtain ⟨g, j, hr⟩ := h.rounds b3 h2 hM ops.length 0 (by omega) (fun _ => none) (j0E N ops.length)
  have fin := finE N ops.length hN hN3 h2 hM b0 b1 b2 b3 (.slice (some ⟨2, 0, none⟩) N N) (regF ops xs) g j (fun i => out.getD i 0) (fun i => ⟨6 + (3 * (ops.length - 1) + 2), (out.getD i 0).toNat, none⟩) (fun i => regF ops xs (out.getD i 0).toNat)
  have hruns := askT_runs fin (h.outs b3 h2 g) (fun z hz => by
    rw [List.mem_singleton] at hz
    subst hz
    exact hr)
  rw [outBt_full (regF ops xs) h.lo] at hruns
  have e : (hpE [b0, b1, b2, b3] N ops.length ops.length (regF ops xs) g ++ [nwF (evOut (regF ops xs) out)]).toArray =
      #[b0, b1, b2, b3] ++ ([kbE, tbE N ops.length] ++ jkE g ops.length ++ rgE (regF ops xs) ops.length ++ [nwF (evOut (regF ops xs) out)]).toArray := by
    apply Array.ext'
    simp [hpE, List.append_assoc]
  rw [e] at hruns
  have hk : ([kbE, tbE N ops.length] ++ jkE g ops.length ++ rgE (regF ops xs) ops.length ++ [nwF (evOut (regF ops xs) out)]).toArray[2 + 3 * ops.length]? = some (nwF (evOut (regF ops xs) out)) := by
    have hl : ([kbE, tbE N ops.length] ++ jkE g ops.length ++ rgE (regF ops xs) ops.length).length = 2 + 3 * ops.length := by
      obtain ⟨k, hk⟩ : ∃ k, ops.length = k + 1 := ⟨ops.length - 1, by omega⟩
      rw [hk]
      simp [jkE, rgE]
      omega
    rw [List.getElem?_toArray, ← hl, List.getElem?_append_right (Nat.le_refl _), Nat.sub_self]
    rfl
  have e2 : 6 + 3 * ops.length = (#[b0, b1, b2, b3] : AHeap).size + (2 + 3 * ops.length) := by simp; omega
  rw [e2] at hruns
  refine Runs.keep1 hf hruns hk fun i u hu => ?_
  have hu' : u ∈ (evOut (regF ops xs) out).flatMap fC := List.mem_of_getElem? (by simpa using hu)
  simp only [List.mem_flatMap, fC, List.mem_singleton] at hu'
  obtain ⟨a, _, rfl⟩ := hu'
  rfl
end

noncomputable def askRun (g : FuncId) : Nat := if g == 57 then 1 else 0
theorem eval_walk (c0 c1 c2 : ABlk) (h0 : c0.own = false) (h1 : c1.own = false) (h2 : c2.own = false) (N M : Nat) (l : List Nat) :
    askN askRun noC 12 47 #[tpV 0 1 N M, .slice (some ⟨2, 0, none⟩) N N] #[some c0, some c1, some c2] [⟨fun n => .slice (some ⟨n, 0, none⟩) N N, [nwF l]⟩] =
      some (.slice (some ⟨4, 0, none⟩) N N, #[some c0, some c1, some c2, some ⟨#[.int .i64 N, .slice (some ⟨0, 0, none⟩) M M, .slice (some ⟨1, 0, none⟩) N N], 53, 0, true⟩, nwF l],
        [.run 57 #[kindV, tpV 0 1 N M, .slice (some ⟨2, 0, none⟩) N N] #[some c0, some c1, some c2, some ⟨#[.int .i64 N, .slice (some ⟨0, 0, none⟩) M M, .slice (some ⟨1, 0, none⟩) N N], 53, 0, false⟩] (.slice (some ⟨4, 0, none⟩) N N) (#[some c0, some c1, some c2, some ⟨#[.int .i64 N, .slice (some ⟨0, 0, none⟩) M M, .slice (some ⟨1, 0, none⟩) N N], 53, 0, false⟩] ++ #[nwF l])]) := by
  obtain ⟨a, b, c, d⟩ := c0
  obtain ⟨a1, b1, c1, d1⟩ := c1
  obtain ⟨a2, b2, c2, d2⟩ := c2
  dsimp only at h0 h1 h2
  subst h0 h1 h2
  kernel_rfl

/-- A field and numbers in a memory of their own: tape.Eval. -/
theorem EvH.eval {c0 c1 c2 : ABlk} {N : Nat} {ops : List OpD} {out : List Int} {xs : List Nat} (h : EvH (some c0) (some c1) (some c2) N ops out xs) (h0 : c0.own = false) (h1 : c1.own = false) (h2 : c2.own = false) (hM2 : 2 ≤ ops.length) (hM : ops.length < 21) (hN : 1 ≤ N) (hN3 : N ≤ 3) :
    Runs Try.prog 47 #[tpV 0 1 N ops.length, .slice (some ⟨2, 0, none⟩) N N] #[some c0, some c1, some c2] (.slice (some ⟨3, 0, none⟩) N N) (#[some c0, some c1, some c2] ++ #[nwF (evOut (regF ops xs) out)]) := by
  have hf4 : ∀ (b3 : Option ABlk), (∀ B, b3 = some B → B.own = false) → AllFrozen #[some c0, some c1, some c2, b3] := by
    intro b3 hb b B hB
    match b, hB with
    | 0, hB => simp at hB; subst hB; exact h0
    | 1, hB => simp at hB; subst hB; exact h1
    | 2, hB => simp at hB; subst hB; exact h2
    | 3, hB => simp at hB; exact hb B hB
    | n + 4, hB => simp at hB
  have hf3 : AllFrozen #[some c0, some c1, some c2] := by
    intro b B hB
    match b, hB with
    | 0, hB => simp at hB; subst hB; exact h0
    | 1, hB => simp at hB; subst hB; exact h1
    | 2, hB => simp at hB; subst hB; exact h2
    | n + 3, hB => simp at hB
  have w := askN_runs (eval_walk c0 c1 c2 h0 h1 h2 N ops.length (evOut (regF ops xs) out)) ⟨h.run _ hM2 hM hN hN3 (hf4 _ (by rintro B hB; injection hB with hB; subst hB; rfl)), trivial⟩
  refine Runs.keep1 (k := 1) (H := #[some c0, some c1, some c2]) (bs := #[some ⟨#[.int .i64 N, .slice (some ⟨0, 0, none⟩) ops.length ops.length, .slice (some ⟨1, 0, none⟩) N N], 53, 0, true⟩, nwF (evOut (regF ops xs) out)]) hf3 w rfl fun i u hu => ?_
  have hu' : u ∈ (evOut (regF ops xs) out).flatMap fC := List.mem_of_getElem? (by simpa using hu)
  simp only [List.mem_flatMap, fC, List.mem_singleton] at hu'
  obtain ⟨a, _, rfl⟩ := hu'
  rfl

end Go.Proofs.Ytclphdmaedpipaa
