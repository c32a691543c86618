/- tape.EvalIv, round by round: the state before a round, and what a round makes of it. -/
import Derived.Test.YtpmdpbljgidllaaTpE
import Derived.Test.YtpmdpbljgidllaaTpD
namespace Go.Proofs.Ytpmdpbljgidllaa
open Go
set_option linter.unusedVariables false
set_option linter.unusedSimpArgs false
set_option maxRecDepth 100000

/-- tape.EvalIv's slots that are asked for, as tape.Eval's; the from-tos' arithmetic is asked for too. -/
noncomputable def askTei (g : FuncId) : Nat := if g == 60 || g == 61 || g == 62 || g == 63 then 5 else askTe g
noncomputable def ivFn (K : Int) : FuncId := if K = 2 then 60 else if K = 3 then 61 else if K = 4 then 62 else 63
def kbEi : Option ABlk := some ⟨#[.func (.func 59) #[] #[], .func (.func 60) #[] #[], .func (.func 61) #[] #[], .func (.func 62) #[] #[], .func (.func 63) #[] #[]], 69, 0, true⟩
def outEi (b0 b1 b2 b3 : Option ABlk) (x : Value) (N M k : Nat) (F : Nat → Nat × Nat) (v : Nat × Nat) : SlE :=
  (135, [x, .pointer (some ⟨4, 0, none⟩), .pointer (some ⟨5, 0, none⟩), rvE (k + 1), .slice (some ⟨0, 0, none⟩) M M, .int .i64 M, .int .i64 (Int.ofNat (k + 1))], [b0, b1, b2, b3, kbEi, tbE N M], 6 + (3 * k + 2) + 1,
    some (some ⟨(((List.range k).flatMap fun i => pC (F i)) ++ pC v).toArray, 39, 2, true⟩))
noncomputable def bodyEi : Code := bodyAt Try.prog 45 0
def rgEi (F : Nat → Nat × Nat) (k : Nat) : List (Option ABlk) := match k with
  | 0 => []
  | k + 1 => [some ⟨((List.range (k + 1)).flatMap fun i => pC (F i)).toArray, 39, 2, true⟩]
def hpEi (bs : List (Option ABlk)) (N M k : Nat) (F : Nat → Nat × Nat) (g : Nat → Option ABlk) : List (Option ABlk) := bs ++ [kbEi, tbE N M] ++ jkE g k ++ rgEi F k
noncomputable def runEi (b0 b1 b2 b3 : Option ABlk) (N M k : Nat) (x : Value) (F : Nat → Nat × Nat) (g : Nat → Option ABlk) (j : Nat → Value) (s : List Ans) : Option (AExit × SlE × List Obl × List LpO) :=
  (rndT askTei lssC bodyEi (tmE x (rvE k) M k j) (hpEi [b0, b1, b2, b3] N M k F g).toArray s []).map fun r => (r.1, slE r.2.1 r.2.2.1, r.2.2.2)
def RdBinEi (k : Nat) (K : Int) : Prop := ∀ (b0 b1 b2 b3 : Option ABlk) (N M : Nat) (A B : Int) (C : Nat) (fa fb v : Nat × Nat) (x : Value) (po pa pb : Addr) (F : Nat → Nat × Nat) (g : Nat → Option ABlk) (j : Nat → Value),
  runEi b0 b1 b2 b3 N M k x F g j [yes true, pAnsT po, vAns (opV K A B C), pAnsT pa, vAns (vI fa), pAnsT pb, vAns (vI fb), vAns (vI v)] =
    some (.normal, outEi b0 b1 b2 b3 x N M k F v, lgE (hpEi [b0, b1, b2, b3] N M k F g) M k po (opV K A B C) ++ lgRI (hpEi [b0, b1, b2, b3] N M k F g ++ [obE K A B C]) (rvE k) A pa fa ++ lgRI (hpEi [b0, b1, b2, b3] N M k F g ++ [obE K A B C]) (rvE k) B pb fb ++ [.run (ivFn K) #[vI fa, vI fb] #[] (vI v) #[]], [])
def RdConEi (k : Nat) : Prop := ∀ (b0 b1 b2 b3 : Option ABlk) (N M : Nat) (A B : Int) (C : Nat) (x : Value) (po : Addr) (F : Nat → Nat × Nat) (g : Nat → Option ABlk) (j : Nat → Value),
  runEi b0 b1 b2 b3 N M k x F g j [yes true, pAnsT po, vAns (opV 0 A B C)] = some (.normal, outEi b0 b1 b2 b3 x N M k F (C, C), lgE (hpEi [b0, b1, b2, b3] N M k F g) M k po (opV 0 A B C), [])
def RdVarEi (k : Nat) : Prop := ∀ (b0 b1 b2 b3 : Option ABlk) (N M : Nat) (A B : Int) (C : Nat) (fa : Nat × Nat) (x : Value) (po pa : Addr) (F : Nat → Nat × Nat) (g : Nat → Option ABlk) (j : Nat → Value),
  runEi b0 b1 b2 b3 N M k x F g j [yes true, pAnsT po, vAns (opV 1 A B C), pAnsT pa, vAns (vI fa)] = some (.normal, outEi b0 b1 b2 b3 x N M k F fa, lgE (hpEi [b0, b1, b2, b3] N M k F g) M k po (opV 1 A B C) ++ lgRI (hpEi [b0, b1, b2, b3] N M k F g ++ [obE 1 A B C]) x A pa fa, [])

theorem rdConEi_0 : RdConEi 0 := fun _ _ _ _ _ _ _ _ _ _ _ _ _ _ => by kernel_rfl
theorem rdVarEi_0 : RdVarEi 0 := fun _ _ _ _ _ _ _ _ _ _ _ _ _ _ _ _ => by kernel_rfl
theorem rdConEi_1 : RdConEi 1 := fun _ _ _ _ _ _ _ _ _ _ _ _ _ _ => by kernel_rfl
theorem rdVarEi_1 : RdVarEi 1 := fun _ _ _ _ _ _ _ _ _ _ _ _ _ _ _ _ => by kernel_rfl
theorem rdBinEi_1_2 : RdBinEi 1 2 := fun _ _ _ _ _ _ _ _ _ _ _ _ _ _ _ _ _ _ _ => by kernel_rfl
theorem rdBinEi_1_3 : RdBinEi 1 3 := fun _ _ _ _ _ _ _ _ _ _ _ _ _ _ _ _ _ _ _ => by kernel_rfl
theorem rdBinEi_1_4 : RdBinEi 1 4 := fun _ _ _ _ _ _ _ _ _ _ _ _ _ _ _ _ _ _ _ => by kernel_rfl
theorem rdBinEi_1_5 : RdBinEi 1 5 := fun _ _ _ _ _ _ _ _ _ _ _ _ _ _ _ _ _ _ _ => by kernel_rfl
theorem rdConEi_2 : RdConEi 2 := fun _ _ _ _ _ _ _ _ _ _ _ _ _ _ => by kernel_rfl
theorem rdVarEi_2 : RdVarEi 2 := fun _ _ _ _ _ _ _ _ _ _ _ _ _ _ _ _ => by kernel_rfl
theorem rdBinEi_2_2 : RdBinEi 2 2 := fun _ _ _ _ _ _ _ _ _ _ _ _ _ _ _ _ _ _ _ => by kernel_rfl
theorem rdBinEi_2_3 : RdBinEi 2 3 := fun _ _ _ _ _ _ _ _ _ _ _ _ _ _ _ _ _ _ _ => by kernel_rfl
theorem rdBinEi_2_4 : RdBinEi 2 4 := fun _ _ _ _ _ _ _ _ _ _ _ _ _ _ _ _ _ _ _ => by kernel_rfl
theorem rdBinEi_2_5 : RdBinEi 2 5 := fun _ _ _ _ _ _ _ _ _ _ _ _ _ _ _ _ _ _ _ => by kernel_rfl
theorem rdConEi_3 : RdConEi 3 := fun _ _ _ _ _ _ _ _ _ _ _ _ _ _ => by kernel_rfl
theorem rdVarEi_3 : RdVarEi 3 := fun _ _ _ _ _ _ _ _ _ _ _ _ _ _ _ _ => by kernel_rfl
theorem rdBinEi_3_2 : RdBinEi 3 2 := fun _ _ _ _ _ _ _ _ _ _ _ _ _ _ _ _ _ _ _ => by kernel_rfl
theorem rdBinEi_3_3 : RdBinEi 3 3 := fun _ _ _ _ _ _ _ _ _ _ _ _ _ _ _ _ _ _ _ => by kernel_rfl
theorem rdBinEi_3_4 : RdBinEi 3 4 := fun _ _ _ _ _ _ _ _ _ _ _ _ _ _ _ _ _ _ _ => by kernel_rfl
theorem rdBinEi_3_5 : RdBinEi 3 5 := fun _ _ _ _ _ _ _ _ _ _ _ _ _ _ _ _ _ _ _ => by kernel_rfl
theorem rdConEi_4 : RdConEi 4 := fun _ _ _ _ _ _ _ _ _ _ _ _ _ _ => by kernel_rfl
theorem rdVarEi_4 : RdVarEi 4 := fun _ _ _ _ _ _ _ _ _ _ _ _ _ _ _ _ => by kernel_rfl
theorem rdBinEi_4_2 : RdBinEi 4 2 := fun _ _ _ _ _ _ _ _ _ _ _ _ _ _ _ _ _ _ _ => by kernel_rfl
theorem rdBinEi_4_3 : RdBinEi 4 3 := fun _ _ _ _ _ _ _ _ _ _ _ _ _ _ _ _ _ _ _ => by kernel_rfl
theorem rdBinEi_4_4 : RdBinEi 4 4 := fun _ _ _ _ _ _ _ _ _ _ _ _ _ _ _ _ _ _ _ => by kernel_rfl
theorem rdBinEi_4_5 : RdBinEi 4 5 := fun _ _ _ _ _ _ _ _ _ _ _ _ _ _ _ _ _ _ _ => by kernel_rfl
theorem rdConEi_5 : RdConEi 5 := fun _ _ _ _ _ _ _ _ _ _ _ _ _ _ => by kernel_rfl
theorem rdVarEi_5 : RdVarEi 5 := fun _ _ _ _ _ _ _ _ _ _ _ _ _ _ _ _ => by kernel_rfl
theorem rdBinEi_5_2 : RdBinEi 5 2 := fun _ _ _ _ _ _ _ _ _ _ _ _ _ _ _ _ _ _ _ => by kernel_rfl
theorem rdBinEi_5_3 : RdBinEi 5 3 := fun _ _ _ _ _ _ _ _ _ _ _ _ _ _ _ _ _ _ _ => by kernel_rfl
theorem rdBinEi_5_4 : RdBinEi 5 4 := fun _ _ _ _ _ _ _ _ _ _ _ _ _ _ _ _ _ _ _ => by kernel_rfl
theorem rdBinEi_5_5 : RdBinEi 5 5 := fun _ _ _ _ _ _ _ _ _ _ _ _ _ _ _ _ _ _ _ => by kernel_rfl
theorem rdConEi_6 : RdConEi 6 := fun _ _ _ _ _ _ _ _ _ _ _ _ _ _ => by kernel_rfl
theorem rdVarEi_6 : RdVarEi 6 := fun _ _ _ _ _ _ _ _ _ _ _ _ _ _ _ _ => by kernel_rfl
theorem rdBinEi_6_2 : RdBinEi 6 2 := fun _ _ _ _ _ _ _ _ _ _ _ _ _ _ _ _ _ _ _ => by kernel_rfl
theorem rdBinEi_6_3 : RdBinEi 6 3 := fun _ _ _ _ _ _ _ _ _ _ _ _ _ _ _ _ _ _ _ => by kernel_rfl
theorem rdBinEi_6_4 : RdBinEi 6 4 := fun _ _ _ _ _ _ _ _ _ _ _ _ _ _ _ _ _ _ _ => by kernel_rfl
theorem rdBinEi_6_5 : RdBinEi 6 5 := fun _ _ _ _ _ _ _ _ _ _ _ _ _ _ _ _ _ _ _ => by kernel_rfl
theorem rdConEi_7 : RdConEi 7 := fun _ _ _ _ _ _ _ _ _ _ _ _ _ _ => by kernel_rfl
theorem rdVarEi_7 : RdVarEi 7 := fun _ _ _ _ _ _ _ _ _ _ _ _ _ _ _ _ => by kernel_rfl
theorem rdBinEi_7_2 : RdBinEi 7 2 := fun _ _ _ _ _ _ _ _ _ _ _ _ _ _ _ _ _ _ _ => by kernel_rfl
theorem rdBinEi_7_3 : RdBinEi 7 3 := fun _ _ _ _ _ _ _ _ _ _ _ _ _ _ _ _ _ _ _ => by kernel_rfl
theorem rdBinEi_7_4 : RdBinEi 7 4 := fun _ _ _ _ _ _ _ _ _ _ _ _ _ _ _ _ _ _ _ => by kernel_rfl
theorem rdBinEi_7_5 : RdBinEi 7 5 := fun _ _ _ _ _ _ _ _ _ _ _ _ _ _ _ _ _ _ _ => by kernel_rfl
theorem rdConEi_8 : RdConEi 8 := fun _ _ _ _ _ _ _ _ _ _ _ _ _ _ => by kernel_rfl
theorem rdVarEi_8 : RdVarEi 8 := fun _ _ _ _ _ _ _ _ _ _ _ _ _ _ _ _ => by kernel_rfl
theorem rdBinEi_8_2 : RdBinEi 8 2 := fun _ _ _ _ _ _ _ _ _ _ _ _ _ _ _ _ _ _ _ => by kernel_rfl
theorem rdBinEi_8_3 : RdBinEi 8 3 := fun _ _ _ _ _ _ _ _ _ _ _ _ _ _ _ _ _ _ _ => by kernel_rfl
theorem rdBinEi_8_4 : RdBinEi 8 4 := fun _ _ _ _ _ _ _ _ _ _ _ _ _ _ _ _ _ _ _ => by kernel_rfl
theorem rdBinEi_8_5 : RdBinEi 8 5 := fun _ _ _ _ _ _ _ _ _ _ _ _ _ _ _ _ _ _ _ => by kernel_rfl
theorem rdConEi_9 : RdConEi 9 := fun _ _ _ _ _ _ _ _ _ _ _ _ _ _ => by kernel_rfl
theorem rdVarEi_9 : RdVarEi 9 := fun _ _ _ _ _ _ _ _ _ _ _ _ _ _ _ _ => by kernel_rfl
theorem rdBinEi_9_2 : RdBinEi 9 2 := fun _ _ _ _ _ _ _ _ _ _ _ _ _ _ _ _ _ _ _ => by kernel_rfl
theorem rdBinEi_9_3 : RdBinEi 9 3 := fun _ _ _ _ _ _ _ _ _ _ _ _ _ _ _ _ _ _ _ => by kernel_rfl
theorem rdBinEi_9_4 : RdBinEi 9 4 := fun _ _ _ _ _ _ _ _ _ _ _ _ _ _ _ _ _ _ _ => by kernel_rfl
theorem rdBinEi_9_5 : RdBinEi 9 5 := fun _ _ _ _ _ _ _ _ _ _ _ _ _ _ _ _ _ _ _ => by kernel_rfl
theorem rdConEi_10 : RdConEi 10 := fun _ _ _ _ _ _ _ _ _ _ _ _ _ _ => by kernel_rfl
theorem rdVarEi_10 : RdVarEi 10 := fun _ _ _ _ _ _ _ _ _ _ _ _ _ _ _ _ => by kernel_rfl
theorem rdBinEi_10_2 : RdBinEi 10 2 := fun _ _ _ _ _ _ _ _ _ _ _ _ _ _ _ _ _ _ _ => by kernel_rfl
theorem rdBinEi_10_3 : RdBinEi 10 3 := fun _ _ _ _ _ _ _ _ _ _ _ _ _ _ _ _ _ _ _ => by kernel_rfl
theorem rdBinEi_10_4 : RdBinEi 10 4 := fun _ _ _ _ _ _ _ _ _ _ _ _ _ _ _ _ _ _ _ => by kernel_rfl
theorem rdBinEi_10_5 : RdBinEi 10 5 := fun _ _ _ _ _ _ _ _ _ _ _ _ _ _ _ _ _ _ _ => by kernel_rfl
theorem rdConEi_11 : RdConEi 11 := fun _ _ _ _ _ _ _ _ _ _ _ _ _ _ => by kernel_rfl
theorem rdVarEi_11 : RdVarEi 11 := fun _ _ _ _ _ _ _ _ _ _ _ _ _ _ _ _ => by kernel_rfl
theorem rdBinEi_11_2 : RdBinEi 11 2 := fun _ _ _ _ _ _ _ _ _ _ _ _ _ _ _ _ _ _ _ => by kernel_rfl
theorem rdBinEi_11_3 : RdBinEi 11 3 := fun _ _ _ _ _ _ _ _ _ _ _ _ _ _ _ _ _ _ _ => by kernel_rfl
theorem rdBinEi_11_4 : RdBinEi 11 4 := fun _ _ _ _ _ _ _ _ _ _ _ _ _ _ _ _ _ _ _ => by kernel_rfl
theorem rdBinEi_11_5 : RdBinEi 11 5 := fun _ _ _ _ _ _ _ _ _ _ _ _ _ _ _ _ _ _ _ => by kernel_rfl
theorem rdConEi_12 : RdConEi 12 := fun _ _ _ _ _ _ _ _ _ _ _ _ _ _ => by kernel_rfl
theorem rdVarEi_12 : RdVarEi 12 := fun _ _ _ _ _ _ _ _ _ _ _ _ _ _ _ _ => by kernel_rfl
theorem rdBinEi_12_2 : RdBinEi 12 2 := fun _ _ _ _ _ _ _ _ _ _ _ _ _ _ _ _ _ _ _ => by kernel_rfl
theorem rdBinEi_12_3 : RdBinEi 12 3 := fun _ _ _ _ _ _ _ _ _ _ _ _ _ _ _ _ _ _ _ => by kernel_rfl
theorem rdBinEi_12_4 : RdBinEi 12 4 := fun _ _ _ _ _ _ _ _ _ _ _ _ _ _ _ _ _ _ _ => by kernel_rfl
theorem rdBinEi_12_5 : RdBinEi 12 5 := fun _ _ _ _ _ _ _ _ _ _ _ _ _ _ _ _ _ _ _ => by kernel_rfl
theorem rdConEi_13 : RdConEi 13 := fun _ _ _ _ _ _ _ _ _ _ _ _ _ _ => by kernel_rfl
theorem rdVarEi_13 : RdVarEi 13 := fun _ _ _ _ _ _ _ _ _ _ _ _ _ _ _ _ => by kernel_rfl
theorem rdBinEi_13_2 : RdBinEi 13 2 := fun _ _ _ _ _ _ _ _ _ _ _ _ _ _ _ _ _ _ _ => by kernel_rfl
theorem rdBinEi_13_3 : RdBinEi 13 3 := fun _ _ _ _ _ _ _ _ _ _ _ _ _ _ _ _ _ _ _ => by kernel_rfl
theorem rdBinEi_13_4 : RdBinEi 13 4 := fun _ _ _ _ _ _ _ _ _ _ _ _ _ _ _ _ _ _ _ => by kernel_rfl
theorem rdBinEi_13_5 : RdBinEi 13 5 := fun _ _ _ _ _ _ _ _ _ _ _ _ _ _ _ _ _ _ _ => by kernel_rfl
theorem rdConEi_14 : RdConEi 14 := fun _ _ _ _ _ _ _ _ _ _ _ _ _ _ => by kernel_rfl
theorem rdVarEi_14 : RdVarEi 14 := fun _ _ _ _ _ _ _ _ _ _ _ _ _ _ _ _ => by kernel_rfl
theorem rdBinEi_14_2 : RdBinEi 14 2 := fun _ _ _ _ _ _ _ _ _ _ _ _ _ _ _ _ _ _ _ => by kernel_rfl
theorem rdBinEi_14_3 : RdBinEi 14 3 := fun _ _ _ _ _ _ _ _ _ _ _ _ _ _ _ _ _ _ _ => by kernel_rfl
theorem rdBinEi_14_4 : RdBinEi 14 4 := fun _ _ _ _ _ _ _ _ _ _ _ _ _ _ _ _ _ _ _ => by kernel_rfl
theorem rdBinEi_14_5 : RdBinEi 14 5 := fun _ _ _ _ _ _ _ _ _ _ _ _ _ _ _ _ _ _ _ => by kernel_rfl
theorem rdConEi_15 : RdConEi 15 := fun _ _ _ _ _ _ _ _ _ _ _ _ _ _ => by kernel_rfl
theorem rdVarEi_15 : RdVarEi 15 := fun _ _ _ _ _ _ _ _ _ _ _ _ _ _ _ _ => by kernel_rfl
theorem rdBinEi_15_2 : RdBinEi 15 2 := fun _ _ _ _ _ _ _ _ _ _ _ _ _ _ _ _ _ _ _ => by kernel_rfl
theorem rdBinEi_15_3 : RdBinEi 15 3 := fun _ _ _ _ _ _ _ _ _ _ _ _ _ _ _ _ _ _ _ => by kernel_rfl
theorem rdBinEi_15_4 : RdBinEi 15 4 := fun _ _ _ _ _ _ _ _ _ _ _ _ _ _ _ _ _ _ _ => by kernel_rfl
theorem rdBinEi_15_5 : RdBinEi 15 5 := fun _ _ _ _ _ _ _ _ _ _ _ _ _ _ _ _ _ _ _ => by kernel_rfl
theorem rdConEi_16 : RdConEi 16 := fun _ _ _ _ _ _ _ _ _ _ _ _ _ _ => by kernel_rfl
theorem rdVarEi_16 : RdVarEi 16 := fun _ _ _ _ _ _ _ _ _ _ _ _ _ _ _ _ => by kernel_rfl
theorem rdBinEi_16_2 : RdBinEi 16 2 := fun _ _ _ _ _ _ _ _ _ _ _ _ _ _ _ _ _ _ _ => by kernel_rfl
theorem rdBinEi_16_3 : RdBinEi 16 3 := fun _ _ _ _ _ _ _ _ _ _ _ _ _ _ _ _ _ _ _ => by kernel_rfl
theorem rdBinEi_16_4 : RdBinEi 16 4 := fun _ _ _ _ _ _ _ _ _ _ _ _ _ _ _ _ _ _ _ => by kernel_rfl
theorem rdBinEi_16_5 : RdBinEi 16 5 := fun _ _ _ _ _ _ _ _ _ _ _ _ _ _ _ _ _ _ _ => by kernel_rfl
theorem rdConEi_17 : RdConEi 17 := fun _ _ _ _ _ _ _ _ _ _ _ _ _ _ => by kernel_rfl
theorem rdVarEi_17 : RdVarEi 17 := fun _ _ _ _ _ _ _ _ _ _ _ _ _ _ _ _ => by kernel_rfl
theorem rdBinEi_17_2 : RdBinEi 17 2 := fun _ _ _ _ _ _ _ _ _ _ _ _ _ _ _ _ _ _ _ => by kernel_rfl
theorem rdBinEi_17_3 : RdBinEi 17 3 := fun _ _ _ _ _ _ _ _ _ _ _ _ _ _ _ _ _ _ _ => by kernel_rfl
theorem rdBinEi_17_4 : RdBinEi 17 4 := fun _ _ _ _ _ _ _ _ _ _ _ _ _ _ _ _ _ _ _ => by kernel_rfl
theorem rdBinEi_17_5 : RdBinEi 17 5 := fun _ _ _ _ _ _ _ _ _ _ _ _ _ _ _ _ _ _ _ => by kernel_rfl
theorem rdConEi_18 : RdConEi 18 := fun _ _ _ _ _ _ _ _ _ _ _ _ _ _ => by kernel_rfl
theorem rdVarEi_18 : RdVarEi 18 := fun _ _ _ _ _ _ _ _ _ _ _ _ _ _ _ _ => by kernel_rfl
theorem rdBinEi_18_2 : RdBinEi 18 2 := fun _ _ _ _ _ _ _ _ _ _ _ _ _ _ _ _ _ _ _ => by kernel_rfl
theorem rdBinEi_18_3 : RdBinEi 18 3 := fun _ _ _ _ _ _ _ _ _ _ _ _ _ _ _ _ _ _ _ => by kernel_rfl
theorem rdBinEi_18_4 : RdBinEi 18 4 := fun _ _ _ _ _ _ _ _ _ _ _ _ _ _ _ _ _ _ _ => by kernel_rfl
theorem rdBinEi_18_5 : RdBinEi 18 5 := fun _ _ _ _ _ _ _ _ _ _ _ _ _ _ _ _ _ _ _ => by kernel_rfl
theorem rdConEi_19 : RdConEi 19 := fun _ _ _ _ _ _ _ _ _ _ _ _ _ _ => by kernel_rfl
theorem rdVarEi_19 : RdVarEi 19 := fun _ _ _ _ _ _ _ _ _ _ _ _ _ _ _ _ => by kernel_rfl
theorem rdBinEi_19_2 : RdBinEi 19 2 := fun _ _ _ _ _ _ _ _ _ _ _ _ _ _ _ _ _ _ _ => by kernel_rfl
theorem rdBinEi_19_3 : RdBinEi 19 3 := fun _ _ _ _ _ _ _ _ _ _ _ _ _ _ _ _ _ _ _ => by kernel_rfl
theorem rdBinEi_19_4 : RdBinEi 19 4 := fun _ _ _ _ _ _ _ _ _ _ _ _ _ _ _ _ _ _ _ => by kernel_rfl
theorem rdBinEi_19_5 : RdBinEi 19 5 := fun _ _ _ _ _ _ _ _ _ _ _ _ _ _ _ _ _ _ _ => by kernel_rfl
theorem rdConEi_20 : RdConEi 20 := fun _ _ _ _ _ _ _ _ _ _ _ _ _ _ => by kernel_rfl
theorem rdVarEi_20 : RdVarEi 20 := fun _ _ _ _ _ _ _ _ _ _ _ _ _ _ _ _ => by kernel_rfl
theorem rdBinEi_20_2 : RdBinEi 20 2 := fun _ _ _ _ _ _ _ _ _ _ _ _ _ _ _ _ _ _ _ => by kernel_rfl
theorem rdBinEi_20_3 : RdBinEi 20 3 := fun _ _ _ _ _ _ _ _ _ _ _ _ _ _ _ _ _ _ _ => by kernel_rfl
theorem rdBinEi_20_4 : RdBinEi 20 4 := fun _ _ _ _ _ _ _ _ _ _ _ _ _ _ _ _ _ _ _ => by kernel_rfl
theorem rdBinEi_20_5 : RdBinEi 20 5 := fun _ _ _ _ _ _ _ _ _ _ _ _ _ _ _ _ _ _ _ => by kernel_rfl

end Go.Proofs.Ytpmdpbljgidllaa
