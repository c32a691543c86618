/- The document's EvalIv, round by round: the state before a round, and what a round makes of it. -/
import Derived.Test.YtpmdpbljgidllaaTpD
import Derived.Test.YtpmdpbljgidllaaTpRf
namespace Go.Proofs.Ytpmdpbljgidllaa
open Go
set_option linter.unusedVariables false
set_option linter.unusedSimpArgs false
set_option maxRecDepth 100000

/-- The slots that are asked for. -/
noncomputable def askRi (g : FuncId) : Nat := if g == 1000013 || g == 1000024 || g == 1000025 || g == 1000035 || g == 1000036 || g == 1000040 || g == 1000041 || g == 1000043 || g == 1000051 || g == 1000059 || g == 1000060 || g == 1000061 || g == 1000074 || g == 1000075 || g == 1000076 then 7 else if g == 57 then 1 else 0
noncomputable def bodyRi : Code := bodyAt Try.prog 38 0
def tmRi (x : Value) (M k : Nat) (j : Nat → Value) : List Value := (List.range 80).map fun i =>
  if i = 1 then x else if i = 2 then .pointer (some ⟨3, 0, none⟩) else if i = 4 then .slice none 0 0 else if i = 5 then .slice (some ⟨4, 0, none⟩) M M else if i = 6 then .int .i64 k else j i
def outRi (b0 b1 b2 : Option ABlk) (x : Value) (N M k : Nat) (rb : Option ABlk) : SlR :=
  (80, [x, .pointer (some ⟨3, 0, none⟩), .slice none 0 0, .slice (some ⟨4, 0, none⟩) M M, .int .i64 (Int.ofNat (k + 1))], [b0, b1, b2, tbE N M, rb], 5 + (k + 1))
noncomputable def runRi (b0 b1 b2 : Option ABlk) (N M k : Nat) (x : Value) (rb : Option ABlk) (g : Nat → Option ABlk) (j : Nat → Value) (s : List Ans) : Option (AExit × SlR × List Obl × List LpO) :=
  (rndT askRi lssC bodyRi (tmRi x M k j) (hpR b0 b1 b2 N M rb k g).toArray s []).map fun r => (r.1, slR r.2.1 r.2.2.1, r.2.2.2)
/-- What is asked at a round's end: the register's place, and the register there. -/
noncomputable def lgWRi (H H' : List (Option ABlk)) (M k : Nat) (pi : Addr) (v : (Nat × Nat)) : List Obl :=
  [.ex (indexAddrV Try.prog 37 (.slice (some ⟨4, 0, none⟩) M M) (.int .i64 k) = some (.pointer (some pi))), .ex (writeVar Try.prog H.toArray 39 pi (vI v) = some H'.toArray)]
def RdBinRi (k : Nat) (K : Int) : Prop := ∀ (b0 b1 b2 : Option ABlk) (N M : Nat) (A B : Int) (C : Nat) (fa fb : (Nat × Nat)) (v : Nat × Nat) (x : Value) (po pa pb pi : Addr) (rb rb' : Option ABlk) (g : Nat → Option ABlk) (j : Nat → Value),
  runRi b0 b1 b2 N M k x rb g j [yes true, pAnsT po, vAns (opV K A B C), pAnsT pa, vAns (vI fa), pAnsT pb, vAns (vI fb), vAns (vI v), pAnsT pi, mAnsT undef (hpR b0 b1 b2 N M rb' k g ++ [obE K A B C])] =
    some (.normal, outRi b0 b1 b2 x N M k rb', lgE (hpR b0 b1 b2 N M rb k g) M k po (opV K A B C) ++ lgRI (hpR b0 b1 b2 N M rb k g ++ [obE K A B C]) (.slice (some ⟨4, 0, none⟩) M M) A pa fa ++ lgRI (hpR b0 b1 b2 N M rb k g ++ [obE K A B C]) (.slice (some ⟨4, 0, none⟩) M M) B pb fb ++ [.run 57 #[.int .i64 K, vI fa, vI fb] #[] (vI v) #[]] ++ lgWRi (hpR b0 b1 b2 N M rb k g ++ [obE K A B C]) (hpR b0 b1 b2 N M rb' k g ++ [obE K A B C]) M k pi v, [])
def RdConRi (k : Nat) : Prop := ∀ (b0 b1 b2 : Option ABlk) (N M : Nat) (A B : Int) (C : Nat) (x : Value) (po pi : Addr) (rb rb' : Option ABlk) (g : Nat → Option ABlk) (j : Nat → Value),
  runRi b0 b1 b2 N M k x rb g j [yes true, pAnsT po, vAns (opV 0 A B C), pAnsT pi, mAnsT undef (hpR b0 b1 b2 N M rb' k g ++ [obE 0 A B C])] = some (.normal, outRi b0 b1 b2 x N M k rb', lgE (hpR b0 b1 b2 N M rb k g) M k po (opV 0 A B C) ++ lgWRi (hpR b0 b1 b2 N M rb k g ++ [obE 0 A B C]) (hpR b0 b1 b2 N M rb' k g ++ [obE 0 A B C]) M k pi (C, C), [])
def RdVarRi (k : Nat) : Prop := ∀ (b0 b1 b2 : Option ABlk) (N M : Nat) (A B : Int) (C : Nat) (fa : (Nat × Nat)) (x : Value) (po pa pi : Addr) (rb rb' : Option ABlk) (g : Nat → Option ABlk) (j : Nat → Value),
  runRi b0 b1 b2 N M k x rb g j [yes true, pAnsT po, vAns (opV 1 A B C), pAnsT pa, vAns (vI fa), pAnsT pi, mAnsT undef (hpR b0 b1 b2 N M rb' k g ++ [obE 1 A B C])] = some (.normal, outRi b0 b1 b2 x N M k rb', lgE (hpR b0 b1 b2 N M rb k g) M k po (opV 1 A B C) ++ lgRI (hpR b0 b1 b2 N M rb k g ++ [obE 1 A B C]) x A pa fa ++ lgWRi (hpR b0 b1 b2 N M rb k g ++ [obE 1 A B C]) (hpR b0 b1 b2 N M rb' k g ++ [obE 1 A B C]) M k pi fa, [])
def RdEndRi (k : Nat) : Prop := ∀ (b0 b1 b2 : Option ABlk) (N M : Nat) (x : Value) (rb : Option ABlk) (g : Nat → Option ABlk) (j : Nat → Value),
  (rndT askRi lssC bodyRi (tmRi x M k j) (hpR b0 b1 b2 N M rb k g).toArray [yes false] []).map (fun r => (r.1, ((r.2.1.length, [getT r.2.1 1, getT r.2.1 2, getT r.2.1 4, getT r.2.1 5, getT r.2.1 6]), r.2.2.1), r.2.2.2)) =
  some (.exit 0, ((80, [x, .pointer (some ⟨3, 0, none⟩), .slice none 0 0, .slice (some ⟨4, 0, none⟩) M M, .int .i64 (Int.ofNat k)]), (hpR b0 b1 b2 N M rb k g).toArray), [.cmp .lss 3 (.int .i64 k) (.int .i64 M) false], [])
theorem rdConRi_0 : RdConRi 0 := fun _ _ _ _ _ _ _ _ _ _ _ _ _ _ _ => by kernel_rfl
theorem rdVarRi_0 : RdVarRi 0 := fun _ _ _ _ _ _ _ _ _ _ _ _ _ _ _ _ _ => by kernel_rfl
theorem rdConRi_1 : RdConRi 1 := fun _ _ _ _ _ _ _ _ _ _ _ _ _ _ _ => by kernel_rfl
theorem rdVarRi_1 : RdVarRi 1 := fun _ _ _ _ _ _ _ _ _ _ _ _ _ _ _ _ _ => by kernel_rfl
theorem rdBinRi_1_2 : RdBinRi 1 2 := fun _ _ _ _ _ _ _ _ _ _ _ _ _ _ _ _ _ _ _ _ => by kernel_rfl
theorem rdBinRi_1_3 : RdBinRi 1 3 := fun _ _ _ _ _ _ _ _ _ _ _ _ _ _ _ _ _ _ _ _ => by kernel_rfl
theorem rdBinRi_1_4 : RdBinRi 1 4 := fun _ _ _ _ _ _ _ _ _ _ _ _ _ _ _ _ _ _ _ _ => by kernel_rfl
theorem rdBinRi_1_5 : RdBinRi 1 5 := fun _ _ _ _ _ _ _ _ _ _ _ _ _ _ _ _ _ _ _ _ => by kernel_rfl
theorem rdConRi_2 : RdConRi 2 := fun _ _ _ _ _ _ _ _ _ _ _ _ _ _ _ => by kernel_rfl
theorem rdVarRi_2 : RdVarRi 2 := fun _ _ _ _ _ _ _ _ _ _ _ _ _ _ _ _ _ => by kernel_rfl
theorem rdBinRi_2_2 : RdBinRi 2 2 := fun _ _ _ _ _ _ _ _ _ _ _ _ _ _ _ _ _ _ _ _ => by kernel_rfl
theorem rdBinRi_2_3 : RdBinRi 2 3 := fun _ _ _ _ _ _ _ _ _ _ _ _ _ _ _ _ _ _ _ _ => by kernel_rfl
theorem rdBinRi_2_4 : RdBinRi 2 4 := fun _ _ _ _ _ _ _ _ _ _ _ _ _ _ _ _ _ _ _ _ => by kernel_rfl
theorem rdBinRi_2_5 : RdBinRi 2 5 := fun _ _ _ _ _ _ _ _ _ _ _ _ _ _ _ _ _ _ _ _ => by kernel_rfl
theorem rdEndRi_2 : RdEndRi 2 := fun _ _ _ _ _ _ _ _ _ => by kernel_rfl
theorem rdConRi_3 : RdConRi 3 := fun _ _ _ _ _ _ _ _ _ _ _ _ _ _ _ => by kernel_rfl
theorem rdVarRi_3 : RdVarRi 3 := fun _ _ _ _ _ _ _ _ _ _ _ _ _ _ _ _ _ => by kernel_rfl
theorem rdBinRi_3_2 : RdBinRi 3 2 := fun _ _ _ _ _ _ _ _ _ _ _ _ _ _ _ _ _ _ _ _ => by kernel_rfl
theorem rdBinRi_3_3 : RdBinRi 3 3 := fun _ _ _ _ _ _ _ _ _ _ _ _ _ _ _ _ _ _ _ _ => by kernel_rfl
theorem rdBinRi_3_4 : RdBinRi 3 4 := fun _ _ _ _ _ _ _ _ _ _ _ _ _ _ _ _ _ _ _ _ => by kernel_rfl
theorem rdBinRi_3_5 : RdBinRi 3 5 := fun _ _ _ _ _ _ _ _ _ _ _ _ _ _ _ _ _ _ _ _ => by kernel_rfl
theorem rdEndRi_3 : RdEndRi 3 := fun _ _ _ _ _ _ _ _ _ => by kernel_rfl
theorem rdConRi_4 : RdConRi 4 := fun _ _ _ _ _ _ _ _ _ _ _ _ _ _ _ => by kernel_rfl
theorem rdVarRi_4 : RdVarRi 4 := fun _ _ _ _ _ _ _ _ _ _ _ _ _ _ _ _ _ => by kernel_rfl
theorem rdBinRi_4_2 : RdBinRi 4 2 := fun _ _ _ _ _ _ _ _ _ _ _ _ _ _ _ _ _ _ _ _ => by kernel_rfl
theorem rdBinRi_4_3 : RdBinRi 4 3 := fun _ _ _ _ _ _ _ _ _ _ _ _ _ _ _ _ _ _ _ _ => by kernel_rfl
theorem rdBinRi_4_4 : RdBinRi 4 4 := fun _ _ _ _ _ _ _ _ _ _ _ _ _ _ _ _ _ _ _ _ => by kernel_rfl
theorem rdBinRi_4_5 : RdBinRi 4 5 := fun _ _ _ _ _ _ _ _ _ _ _ _ _ _ _ _ _ _ _ _ => by kernel_rfl
theorem rdEndRi_4 : RdEndRi 4 := fun _ _ _ _ _ _ _ _ _ => by kernel_rfl
theorem rdConRi_5 : RdConRi 5 := fun _ _ _ _ _ _ _ _ _ _ _ _ _ _ _ => by kernel_rfl
theorem rdVarRi_5 : RdVarRi 5 := fun _ _ _ _ _ _ _ _ _ _ _ _ _ _ _ _ _ => by kernel_rfl
theorem rdBinRi_5_2 : RdBinRi 5 2 := fun _ _ _ _ _ _ _ _ _ _ _ _ _ _ _ _ _ _ _ _ => by kernel_rfl
theorem rdBinRi_5_3 : RdBinRi 5 3 := fun _ _ _ _ _ _ _ _ _ _ _ _ _ _ _ _ _ _ _ _ => by kernel_rfl
theorem rdBinRi_5_4 : RdBinRi 5 4 := fun _ _ _ _ _ _ _ _ _ _ _ _ _ _ _ _ _ _ _ _ => by kernel_rfl
theorem rdBinRi_5_5 : RdBinRi 5 5 := fun _ _ _ _ _ _ _ _ _ _ _ _ _ _ _ _ _ _ _ _ => by kernel_rfl
theorem rdEndRi_5 : RdEndRi 5 := fun _ _ _ _ _ _ _ _ _ => by kernel_rfl
theorem rdConRi_6 : RdConRi 6 := fun _ _ _ _ _ _ _ _ _ _ _ _ _ _ _ => by kernel_rfl
theorem rdVarRi_6 : RdVarRi 6 := fun _ _ _ _ _ _ _ _ _ _ _ _ _ _ _ _ _ => by kernel_rfl
theorem rdBinRi_6_2 : RdBinRi 6 2 := fun _ _ _ _ _ _ _ _ _ _ _ _ _ _ _ _ _ _ _ _ => by kernel_rfl
theorem rdBinRi_6_3 : RdBinRi 6 3 := fun _ _ _ _ _ _ _ _ _ _ _ _ _ _ _ _ _ _ _ _ => by kernel_rfl
theorem rdBinRi_6_4 : RdBinRi 6 4 := fun _ _ _ _ _ _ _ _ _ _ _ _ _ _ _ _ _ _ _ _ => by kernel_rfl
theorem rdBinRi_6_5 : RdBinRi 6 5 := fun _ _ _ _ _ _ _ _ _ _ _ _ _ _ _ _ _ _ _ _ => by kernel_rfl
theorem rdEndRi_6 : RdEndRi 6 := fun _ _ _ _ _ _ _ _ _ => by kernel_rfl
theorem rdConRi_7 : RdConRi 7 := fun _ _ _ _ _ _ _ _ _ _ _ _ _ _ _ => by kernel_rfl
theorem rdVarRi_7 : RdVarRi 7 := fun _ _ _ _ _ _ _ _ _ _ _ _ _ _ _ _ _ => by kernel_rfl
theorem rdBinRi_7_2 : RdBinRi 7 2 := fun _ _ _ _ _ _ _ _ _ _ _ _ _ _ _ _ _ _ _ _ => by kernel_rfl
theorem rdBinRi_7_3 : RdBinRi 7 3 := fun _ _ _ _ _ _ _ _ _ _ _ _ _ _ _ _ _ _ _ _ => by kernel_rfl
theorem rdBinRi_7_4 : RdBinRi 7 4 := fun _ _ _ _ _ _ _ _ _ _ _ _ _ _ _ _ _ _ _ _ => by kernel_rfl
theorem rdBinRi_7_5 : RdBinRi 7 5 := fun _ _ _ _ _ _ _ _ _ _ _ _ _ _ _ _ _ _ _ _ => by kernel_rfl
theorem rdEndRi_7 : RdEndRi 7 := fun _ _ _ _ _ _ _ _ _ => by kernel_rfl
theorem rdConRi_8 : RdConRi 8 := fun _ _ _ _ _ _ _ _ _ _ _ _ _ _ _ => by kernel_rfl
theorem rdVarRi_8 : RdVarRi 8 := fun _ _ _ _ _ _ _ _ _ _ _ _ _ _ _ _ _ => by kernel_rfl
theorem rdBinRi_8_2 : RdBinRi 8 2 := fun _ _ _ _ _ _ _ _ _ _ _ _ _ _ _ _ _ _ _ _ => by kernel_rfl
theorem rdBinRi_8_3 : RdBinRi 8 3 := fun _ _ _ _ _ _ _ _ _ _ _ _ _ _ _ _ _ _ _ _ => by kernel_rfl
theorem rdBinRi_8_4 : RdBinRi 8 4 := fun _ _ _ _ _ _ _ _ _ _ _ _ _ _ _ _ _ _ _ _ => by kernel_rfl
theorem rdBinRi_8_5 : RdBinRi 8 5 := fun _ _ _ _ _ _ _ _ _ _ _ _ _ _ _ _ _ _ _ _ => by kernel_rfl
theorem rdEndRi_8 : RdEndRi 8 := fun _ _ _ _ _ _ _ _ _ => by kernel_rfl
theorem rdConRi_9 : RdConRi 9 := fun _ _ _ _ _ _ _ _ _ _ _ _ _ _ _ => by kernel_rfl
theorem rdVarRi_9 : RdVarRi 9 := fun _ _ _ _ _ _ _ _ _ _ _ _ _ _ _ _ _ => by kernel_rfl
theorem rdBinRi_9_2 : RdBinRi 9 2 := fun _ _ _ _ _ _ _ _ _ _ _ _ _ _ _ _ _ _ _ _ => by kernel_rfl
theorem rdBinRi_9_3 : RdBinRi 9 3 := fun _ _ _ _ _ _ _ _ _ _ _ _ _ _ _ _ _ _ _ _ => by kernel_rfl
theorem rdBinRi_9_4 : RdBinRi 9 4 := fun _ _ _ _ _ _ _ _ _ _ _ _ _ _ _ _ _ _ _ _ => by kernel_rfl
theorem rdBinRi_9_5 : RdBinRi 9 5 := fun _ _ _ _ _ _ _ _ _ _ _ _ _ _ _ _ _ _ _ _ => by kernel_rfl
theorem rdEndRi_9 : RdEndRi 9 := fun _ _ _ _ _ _ _ _ _ => by kernel_rfl
theorem rdConRi_10 : RdConRi 10 := fun _ _ _ _ _ _ _ _ _ _ _ _ _ _ _ => by kernel_rfl
theorem rdVarRi_10 : RdVarRi 10 := fun _ _ _ _ _ _ _ _ _ _ _ _ _ _ _ _ _ => by kernel_rfl
theorem rdBinRi_10_2 : RdBinRi 10 2 := fun _ _ _ _ _ _ _ _ _ _ _ _ _ _ _ _ _ _ _ _ => by kernel_rfl
theorem rdBinRi_10_3 : RdBinRi 10 3 := fun _ _ _ _ _ _ _ _ _ _ _ _ _ _ _ _ _ _ _ _ => by kernel_rfl
theorem rdBinRi_10_4 : RdBinRi 10 4 := fun _ _ _ _ _ _ _ _ _ _ _ _ _ _ _ _ _ _ _ _ => by kernel_rfl
theorem rdBinRi_10_5 : RdBinRi 10 5 := fun _ _ _ _ _ _ _ _ _ _ _ _ _ _ _ _ _ _ _ _ => by kernel_rfl
theorem rdEndRi_10 : RdEndRi 10 := fun _ _ _ _ _ _ _ _ _ => by kernel_rfl
theorem rdConRi_11 : RdConRi 11 := fun _ _ _ _ _ _ _ _ _ _ _ _ _ _ _ => by kernel_rfl
theorem rdVarRi_11 : RdVarRi 11 := fun _ _ _ _ _ _ _ _ _ _ _ _ _ _ _ _ _ => by kernel_rfl
theorem rdBinRi_11_2 : RdBinRi 11 2 := fun _ _ _ _ _ _ _ _ _ _ _ _ _ _ _ _ _ _ _ _ => by kernel_rfl
theorem rdBinRi_11_3 : RdBinRi 11 3 := fun _ _ _ _ _ _ _ _ _ _ _ _ _ _ _ _ _ _ _ _ => by kernel_rfl
theorem rdBinRi_11_4 : RdBinRi 11 4 := fun _ _ _ _ _ _ _ _ _ _ _ _ _ _ _ _ _ _ _ _ => by kernel_rfl
theorem rdBinRi_11_5 : RdBinRi 11 5 := fun _ _ _ _ _ _ _ _ _ _ _ _ _ _ _ _ _ _ _ _ => by kernel_rfl
theorem rdEndRi_11 : RdEndRi 11 := fun _ _ _ _ _ _ _ _ _ => by kernel_rfl
theorem rdConRi_12 : RdConRi 12 := fun _ _ _ _ _ _ _ _ _ _ _ _ _ _ _ => by kernel_rfl
theorem rdVarRi_12 : RdVarRi 12 := fun _ _ _ _ _ _ _ _ _ _ _ _ _ _ _ _ _ => by kernel_rfl
theorem rdBinRi_12_2 : RdBinRi 12 2 := fun _ _ _ _ _ _ _ _ _ _ _ _ _ _ _ _ _ _ _ _ => by kernel_rfl
theorem rdBinRi_12_3 : RdBinRi 12 3 := fun _ _ _ _ _ _ _ _ _ _ _ _ _ _ _ _ _ _ _ _ => by kernel_rfl
theorem rdBinRi_12_4 : RdBinRi 12 4 := fun _ _ _ _ _ _ _ _ _ _ _ _ _ _ _ _ _ _ _ _ => by kernel_rfl
theorem rdBinRi_12_5 : RdBinRi 12 5 := fun _ _ _ _ _ _ _ _ _ _ _ _ _ _ _ _ _ _ _ _ => by kernel_rfl
theorem rdEndRi_12 : RdEndRi 12 := fun _ _ _ _ _ _ _ _ _ => by kernel_rfl
theorem rdConRi_13 : RdConRi 13 := fun _ _ _ _ _ _ _ _ _ _ _ _ _ _ _ => by kernel_rfl
theorem rdVarRi_13 : RdVarRi 13 := fun _ _ _ _ _ _ _ _ _ _ _ _ _ _ _ _ _ => by kernel_rfl
theorem rdBinRi_13_2 : RdBinRi 13 2 := fun _ _ _ _ _ _ _ _ _ _ _ _ _ _ _ _ _ _ _ _ => by kernel_rfl
theorem rdBinRi_13_3 : RdBinRi 13 3 := fun _ _ _ _ _ _ _ _ _ _ _ _ _ _ _ _ _ _ _ _ => by kernel_rfl
theorem rdBinRi_13_4 : RdBinRi 13 4 := fun _ _ _ _ _ _ _ _ _ _ _ _ _ _ _ _ _ _ _ _ => by kernel_rfl
theorem rdBinRi_13_5 : RdBinRi 13 5 := fun _ _ _ _ _ _ _ _ _ _ _ _ _ _ _ _ _ _ _ _ => by kernel_rfl
theorem rdEndRi_13 : RdEndRi 13 := fun _ _ _ _ _ _ _ _ _ => by kernel_rfl
theorem rdConRi_14 : RdConRi 14 := fun _ _ _ _ _ _ _ _ _ _ _ _ _ _ _ => by kernel_rfl
theorem rdVarRi_14 : RdVarRi 14 := fun _ _ _ _ _ _ _ _ _ _ _ _ _ _ _ _ _ => by kernel_rfl
theorem rdBinRi_14_2 : RdBinRi 14 2 := fun _ _ _ _ _ _ _ _ _ _ _ _ _ _ _ _ _ _ _ _ => by kernel_rfl
theorem rdBinRi_14_3 : RdBinRi 14 3 := fun _ _ _ _ _ _ _ _ _ _ _ _ _ _ _ _ _ _ _ _ => by kernel_rfl
theorem rdBinRi_14_4 : RdBinRi 14 4 := fun _ _ _ _ _ _ _ _ _ _ _ _ _ _ _ _ _ _ _ _ => by kernel_rfl
theorem rdBinRi_14_5 : RdBinRi 14 5 := fun _ _ _ _ _ _ _ _ _ _ _ _ _ _ _ _ _ _ _ _ => by kernel_rfl
theorem rdEndRi_14 : RdEndRi 14 := fun _ _ _ _ _ _ _ _ _ => by kernel_rfl
theorem rdConRi_15 : RdConRi 15 := fun _ _ _ _ _ _ _ _ _ _ _ _ _ _ _ => by kernel_rfl
theorem rdVarRi_15 : RdVarRi 15 := fun _ _ _ _ _ _ _ _ _ _ _ _ _ _ _ _ _ => by kernel_rfl
theorem rdBinRi_15_2 : RdBinRi 15 2 := fun _ _ _ _ _ _ _ _ _ _ _ _ _ _ _ _ _ _ _ _ => by kernel_rfl
theorem rdBinRi_15_3 : RdBinRi 15 3 := fun _ _ _ _ _ _ _ _ _ _ _ _ _ _ _ _ _ _ _ _ => by kernel_rfl
theorem rdBinRi_15_4 : RdBinRi 15 4 := fun _ _ _ _ _ _ _ _ _ _ _ _ _ _ _ _ _ _ _ _ => by kernel_rfl
theorem rdBinRi_15_5 : RdBinRi 15 5 := fun _ _ _ _ _ _ _ _ _ _ _ _ _ _ _ _ _ _ _ _ => by kernel_rfl
theorem rdEndRi_15 : RdEndRi 15 := fun _ _ _ _ _ _ _ _ _ => by kernel_rfl
theorem rdConRi_16 : RdConRi 16 := fun _ _ _ _ _ _ _ _ _ _ _ _ _ _ _ => by kernel_rfl
theorem rdVarRi_16 : RdVarRi 16 := fun _ _ _ _ _ _ _ _ _ _ _ _ _ _ _ _ _ => by kernel_rfl
theorem rdBinRi_16_2 : RdBinRi 16 2 := fun _ _ _ _ _ _ _ _ _ _ _ _ _ _ _ _ _ _ _ _ => by kernel_rfl
theorem rdBinRi_16_3 : RdBinRi 16 3 := fun _ _ _ _ _ _ _ _ _ _ _ _ _ _ _ _ _ _ _ _ => by kernel_rfl
theorem rdBinRi_16_4 : RdBinRi 16 4 := fun _ _ _ _ _ _ _ _ _ _ _ _ _ _ _ _ _ _ _ _ => by kernel_rfl
theorem rdBinRi_16_5 : RdBinRi 16 5 := fun _ _ _ _ _ _ _ _ _ _ _ _ _ _ _ _ _ _ _ _ => by kernel_rfl
theorem rdEndRi_16 : RdEndRi 16 := fun _ _ _ _ _ _ _ _ _ => by kernel_rfl
theorem rdConRi_17 : RdConRi 17 := fun _ _ _ _ _ _ _ _ _ _ _ _ _ _ _ => by kernel_rfl
theorem rdVarRi_17 : RdVarRi 17 := fun _ _ _ _ _ _ _ _ _ _ _ _ _ _ _ _ _ => by kernel_rfl
theorem rdBinRi_17_2 : RdBinRi 17 2 := fun _ _ _ _ _ _ _ _ _ _ _ _ _ _ _ _ _ _ _ _ => by kernel_rfl
theorem rdBinRi_17_3 : RdBinRi 17 3 := fun _ _ _ _ _ _ _ _ _ _ _ _ _ _ _ _ _ _ _ _ => by kernel_rfl
theorem rdBinRi_17_4 : RdBinRi 17 4 := fun _ _ _ _ _ _ _ _ _ _ _ _ _ _ _ _ _ _ _ _ => by kernel_rfl
theorem rdBinRi_17_5 : RdBinRi 17 5 := fun _ _ _ _ _ _ _ _ _ _ _ _ _ _ _ _ _ _ _ _ => by kernel_rfl
theorem rdEndRi_17 : RdEndRi 17 := fun _ _ _ _ _ _ _ _ _ => by kernel_rfl
theorem rdConRi_18 : RdConRi 18 := fun _ _ _ _ _ _ _ _ _ _ _ _ _ _ _ => by kernel_rfl
theorem rdVarRi_18 : RdVarRi 18 := fun _ _ _ _ _ _ _ _ _ _ _ _ _ _ _ _ _ => by kernel_rfl
theorem rdBinRi_18_2 : RdBinRi 18 2 := fun _ _ _ _ _ _ _ _ _ _ _ _ _ _ _ _ _ _ _ _ => by kernel_rfl
theorem rdBinRi_18_3 : RdBinRi 18 3 := fun _ _ _ _ _ _ _ _ _ _ _ _ _ _ _ _ _ _ _ _ => by kernel_rfl
theorem rdBinRi_18_4 : RdBinRi 18 4 := fun _ _ _ _ _ _ _ _ _ _ _ _ _ _ _ _ _ _ _ _ => by kernel_rfl
theorem rdBinRi_18_5 : RdBinRi 18 5 := fun _ _ _ _ _ _ _ _ _ _ _ _ _ _ _ _ _ _ _ _ => by kernel_rfl
theorem rdEndRi_18 : RdEndRi 18 := fun _ _ _ _ _ _ _ _ _ => by kernel_rfl
theorem rdConRi_19 : RdConRi 19 := fun _ _ _ _ _ _ _ _ _ _ _ _ _ _ _ => by kernel_rfl
theorem rdVarRi_19 : RdVarRi 19 := fun _ _ _ _ _ _ _ _ _ _ _ _ _ _ _ _ _ => by kernel_rfl
theorem rdBinRi_19_2 : RdBinRi 19 2 := fun _ _ _ _ _ _ _ _ _ _ _ _ _ _ _ _ _ _ _ _ => by kernel_rfl
theorem rdBinRi_19_3 : RdBinRi 19 3 := fun _ _ _ _ _ _ _ _ _ _ _ _ _ _ _ _ _ _ _ _ => by kernel_rfl
theorem rdBinRi_19_4 : RdBinRi 19 4 := fun _ _ _ _ _ _ _ _ _ _ _ _ _ _ _ _ _ _ _ _ => by kernel_rfl
theorem rdBinRi_19_5 : RdBinRi 19 5 := fun _ _ _ _ _ _ _ _ _ _ _ _ _ _ _ _ _ _ _ _ => by kernel_rfl
theorem rdEndRi_19 : RdEndRi 19 := fun _ _ _ _ _ _ _ _ _ => by kernel_rfl
theorem rdConRi_20 : RdConRi 20 := fun _ _ _ _ _ _ _ _ _ _ _ _ _ _ _ => by kernel_rfl
theorem rdVarRi_20 : RdVarRi 20 := fun _ _ _ _ _ _ _ _ _ _ _ _ _ _ _ _ _ => by kernel_rfl
theorem rdBinRi_20_2 : RdBinRi 20 2 := fun _ _ _ _ _ _ _ _ _ _ _ _ _ _ _ _ _ _ _ _ => by kernel_rfl
theorem rdBinRi_20_3 : RdBinRi 20 3 := fun _ _ _ _ _ _ _ _ _ _ _ _ _ _ _ _ _ _ _ _ => by kernel_rfl
theorem rdBinRi_20_4 : RdBinRi 20 4 := fun _ _ _ _ _ _ _ _ _ _ _ _ _ _ _ _ _ _ _ _ => by kernel_rfl
theorem rdBinRi_20_5 : RdBinRi 20 5 := fun _ _ _ _ _ _ _ _ _ _ _ _ _ _ _ _ _ _ _ _ => by kernel_rfl
theorem rdEndRi_20 : RdEndRi 20 := fun _ _ _ _ _ _ _ _ _ => by kernel_rfl

end Go.Proofs.Ytpmdpbljgidllaa
