/- The document's Eval, round by round: the state before a round, and what a round makes of it. -/
import Derived.Test.YtpmdpbljgidllaaTpC
namespace Go.Proofs.Ytpmdpbljgidllaa
open Go
set_option linter.unusedVariables false
set_option linter.unusedSimpArgs false
set_option maxRecDepth 100000

/-- The slots that are asked for. -/
noncomputable def askRf (g : FuncId) : Nat := if g == 1000013 || g == 1000024 || g == 1000025 || g == 1000035 || g == 1000036 || g == 1000040 || g == 1000041 || g == 1000043 || g == 1000050 || g == 1000058 || g == 1000059 || g == 1000060 || g == 1000073 || g == 1000074 || g == 1000075 then 7 else 0
noncomputable def bodyRf : Code := bodyAt Try.prog 35 0
def hpR (b0 b1 b2 : Option ABlk) (N M : Nat) (rb : Option ABlk) (k : Nat) (g : Nat → Option ABlk) : List (Option ABlk) := [b0, b1, b2, tbE N M, rb] ++ (List.range k).map g
def tmRf (x : Value) (M k : Nat) (j : Nat → Value) : List Value := (List.range 79).map fun i =>
  if i = 1 then x else if i = 2 then .pointer (some ⟨3, 0, none⟩) else if i = 4 then .slice none 0 0 else if i = 5 then .slice (some ⟨4, 0, none⟩) M M else if i = 6 then .int .i64 k else j i
abbrev SlR := Nat × List Value × List (Option ABlk) × Nat
def slR (tm : List Value) (H : AHeap) : SlR := (tm.length, [getT tm 1, getT tm 2, getT tm 4, getT tm 5, getT tm 6], H.toList.take 5, H.toList.length)
def outRf (b0 b1 b2 : Option ABlk) (x : Value) (N M k : Nat) (rb : Option ABlk) : SlR :=
  (79, [x, .pointer (some ⟨3, 0, none⟩), .slice none 0 0, .slice (some ⟨4, 0, none⟩) M M, .int .i64 (Int.ofNat (k + 1))], [b0, b1, b2, tbE N M, rb], 5 + (k + 1))
noncomputable def runRf (b0 b1 b2 : Option ABlk) (N M k : Nat) (x : Value) (rb : Option ABlk) (g : Nat → Option ABlk) (j : Nat → Value) (s : List Ans) : Option (AExit × SlR × List Obl × List LpO) :=
  (rndT askRf lssC bodyRf (tmRf x M k j) (hpR b0 b1 b2 N M rb k g).toArray s []).map fun r => (r.1, slR r.2.1 r.2.2.1, r.2.2.2)
/-- What is asked at a round's end: the register's place, and the register there. -/
noncomputable def lgWRf (H H' : List (Option ABlk)) (M k : Nat) (pi : Addr) (v : Nat) : List Obl :=
  [.ex (indexAddrV Try.prog 35 (.slice (some ⟨4, 0, none⟩) M M) (.int .i64 k) = some (.pointer (some pi))), .ex (writeVar Try.prog H.toArray 30 pi (.float .f64 v) = some H'.toArray)]
def RdBinRf (k : Nat) (K : Int) : Prop := ∀ (b0 b1 b2 : Option ABlk) (N M : Nat) (A B : Int) (C : Nat) (fa fb : Nat) (x : Value) (po pa pb pi : Addr) (rb rb' : Option ABlk) (g : Nat → Option ABlk) (j : Nat → Value),
  runRf b0 b1 b2 N M k x rb g j [yes true, pAnsT po, vAns (opV K A B C), pAnsT pa, vAns (.float .f64 fa), pAnsT pb, vAns (.float .f64 fb), pAnsT pi, mAnsT undef (hpR b0 b1 b2 N M rb' k g ++ [obE K A B C])] =
    some (.normal, outRf b0 b1 b2 x N M k rb', lgE (hpR b0 b1 b2 N M rb k g) M k po (opV K A B C) ++ lgR (hpR b0 b1 b2 N M rb k g ++ [obE K A B C]) (.slice (some ⟨4, 0, none⟩) M M) A pa fa ++ lgR (hpR b0 b1 b2 N M rb k g ++ [obE K A B C]) (.slice (some ⟨4, 0, none⟩) M M) B pb fb ++ lgWRf (hpR b0 b1 b2 N M rb k g ++ [obE K A B C]) (hpR b0 b1 b2 N M rb' k g ++ [obE K A B C]) M k pi (fop (opKd K) .f64 fa fb), [])
def RdConRf (k : Nat) : Prop := ∀ (b0 b1 b2 : Option ABlk) (N M : Nat) (A B : Int) (C : Nat) (x : Value) (po pi : Addr) (rb rb' : Option ABlk) (g : Nat → Option ABlk) (j : Nat → Value),
  runRf b0 b1 b2 N M k x rb g j [yes true, pAnsT po, vAns (opV 0 A B C), pAnsT pi, mAnsT undef (hpR b0 b1 b2 N M rb' k g ++ [obE 0 A B C])] = some (.normal, outRf b0 b1 b2 x N M k rb', lgE (hpR b0 b1 b2 N M rb k g) M k po (opV 0 A B C) ++ lgWRf (hpR b0 b1 b2 N M rb k g ++ [obE 0 A B C]) (hpR b0 b1 b2 N M rb' k g ++ [obE 0 A B C]) M k pi C, [])
def RdVarRf (k : Nat) : Prop := ∀ (b0 b1 b2 : Option ABlk) (N M : Nat) (A B : Int) (C : Nat) (fa : Nat) (x : Value) (po pa pi : Addr) (rb rb' : Option ABlk) (g : Nat → Option ABlk) (j : Nat → Value),
  runRf b0 b1 b2 N M k x rb g j [yes true, pAnsT po, vAns (opV 1 A B C), pAnsT pa, vAns (.float .f64 fa), pAnsT pi, mAnsT undef (hpR b0 b1 b2 N M rb' k g ++ [obE 1 A B C])] = some (.normal, outRf b0 b1 b2 x N M k rb', lgE (hpR b0 b1 b2 N M rb k g) M k po (opV 1 A B C) ++ lgR (hpR b0 b1 b2 N M rb k g ++ [obE 1 A B C]) x A pa fa ++ lgWRf (hpR b0 b1 b2 N M rb k g ++ [obE 1 A B C]) (hpR b0 b1 b2 N M rb' k g ++ [obE 1 A B C]) M k pi fa, [])
def RdEndRf (k : Nat) : Prop := ∀ (b0 b1 b2 : Option ABlk) (N M : Nat) (x : Value) (rb : Option ABlk) (g : Nat → Option ABlk) (j : Nat → Value),
  (rndT askRf lssC bodyRf (tmRf x M k j) (hpR b0 b1 b2 N M rb k g).toArray [yes false] []).map (fun r => (r.1, ((r.2.1.length, [getT r.2.1 1, getT r.2.1 2, getT r.2.1 4, getT r.2.1 5, getT r.2.1 6]), r.2.2.1), r.2.2.2)) =
  some (.exit 0, ((79, [x, .pointer (some ⟨3, 0, none⟩), .slice none 0 0, .slice (some ⟨4, 0, none⟩) M M, .int .i64 (Int.ofNat k)]), (hpR b0 b1 b2 N M rb k g).toArray), [.cmp .lss 3 (.int .i64 k) (.int .i64 M) false], [])
theorem rdConRf_0 : RdConRf 0 := fun _ _ _ _ _ _ _ _ _ _ _ _ _ _ _ => by kernel_rfl
theorem rdVarRf_0 : RdVarRf 0 := fun _ _ _ _ _ _ _ _ _ _ _ _ _ _ _ _ _ => by kernel_rfl
theorem rdConRf_1 : RdConRf 1 := fun _ _ _ _ _ _ _ _ _ _ _ _ _ _ _ => by kernel_rfl
theorem rdVarRf_1 : RdVarRf 1 := fun _ _ _ _ _ _ _ _ _ _ _ _ _ _ _ _ _ => by kernel_rfl
theorem rdBinRf_1_2 : RdBinRf 1 2 := fun _ _ _ _ _ _ _ _ _ _ _ _ _ _ _ _ _ _ _ => by kernel_rfl
theorem rdBinRf_1_3 : RdBinRf 1 3 := fun _ _ _ _ _ _ _ _ _ _ _ _ _ _ _ _ _ _ _ => by kernel_rfl
theorem rdBinRf_1_4 : RdBinRf 1 4 := fun _ _ _ _ _ _ _ _ _ _ _ _ _ _ _ _ _ _ _ => by kernel_rfl
theorem rdBinRf_1_5 : RdBinRf 1 5 := fun _ _ _ _ _ _ _ _ _ _ _ _ _ _ _ _ _ _ _ => by kernel_rfl
theorem rdConRf_2 : RdConRf 2 := fun _ _ _ _ _ _ _ _ _ _ _ _ _ _ _ => by kernel_rfl
theorem rdVarRf_2 : RdVarRf 2 := fun _ _ _ _ _ _ _ _ _ _ _ _ _ _ _ _ _ => by kernel_rfl
theorem rdBinRf_2_2 : RdBinRf 2 2 := fun _ _ _ _ _ _ _ _ _ _ _ _ _ _ _ _ _ _ _ => by kernel_rfl
theorem rdBinRf_2_3 : RdBinRf 2 3 := fun _ _ _ _ _ _ _ _ _ _ _ _ _ _ _ _ _ _ _ => by kernel_rfl
theorem rdBinRf_2_4 : RdBinRf 2 4 := fun _ _ _ _ _ _ _ _ _ _ _ _ _ _ _ _ _ _ _ => by kernel_rfl
theorem rdBinRf_2_5 : RdBinRf 2 5 := fun _ _ _ _ _ _ _ _ _ _ _ _ _ _ _ _ _ _ _ => by kernel_rfl
theorem rdEndRf_2 : RdEndRf 2 := fun _ _ _ _ _ _ _ _ _ => by kernel_rfl
theorem rdConRf_3 : RdConRf 3 := fun _ _ _ _ _ _ _ _ _ _ _ _ _ _ _ => by kernel_rfl
theorem rdVarRf_3 : RdVarRf 3 := fun _ _ _ _ _ _ _ _ _ _ _ _ _ _ _ _ _ => by kernel_rfl
theorem rdBinRf_3_2 : RdBinRf 3 2 := fun _ _ _ _ _ _ _ _ _ _ _ _ _ _ _ _ _ _ _ => by kernel_rfl
theorem rdBinRf_3_3 : RdBinRf 3 3 := fun _ _ _ _ _ _ _ _ _ _ _ _ _ _ _ _ _ _ _ => by kernel_rfl
theorem rdBinRf_3_4 : RdBinRf 3 4 := fun _ _ _ _ _ _ _ _ _ _ _ _ _ _ _ _ _ _ _ => by kernel_rfl
theorem rdBinRf_3_5 : RdBinRf 3 5 := fun _ _ _ _ _ _ _ _ _ _ _ _ _ _ _ _ _ _ _ => by kernel_rfl
theorem rdEndRf_3 : RdEndRf 3 := fun _ _ _ _ _ _ _ _ _ => by kernel_rfl
theorem rdConRf_4 : RdConRf 4 := fun _ _ _ _ _ _ _ _ _ _ _ _ _ _ _ => by kernel_rfl
theorem rdVarRf_4 : RdVarRf 4 := fun _ _ _ _ _ _ _ _ _ _ _ _ _ _ _ _ _ => by kernel_rfl
theorem rdBinRf_4_2 : RdBinRf 4 2 := fun _ _ _ _ _ _ _ _ _ _ _ _ _ _ _ _ _ _ _ => by kernel_rfl
theorem rdBinRf_4_3 : RdBinRf 4 3 := fun _ _ _ _ _ _ _ _ _ _ _ _ _ _ _ _ _ _ _ => by kernel_rfl
theorem rdBinRf_4_4 : RdBinRf 4 4 := fun _ _ _ _ _ _ _ _ _ _ _ _ _ _ _ _ _ _ _ => by kernel_rfl
theorem rdBinRf_4_5 : RdBinRf 4 5 := fun _ _ _ _ _ _ _ _ _ _ _ _ _ _ _ _ _ _ _ => by kernel_rfl
theorem rdEndRf_4 : RdEndRf 4 := fun _ _ _ _ _ _ _ _ _ => by kernel_rfl
theorem rdConRf_5 : RdConRf 5 := fun _ _ _ _ _ _ _ _ _ _ _ _ _ _ _ => by kernel_rfl
theorem rdVarRf_5 : RdVarRf 5 := fun _ _ _ _ _ _ _ _ _ _ _ _ _ _ _ _ _ => by kernel_rfl
theorem rdBinRf_5_2 : RdBinRf 5 2 := fun _ _ _ _ _ _ _ _ _ _ _ _ _ _ _ _ _ _ _ => by kernel_rfl
theorem rdBinRf_5_3 : RdBinRf 5 3 := fun _ _ _ _ _ _ _ _ _ _ _ _ _ _ _ _ _ _ _ => by kernel_rfl
theorem rdBinRf_5_4 : RdBinRf 5 4 := fun _ _ _ _ _ _ _ _ _ _ _ _ _ _ _ _ _ _ _ => by kernel_rfl
theorem rdBinRf_5_5 : RdBinRf 5 5 := fun _ _ _ _ _ _ _ _ _ _ _ _ _ _ _ _ _ _ _ => by kernel_rfl
theorem rdEndRf_5 : RdEndRf 5 := fun _ _ _ _ _ _ _ _ _ => by kernel_rfl
theorem rdConRf_6 : RdConRf 6 := fun _ _ _ _ _ _ _ _ _ _ _ _ _ _ _ => by kernel_rfl
theorem rdVarRf_6 : RdVarRf 6 := fun _ _ _ _ _ _ _ _ _ _ _ _ _ _ _ _ _ => by kernel_rfl
theorem rdBinRf_6_2 : RdBinRf 6 2 := fun _ _ _ _ _ _ _ _ _ _ _ _ _ _ _ _ _ _ _ => by kernel_rfl
theorem rdBinRf_6_3 : RdBinRf 6 3 := fun _ _ _ _ _ _ _ _ _ _ _ _ _ _ _ _ _ _ _ => by kernel_rfl
theorem rdBinRf_6_4 : RdBinRf 6 4 := fun _ _ _ _ _ _ _ _ _ _ _ _ _ _ _ _ _ _ _ => by kernel_rfl
theorem rdBinRf_6_5 : RdBinRf 6 5 := fun _ _ _ _ _ _ _ _ _ _ _ _ _ _ _ _ _ _ _ => by kernel_rfl
theorem rdEndRf_6 : RdEndRf 6 := fun _ _ _ _ _ _ _ _ _ => by kernel_rfl
theorem rdConRf_7 : RdConRf 7 := fun _ _ _ _ _ _ _ _ _ _ _ _ _ _ _ => by kernel_rfl
theorem rdVarRf_7 : RdVarRf 7 := fun _ _ _ _ _ _ _ _ _ _ _ _ _ _ _ _ _ => by kernel_rfl
theorem rdBinRf_7_2 : RdBinRf 7 2 := fun _ _ _ _ _ _ _ _ _ _ _ _ _ _ _ _ _ _ _ => by kernel_rfl
theorem rdBinRf_7_3 : RdBinRf 7 3 := fun _ _ _ _ _ _ _ _ _ _ _ _ _ _ _ _ _ _ _ => by kernel_rfl
theorem rdBinRf_7_4 : RdBinRf 7 4 := fun _ _ _ _ _ _ _ _ _ _ _ _ _ _ _ _ _ _ _ => by kernel_rfl
theorem rdBinRf_7_5 : RdBinRf 7 5 := fun _ _ _ _ _ _ _ _ _ _ _ _ _ _ _ _ _ _ _ => by kernel_rfl
theorem rdEndRf_7 : RdEndRf 7 := fun _ _ _ _ _ _ _ _ _ => by kernel_rfl
theorem rdConRf_8 : RdConRf 8 := fun _ _ _ _ _ _ _ _ _ _ _ _ _ _ _ => by kernel_rfl
theorem rdVarRf_8 : RdVarRf 8 := fun _ _ _ _ _ _ _ _ _ _ _ _ _ _ _ _ _ => by kernel_rfl
theorem rdBinRf_8_2 : RdBinRf 8 2 := fun _ _ _ _ _ _ _ _ _ _ _ _ _ _ _ _ _ _ _ => by kernel_rfl
theorem rdBinRf_8_3 : RdBinRf 8 3 := fun _ _ _ _ _ _ _ _ _ _ _ _ _ _ _ _ _ _ _ => by kernel_rfl
theorem rdBinRf_8_4 : RdBinRf 8 4 := fun _ _ _ _ _ _ _ _ _ _ _ _ _ _ _ _ _ _ _ => by kernel_rfl
theorem rdBinRf_8_5 : RdBinRf 8 5 := fun _ _ _ _ _ _ _ _ _ _ _ _ _ _ _ _ _ _ _ => by kernel_rfl
theorem rdEndRf_8 : RdEndRf 8 := fun _ _ _ _ _ _ _ _ _ => by kernel_rfl
theorem rdConRf_9 : RdConRf 9 := fun _ _ _ _ _ _ _ _ _ _ _ _ _ _ _ => by kernel_rfl
theorem rdVarRf_9 : RdVarRf 9 := fun _ _ _ _ _ _ _ _ _ _ _ _ _ _ _ _ _ => by kernel_rfl
theorem rdBinRf_9_2 : RdBinRf 9 2 := fun _ _ _ _ _ _ _ _ _ _ _ _ _ _ _ _ _ _ _ => by kernel_rfl
theorem rdBinRf_9_3 : RdBinRf 9 3 := fun _ _ _ _ _ _ _ _ _ _ _ _ _ _ _ _ _ _ _ => by kernel_rfl
theorem rdBinRf_9_4 : RdBinRf 9 4 := fun _ _ _ _ _ _ _ _ _ _ _ _ _ _ _ _ _ _ _ => by kernel_rfl
theorem rdBinRf_9_5 : RdBinRf 9 5 := fun _ _ _ _ _ _ _ _ _ _ _ _ _ _ _ _ _ _ _ => by kernel_rfl
theorem rdEndRf_9 : RdEndRf 9 := fun _ _ _ _ _ _ _ _ _ => by kernel_rfl
theorem rdConRf_10 : RdConRf 10 := fun _ _ _ _ _ _ _ _ _ _ _ _ _ _ _ => by kernel_rfl
theorem rdVarRf_10 : RdVarRf 10 := fun _ _ _ _ _ _ _ _ _ _ _ _ _ _ _ _ _ => by kernel_rfl
theorem rdBinRf_10_2 : RdBinRf 10 2 := fun _ _ _ _ _ _ _ _ _ _ _ _ _ _ _ _ _ _ _ => by kernel_rfl
theorem rdBinRf_10_3 : RdBinRf 10 3 := fun _ _ _ _ _ _ _ _ _ _ _ _ _ _ _ _ _ _ _ => by kernel_rfl
theorem rdBinRf_10_4 : RdBinRf 10 4 := fun _ _ _ _ _ _ _ _ _ _ _ _ _ _ _ _ _ _ _ => by kernel_rfl
theorem rdBinRf_10_5 : RdBinRf 10 5 := fun _ _ _ _ _ _ _ _ _ _ _ _ _ _ _ _ _ _ _ => by kernel_rfl
theorem rdEndRf_10 : RdEndRf 10 := fun _ _ _ _ _ _ _ _ _ => by kernel_rfl
theorem rdConRf_11 : RdConRf 11 := fun _ _ _ _ _ _ _ _ _ _ _ _ _ _ _ => by kernel_rfl
theorem rdVarRf_11 : RdVarRf 11 := fun _ _ _ _ _ _ _ _ _ _ _ _ _ _ _ _ _ => by kernel_rfl
theorem rdBinRf_11_2 : RdBinRf 11 2 := fun _ _ _ _ _ _ _ _ _ _ _ _ _ _ _ _ _ _ _ => by kernel_rfl
theorem rdBinRf_11_3 : RdBinRf 11 3 := fun _ _ _ _ _ _ _ _ _ _ _ _ _ _ _ _ _ _ _ => by kernel_rfl
theorem rdBinRf_11_4 : RdBinRf 11 4 := fun _ _ _ _ _ _ _ _ _ _ _ _ _ _ _ _ _ _ _ => by kernel_rfl
theorem rdBinRf_11_5 : RdBinRf 11 5 := fun _ _ _ _ _ _ _ _ _ _ _ _ _ _ _ _ _ _ _ => by kernel_rfl
theorem rdEndRf_11 : RdEndRf 11 := fun _ _ _ _ _ _ _ _ _ => by kernel_rfl
theorem rdConRf_12 : RdConRf 12 := fun _ _ _ _ _ _ _ _ _ _ _ _ _ _ _ => by kernel_rfl
theorem rdVarRf_12 : RdVarRf 12 := fun _ _ _ _ _ _ _ _ _ _ _ _ _ _ _ _ _ => by kernel_rfl
theorem rdBinRf_12_2 : RdBinRf 12 2 := fun _ _ _ _ _ _ _ _ _ _ _ _ _ _ _ _ _ _ _ => by kernel_rfl
theorem rdBinRf_12_3 : RdBinRf 12 3 := fun _ _ _ _ _ _ _ _ _ _ _ _ _ _ _ _ _ _ _ => by kernel_rfl
theorem rdBinRf_12_4 : RdBinRf 12 4 := fun _ _ _ _ _ _ _ _ _ _ _ _ _ _ _ _ _ _ _ => by kernel_rfl
theorem rdBinRf_12_5 : RdBinRf 12 5 := fun _ _ _ _ _ _ _ _ _ _ _ _ _ _ _ _ _ _ _ => by kernel_rfl
theorem rdEndRf_12 : RdEndRf 12 := fun _ _ _ _ _ _ _ _ _ => by kernel_rfl
theorem rdConRf_13 : RdConRf 13 := fun _ _ _ _ _ _ _ _ _ _ _ _ _ _ _ => by kernel_rfl
theorem rdVarRf_13 : RdVarRf 13 := fun _ _ _ _ _ _ _ _ _ _ _ _ _ _ _ _ _ => by kernel_rfl
theorem rdBinRf_13_2 : RdBinRf 13 2 := fun _ _ _ _ _ _ _ _ _ _ _ _ _ _ _ _ _ _ _ => by kernel_rfl
theorem rdBinRf_13_3 : RdBinRf 13 3 := fun _ _ _ _ _ _ _ _ _ _ _ _ _ _ _ _ _ _ _ => by kernel_rfl
theorem rdBinRf_13_4 : RdBinRf 13 4 := fun _ _ _ _ _ _ _ _ _ _ _ _ _ _ _ _ _ _ _ => by kernel_rfl
theorem rdBinRf_13_5 : RdBinRf 13 5 := fun _ _ _ _ _ _ _ _ _ _ _ _ _ _ _ _ _ _ _ => by kernel_rfl
theorem rdEndRf_13 : RdEndRf 13 := fun _ _ _ _ _ _ _ _ _ => by kernel_rfl
theorem rdConRf_14 : RdConRf 14 := fun _ _ _ _ _ _ _ _ _ _ _ _ _ _ _ => by kernel_rfl
theorem rdVarRf_14 : RdVarRf 14 := fun _ _ _ _ _ _ _ _ _ _ _ _ _ _ _ _ _ => by kernel_rfl
theorem rdBinRf_14_2 : RdBinRf 14 2 := fun _ _ _ _ _ _ _ _ _ _ _ _ _ _ _ _ _ _ _ => by kernel_rfl
theorem rdBinRf_14_3 : RdBinRf 14 3 := fun _ _ _ _ _ _ _ _ _ _ _ _ _ _ _ _ _ _ _ => by kernel_rfl
theorem rdBinRf_14_4 : RdBinRf 14 4 := fun _ _ _ _ _ _ _ _ _ _ _ _ _ _ _ _ _ _ _ => by kernel_rfl
theorem rdBinRf_14_5 : RdBinRf 14 5 := fun _ _ _ _ _ _ _ _ _ _ _ _ _ _ _ _ _ _ _ => by kernel_rfl
theorem rdEndRf_14 : RdEndRf 14 := fun _ _ _ _ _ _ _ _ _ => by kernel_rfl
theorem rdConRf_15 : RdConRf 15 := fun _ _ _ _ _ _ _ _ _ _ _ _ _ _ _ => by kernel_rfl
theorem rdVarRf_15 : RdVarRf 15 := fun _ _ _ _ _ _ _ _ _ _ _ _ _ _ _ _ _ => by kernel_rfl
theorem rdBinRf_15_2 : RdBinRf 15 2 := fun _ _ _ _ _ _ _ _ _ _ _ _ _ _ _ _ _ _ _ => by kernel_rfl
theorem rdBinRf_15_3 : RdBinRf 15 3 := fun _ _ _ _ _ _ _ _ _ _ _ _ _ _ _ _ _ _ _ => by kernel_rfl
theorem rdBinRf_15_4 : RdBinRf 15 4 := fun _ _ _ _ _ _ _ _ _ _ _ _ _ _ _ _ _ _ _ => by kernel_rfl
theorem rdBinRf_15_5 : RdBinRf 15 5 := fun _ _ _ _ _ _ _ _ _ _ _ _ _ _ _ _ _ _ _ => by kernel_rfl
theorem rdEndRf_15 : RdEndRf 15 := fun _ _ _ _ _ _ _ _ _ => by kernel_rfl
theorem rdConRf_16 : RdConRf 16 := fun _ _ _ _ _ _ _ _ _ _ _ _ _ _ _ => by kernel_rfl
theorem rdVarRf_16 : RdVarRf 16 := fun _ _ _ _ _ _ _ _ _ _ _ _ _ _ _ _ _ => by kernel_rfl
theorem rdBinRf_16_2 : RdBinRf 16 2 := fun _ _ _ _ _ _ _ _ _ _ _ _ _ _ _ _ _ _ _ => by kernel_rfl
theorem rdBinRf_16_3 : RdBinRf 16 3 := fun _ _ _ _ _ _ _ _ _ _ _ _ _ _ _ _ _ _ _ => by kernel_rfl
theorem rdBinRf_16_4 : RdBinRf 16 4 := fun _ _ _ _ _ _ _ _ _ _ _ _ _ _ _ _ _ _ _ => by kernel_rfl
theorem rdBinRf_16_5 : RdBinRf 16 5 := fun _ _ _ _ _ _ _ _ _ _ _ _ _ _ _ _ _ _ _ => by kernel_rfl
theorem rdEndRf_16 : RdEndRf 16 := fun _ _ _ _ _ _ _ _ _ => by kernel_rfl
theorem rdConRf_17 : RdConRf 17 := fun _ _ _ _ _ _ _ _ _ _ _ _ _ _ _ => by kernel_rfl
theorem rdVarRf_17 : RdVarRf 17 := fun _ _ _ _ _ _ _ _ _ _ _ _ _ _ _ _ _ => by kernel_rfl
theorem rdBinRf_17_2 : RdBinRf 17 2 := fun _ _ _ _ _ _ _ _ _ _ _ _ _ _ _ _ _ _ _ => by kernel_rfl
theorem rdBinRf_17_3 : RdBinRf 17 3 := fun _ _ _ _ _ _ _ _ _ _ _ _ _ _ _ _ _ _ _ => by kernel_rfl
theorem rdBinRf_17_4 : RdBinRf 17 4 := fun _ _ _ _ _ _ _ _ _ _ _ _ _ _ _ _ _ _ _ => by kernel_rfl
theorem rdBinRf_17_5 : RdBinRf 17 5 := fun _ _ _ _ _ _ _ _ _ _ _ _ _ _ _ _ _ _ _ => by kernel_rfl
theorem rdEndRf_17 : RdEndRf 17 := fun _ _ _ _ _ _ _ _ _ => by kernel_rfl
theorem rdConRf_18 : RdConRf 18 := fun _ _ _ _ _ _ _ _ _ _ _ _ _ _ _ => by kernel_rfl
theorem rdVarRf_18 : RdVarRf 18 := fun _ _ _ _ _ _ _ _ _ _ _ _ _ _ _ _ _ => by kernel_rfl
theorem rdBinRf_18_2 : RdBinRf 18 2 := fun _ _ _ _ _ _ _ _ _ _ _ _ _ _ _ _ _ _ _ => by kernel_rfl
theorem rdBinRf_18_3 : RdBinRf 18 3 := fun _ _ _ _ _ _ _ _ _ _ _ _ _ _ _ _ _ _ _ => by kernel_rfl
theorem rdBinRf_18_4 : RdBinRf 18 4 := fun _ _ _ _ _ _ _ _ _ _ _ _ _ _ _ _ _ _ _ => by kernel_rfl
theorem rdBinRf_18_5 : RdBinRf 18 5 := fun _ _ _ _ _ _ _ _ _ _ _ _ _ _ _ _ _ _ _ => by kernel_rfl
theorem rdEndRf_18 : RdEndRf 18 := fun _ _ _ _ _ _ _ _ _ => by kernel_rfl
theorem rdConRf_19 : RdConRf 19 := fun _ _ _ _ _ _ _ _ _ _ _ _ _ _ _ => by kernel_rfl
theorem rdVarRf_19 : RdVarRf 19 := fun _ _ _ _ _ _ _ _ _ _ _ _ _ _ _ _ _ => by kernel_rfl
theorem rdBinRf_19_2 : RdBinRf 19 2 := fun _ _ _ _ _ _ _ _ _ _ _ _ _ _ _ _ _ _ _ => by kernel_rfl
theorem rdBinRf_19_3 : RdBinRf 19 3 := fun _ _ _ _ _ _ _ _ _ _ _ _ _ _ _ _ _ _ _ => by kernel_rfl
theorem rdBinRf_19_4 : RdBinRf 19 4 := fun _ _ _ _ _ _ _ _ _ _ _ _ _ _ _ _ _ _ _ => by kernel_rfl
theorem rdBinRf_19_5 : RdBinRf 19 5 := fun _ _ _ _ _ _ _ _ _ _ _ _ _ _ _ _ _ _ _ => by kernel_rfl
theorem rdEndRf_19 : RdEndRf 19 := fun _ _ _ _ _ _ _ _ _ => by kernel_rfl
theorem rdConRf_20 : RdConRf 20 := fun _ _ _ _ _ _ _ _ _ _ _ _ _ _ _ => by kernel_rfl
theorem rdVarRf_20 : RdVarRf 20 := fun _ _ _ _ _ _ _ _ _ _ _ _ _ _ _ _ _ => by kernel_rfl
theorem rdBinRf_20_2 : RdBinRf 20 2 := fun _ _ _ _ _ _ _ _ _ _ _ _ _ _ _ _ _ _ _ => by kernel_rfl
theorem rdBinRf_20_3 : RdBinRf 20 3 := fun _ _ _ _ _ _ _ _ _ _ _ _ _ _ _ _ _ _ _ => by kernel_rfl
theorem rdBinRf_20_4 : RdBinRf 20 4 := fun _ _ _ _ _ _ _ _ _ _ _ _ _ _ _ _ _ _ _ => by kernel_rfl
theorem rdBinRf_20_5 : RdBinRf 20 5 := fun _ _ _ _ _ _ _ _ _ _ _ _ _ _ _ _ _ _ _ => by kernel_rfl
theorem rdEndRf_20 : RdEndRf 20 := fun _ _ _ _ _ _ _ _ _ => by kernel_rfl

end Go.Proofs.Ytpmdpbljgidllaa
