/- TpRf / TpRfF / TpRfG: several texts in one. -/
import Derived.Test.YtclphdmaedpipaaTpC
import Derived.Test.YtclphdmaedpipaaTpW
import Derived.Test.YtclphdmaedpipaaSlices
/-!  The document's Eval, round by round: the state before a round, and what a round makes of it. -/
namespace Go.Proofs.Ytclphdmaedpipaa
open Go
set_option linter.unusedVariables false
set_option linter.unusedSimpArgs false
set_option maxRecDepth 100000

/-- The slots that are asked for. -/
noncomputable def askRf (g : FuncId) : Nat := if g == 1000013 || g == 1000024 || g == 1000025 || g == 1000035 || g == 1000036 || g == 1000040 || g == 1000041 || g == 1000043 || g == 1000050 || g == 1000058 || g == 1000059 || g == 1000060 || g == 1000073 || g == 1000074 || g == 1000075 then 7 else 0
noncomputable def bodyRf : Code := bodyAt Try.prog 30 0
def hpR (b0 b1 b2 : Option ABlk) (N M : Nat) (rb : Option ABlk) (k : Nat) (g : Nat → Option ABlk) : List (Option ABlk) := [b0, b1, b2, tbE N M, rb] ++ (List.range k).map g
def tmRf (x : Value) (M k : Nat) (j : Nat → Value) : List Value := (List.range 79).map fun i =>
  if i = 1 then x else if i = 2 then .pointer (some ⟨3, 0, none⟩) else if i = 4 then .slice none 0 0 else if i = 5 then .slice (some ⟨4, 0, none⟩) M M else if i = 6 then .int .i64 k else j i
abbrev SlR := Nat × List Value × List (Option ABlk) × Nat
def slR (tm : List Value) (H : AHeap) : SlR := (tm.length, [getT tm 1, getT tm 2, getT tm 4, getT tm 5, getT tm 6], H.toList.take 5, H.toList.length)
def outRf (b0 b1 b2 : Option ABlk) (x : Value) (N M k : Nat) (rb : Option ABlk) : SlR :=
  (79, [x, .pointer (some ⟨3, 0, none⟩), .slice none 0 0, .slice (some ⟨4, 0, none⟩) M M, .int .i64 (Int.ofNat (k + 1))], [b0, b1, b2, tbE N M, rb], 5 + (k + 1))
noncomputable def runRf (b0 b1 b2 : Option ABlk) (N M k : Nat) (x : Value) (rb : Option ABlk) (g : Nat → Option ABlk) (j : Nat → Value) (s : List Ans) : Option (AExit × SlR × List Obl × List LpO) :=
  (rndT askRf lssC bodyRf (tmRf x M k j) (hpR b0 b1 b2 N M rb k g).toArray s []).map fun r => (r.1, slR r.2.1 r.2.2.1, r.2.2.2)
/-- What is asked at a round's end: the register's place, and the register there. -/
noncomputable def lgWRf (H H' : List (Option ABlk)) (M k : Nat) (pi : Addr) (v : Nat) : List Obl :=
  [.ex (indexAddrV Try.prog 30 (.slice (some ⟨4, 0, none⟩) M M) (.int .i64 k) = some (.pointer (some pi))), .ex (writeVar Try.prog H.toArray 28 pi (.float .f64 v) = some H'.toArray)]
def RdBinRf (k : Nat) (K : Int) : Prop := ∀ (b0 b1 b2 : Option ABlk) (N M : Nat) (A B : Int) (C : Nat) (fa fb : Nat) (x : Value) (po pa pb pi : Addr) (rb rb' : Option ABlk) (g : Nat → Option ABlk) (j : Nat → Value),
  runRf b0 b1 b2 N M k x rb g j [yes true, pAnsT po, vAns (opV K A B C), pAnsT pa, vAns (.float .f64 fa), pAnsT pb, vAns (.float .f64 fb), pAnsT pi, mAnsT undef (hpR b0 b1 b2 N M rb' k g ++ [obE K A B C])] =
    some (.normal, outRf b0 b1 b2 x N M k rb', lgE (hpR b0 b1 b2 N M rb k g) M k po (opV K A B C) ++ lgR (hpR b0 b1 b2 N M rb k g ++ [obE K A B C]) (.slice (some ⟨4, 0, none⟩) M M) A pa fa ++ lgR (hpR b0 b1 b2 N M rb k g ++ [obE K A B C]) (.slice (some ⟨4, 0, none⟩) M M) B pb fb ++ lgWRf (hpR b0 b1 b2 N M rb k g ++ [obE K A B C]) (hpR b0 b1 b2 N M rb' k g ++ [obE K A B C]) M k pi (fop (opKd K) .f64 fa fb), [])
def RdConRf (k : Nat) : Prop := ∀ (b0 b1 b2 : Option ABlk) (N M : Nat) (A B : Int) (C : Nat) (x : Value) (po pi : Addr) (rb rb' : Option ABlk) (g : Nat → Option ABlk) (j : Nat → Value),
  runRf b0 b1 b2 N M k x rb g j [yes true, pAnsT po, vAns (opV 0 A B C), pAnsT pi, mAnsT undef (hpR b0 b1 b2 N M rb' k g ++ [obE 0 A B C])] = some (.normal, outRf b0 b1 b2 x N M k rb', lgE (hpR b0 b1 b2 N M rb k g) M k po (opV 0 A B C) ++ lgWRf (hpR b0 b1 b2 N M rb k g ++ [obE 0 A B C]) (hpR b0 b1 b2 N M rb' k g ++ [obE 0 A B C]) M k pi C, [])
def RdVarRf (k : Nat) : Prop := ∀ (b0 b1 b2 : Option ABlk) (N M : Nat) (A B : Int) (C : Nat) (fa : Nat) (x : Value) (po pa pi : Addr) (rb rb' : Option ABlk) (g : Nat → Option ABlk) (j : Nat → Value),
  runRf b0 b1 b2 N M k x rb g j [yes true, pAnsT po, vAns (opV 1 A B C), pAnsT pa, vAns (.float .f64 fa), pAnsT pi, mAnsT undef (hpR b0 b1 b2 N M rb' k g ++ [obE 1 A B C])] = some (.normal, outRf b0 b1 b2 x N M k rb', lgE (hpR b0 b1 b2 N M rb k g) M k po (opV 1 A B C) ++ lgR (hpR b0 b1 b2 N M rb k g ++ [obE 1 A B C]) x A pa fa ++ lgWRf (hpR b0 b1 b2 N M rb k g ++ [obE 1 A B C]) (hpR b0 b1 b2 N M rb' k g ++ [obE 1 A B C]) M k pi fa, [])
def RdEndRf (k : Nat) : Prop := ∀ (b0 b1 b2 : Option ABlk) (N M : Nat) (x : Value) (rb : Option ABlk) (g : Nat → Option ABlk) (j : Nat → Value),
  (rndT askRf lssC bodyRf (tmRf x M k j) (hpR b0 b1 b2 N M rb k g).toArray [yes false] []).map (fun r => (r.1, ((r.2.1.length, [getT r.2.1 1, getT r.2.1 2, getT r.2.1 4, getT r.2.1 5, getT r.2.1 6]), r.2.2.1), r.2.2.2)) =
  some (.exit 0, ((79, [x, .pointer (some ⟨3, 0, none⟩), .slice none 0 0, .slice (some ⟨4, 0, none⟩) M M, .int .i64 (Int.ofNat k)]), (hpR b0 b1 b2 N M rb k g).toArray), [.cmp .lss 3 (.int .i64 k) (.int .i64 M) false], [])
theorem rdConRf_0 : RdConRf 0 := fun _ _ _ _ _ _ _ _ _ _ _ _ _ _ _ => by kernel_rfl
theorem rdVarRf_0 : RdVarRf 0 := fun _ _ _ _ _ _ _ _ _ _ _ _ _ _ _ _ _ => by kernel_rfl
theorem rdConRf_1 : RdConRf 1 := fun _ _ _ _ _ _ _ _ _ _ _ _ _ _ _ => by kernel_rfl
theorem rdVarRf_1 : RdVarRf 1 := fun _ _ _ _ _ _ _ _ _ _ _ _ _ _ _ _ _ => by kernel_rfl
theorem rdBinRf_1_2 : RdBinRf 1 2 := fun _ _ _ _ _ _ _ _ _ _ _ _ _ _ _ _ _ _ _ => by kernel_rfl
theorem rdBinRf_1_3 : RdBinRf 1 3 := fun _ _ _ _ _ _ _ _ _ _ _ _ _ _ _ _ _ _ _ => by kernel_rfl
theorem rdBinRf_1_4 : RdBinRf 1 4 := fun _ _ _ _ _ _ _ _ _ _ _ _ _ _ _ _ _ _ _ => by kernel_rfl
theorem rdBinRf_1_5 : RdBinRf 1 5 := fun _ _ _ _ _ _ _ _ _ _ _ _ _ _ _ _ _ _ _ => by kernel_rfl
theorem rdConRf_2 : RdConRf 2 := fun _ _ _ _ _ _ _ _ _ _ _ _ _ _ _ => by kernel_rfl
theorem rdVarRf_2 : RdVarRf 2 := fun _ _ _ _ _ _ _ _ _ _ _ _ _ _ _ _ _ => by kernel_rfl
theorem rdBinRf_2_2 : RdBinRf 2 2 := fun _ _ _ _ _ _ _ _ _ _ _ _ _ _ _ _ _ _ _ => by kernel_rfl
theorem rdBinRf_2_3 : RdBinRf 2 3 := fun _ _ _ _ _ _ _ _ _ _ _ _ _ _ _ _ _ _ _ => by kernel_rfl
theorem rdBinRf_2_4 : RdBinRf 2 4 := fun _ _ _ _ _ _ _ _ _ _ _ _ _ _ _ _ _ _ _ => by kernel_rfl
theorem rdBinRf_2_5 : RdBinRf 2 5 := fun _ _ _ _ _ _ _ _ _ _ _ _ _ _ _ _ _ _ _ => by kernel_rfl
theorem rdEndRf_2 : RdEndRf 2 := fun _ _ _ _ _ _ _ _ _ => by kernel_rfl
theorem rdConRf_3 : RdConRf 3 := fun _ _ _ _ _ _ _ _ _ _ _ _ _ _ _ => by kernel_rfl
theorem rdVarRf_3 : RdVarRf 3 := fun _ _ _ _ _ _ _ _ _ _ _ _ _ _ _ _ _ => by kernel_rfl
theorem rdBinRf_3_2 : RdBinRf 3 2 := fun _ _ _ _ _ _ _ _ _ _ _ _ _ _ _ _ _ _ _ => by kernel_rfl
theorem rdBinRf_3_3 : RdBinRf 3 3 := fun _ _ _ _ _ _ _ _ _ _ _ _ _ _ _ _ _ _ _ => by kernel_rfl
theorem rdBinRf_3_4 : RdBinRf 3 4 := fun _ _ _ _ _ _ _ _ _ _ _ _ _ _ _ _ _ _ _ => by kernel_rfl
theorem rdBinRf_3_5 : RdBinRf 3 5 := fun _ _ _ _ _ _ _ _ _ _ _ _ _ _ _ _ _ _ _ => by kernel_rfl
theorem rdEndRf_3 : RdEndRf 3 := fun _ _ _ _ _ _ _ _ _ => by kernel_rfl
theorem rdConRf_4 : RdConRf 4 := fun _ _ _ _ _ _ _ _ _ _ _ _ _ _ _ => by kernel_rfl
theorem rdVarRf_4 : RdVarRf 4 := fun _ _ _ _ _ _ _ _ _ _ _ _ _ _ _ _ _ => by kernel_rfl
theorem rdBinRf_4_2 : RdBinRf 4 2 := fun _ _ _ _ _ _ _ _ _ _ _ _ _ _ _ _ _ _ _ => by kernel_rfl
theorem rdBinRf_4_3 : RdBinRf 4 3 := fun _ _ _ _ _ _ _ _ _ _ _ _ _ _ _ _ _ _ _ => by kernel_rfl
theorem rdBinRf_4_4 : RdBinRf 4 4 := fun _ _ _ _ _ _ _ _ _ _ _ _ _ _ _ _ _ _ _ => by kernel_rfl
theorem rdBinRf_4_5 : RdBinRf 4 5 := fun _ _ _ _ _ _ _ _ _ _ _ _ _ _ _ _ _ _ _ => by kernel_rfl
theorem rdEndRf_4 : RdEndRf 4 := fun _ _ _ _ _ _ _ _ _ => by kernel_rfl
theorem rdConRf_5 : RdConRf 5 := fun _ _ _ _ _ _ _ _ _ _ _ _ _ _ _ => by kernel_rfl
theorem rdVarRf_5 : RdVarRf 5 := fun _ _ _ _ _ _ _ _ _ _ _ _ _ _ _ _ _ => by kernel_rfl
theorem rdBinRf_5_2 : RdBinRf 5 2 := fun _ _ _ _ _ _ _ _ _ _ _ _ _ _ _ _ _ _ _ => by kernel_rfl
theorem rdBinRf_5_3 : RdBinRf 5 3 := fun _ _ _ _ _ _ _ _ _ _ _ _ _ _ _ _ _ _ _ => by kernel_rfl
theorem rdBinRf_5_4 : RdBinRf 5 4 := fun _ _ _ _ _ _ _ _ _ _ _ _ _ _ _ _ _ _ _ => by kernel_rfl
theorem rdBinRf_5_5 : RdBinRf 5 5 := fun _ _ _ _ _ _ _ _ _ _ _ _ _ _ _ _ _ _ _ => by kernel_rfl
theorem rdEndRf_5 : RdEndRf 5 := fun _ _ _ _ _ _ _ _ _ => by kernel_rfl
theorem rdConRf_6 : RdConRf 6 := fun _ _ _ _ _ _ _ _ _ _ _ _ _ _ _ => by kernel_rfl
theorem rdVarRf_6 : RdVarRf 6 := fun _ _ _ _ _ _ _ _ _ _ _ _ _ _ _ _ _ => by kernel_rfl
theorem rdBinRf_6_2 : RdBinRf 6 2 := fun _ _ _ _ _ _ _ _ _ _ _ _ _ _ _ _ _ _ _ => by kernel_rfl
theorem rdBinRf_6_3 : RdBinRf 6 3 := fun _ _ _ _ _ _ _ _ _ _ _ _ _ _ _ _ _ _ _ => by kernel_rfl
theorem rdBinRf_6_4 : RdBinRf 6 4 := fun _ _ _ _ _ _ _ _ _ _ _ _ _ _ _ _ _ _ _ => by kernel_rfl
theorem rdBinRf_6_5 : RdBinRf 6 5 := fun _ _ _ _ _ _ _ _ _ _ _ _ _ _ _ _ _ _ _ => by kernel_rfl
theorem rdEndRf_6 : RdEndRf 6 := fun _ _ _ _ _ _ _ _ _ => by kernel_rfl
theorem rdConRf_7 : RdConRf 7 := fun _ _ _ _ _ _ _ _ _ _ _ _ _ _ _ => by kernel_rfl
theorem rdVarRf_7 : RdVarRf 7 := fun _ _ _ _ _ _ _ _ _ _ _ _ _ _ _ _ _ => by kernel_rfl
theorem rdBinRf_7_2 : RdBinRf 7 2 := fun _ _ _ _ _ _ _ _ _ _ _ _ _ _ _ _ _ _ _ => by kernel_rfl
theorem rdBinRf_7_3 : RdBinRf 7 3 := fun _ _ _ _ _ _ _ _ _ _ _ _ _ _ _ _ _ _ _ => by kernel_rfl
theorem rdBinRf_7_4 : RdBinRf 7 4 := fun _ _ _ _ _ _ _ _ _ _ _ _ _ _ _ _ _ _ _ => by kernel_rfl
theorem rdBinRf_7_5 : RdBinRf 7 5 := fun _ _ _ _ _ _ _ _ _ _ _ _ _ _ _ _ _ _ _ => by kernel_rfl
theorem rdEndRf_7 : RdEndRf 7 := fun _ _ _ _ _ _ _ _ _ => by kernel_rfl
theorem rdConRf_8 : RdConRf 8 := fun _ _ _ _ _ _ _ _ _ _ _ _ _ _ _ => by kernel_rfl
theorem rdVarRf_8 : RdVarRf 8 := fun _ _ _ _ _ _ _ _ _ _ _ _ _ _ _ _ _ => by kernel_rfl
theorem rdBinRf_8_2 : RdBinRf 8 2 := fun _ _ _ _ _ _ _ _ _ _ _ _ _ _ _ _ _ _ _ => by kernel_rfl
theorem rdBinRf_8_3 : RdBinRf 8 3 := fun _ _ _ _ _ _ _ _ _ _ _ _ _ _ _ _ _ _ _ => by kernel_rfl
theorem rdBinRf_8_4 : RdBinRf 8 4 := fun _ _ _ _ _ _ _ _ _ _ _ _ _ _ _ _ _ _ _ => by kernel_rfl
theorem rdBinRf_8_5 : RdBinRf 8 5 := fun _ _ _ _ _ _ _ _ _ _ _ _ _ _ _ _ _ _ _ => by kernel_rfl
theorem rdEndRf_8 : RdEndRf 8 := fun _ _ _ _ _ _ _ _ _ => by kernel_rfl
theorem rdConRf_9 : RdConRf 9 := fun _ _ _ _ _ _ _ _ _ _ _ _ _ _ _ => by kernel_rfl
theorem rdVarRf_9 : RdVarRf 9 := fun _ _ _ _ _ _ _ _ _ _ _ _ _ _ _ _ _ => by kernel_rfl
theorem rdBinRf_9_2 : RdBinRf 9 2 := fun _ _ _ _ _ _ _ _ _ _ _ _ _ _ _ _ _ _ _ => by kernel_rfl
theorem rdBinRf_9_3 : RdBinRf 9 3 := fun _ _ _ _ _ _ _ _ _ _ _ _ _ _ _ _ _ _ _ => by kernel_rfl
theorem rdBinRf_9_4 : RdBinRf 9 4 := fun _ _ _ _ _ _ _ _ _ _ _ _ _ _ _ _ _ _ _ => by kernel_rfl
theorem rdBinRf_9_5 : RdBinRf 9 5 := fun _ _ _ _ _ _ _ _ _ _ _ _ _ _ _ _ _ _ _ => by kernel_rfl
theorem rdEndRf_9 : RdEndRf 9 := fun _ _ _ _ _ _ _ _ _ => by kernel_rfl
theorem rdConRf_10 : RdConRf 10 := fun _ _ _ _ _ _ _ _ _ _ _ _ _ _ _ => by kernel_rfl
theorem rdVarRf_10 : RdVarRf 10 := fun _ _ _ _ _ _ _ _ _ _ _ _ _ _ _ _ _ => by kernel_rfl
theorem rdBinRf_10_2 : RdBinRf 10 2 := fun _ _ _ _ _ _ _ _ _ _ _ _ _ _ _ _ _ _ _ => by kernel_rfl
theorem rdBinRf_10_3 : RdBinRf 10 3 := fun _ _ _ _ _ _ _ _ _ _ _ _ _ _ _ _ _ _ _ => by kernel_rfl
theorem rdBinRf_10_4 : RdBinRf 10 4 := fun _ _ _ _ _ _ _ _ _ _ _ _ _ _ _ _ _ _ _ => by kernel_rfl
theorem rdBinRf_10_5 : RdBinRf 10 5 := fun _ _ _ _ _ _ _ _ _ _ _ _ _ _ _ _ _ _ _ => by kernel_rfl
theorem rdEndRf_10 : RdEndRf 10 := fun _ _ _ _ _ _ _ _ _ => by kernel_rfl
theorem rdConRf_11 : RdConRf 11 := fun _ _ _ _ _ _ _ _ _ _ _ _ _ _ _ => by kernel_rfl
theorem rdVarRf_11 : RdVarRf 11 := fun _ _ _ _ _ _ _ _ _ _ _ _ _ _ _ _ _ => by kernel_rfl
theorem rdBinRf_11_2 : RdBinRf 11 2 := fun _ _ _ _ _ _ _ _ _ _ _ _ _ _ _ _ _ _ _ => by kernel_rfl
theorem rdBinRf_11_3 : RdBinRf 11 3 := fun _ _ _ _ _ _ _ _ _ _ _ _ _ _ _ _ _ _ _ => by kernel_rfl
theorem rdBinRf_11_4 : RdBinRf 11 4 := fun _ _ _ _ _ _ _ _ _ _ _ _ _ _ _ _ _ _ _ => by kernel_rfl
theorem rdBinRf_11_5 : RdBinRf 11 5 := fun _ _ _ _ _ _ _ _ _ _ _ _ _ _ _ _ _ _ _ => by kernel_rfl
theorem rdEndRf_11 : RdEndRf 11 := fun _ _ _ _ _ _ _ _ _ => by kernel_rfl
theorem rdConRf_12 : RdConRf 12 := fun _ _ _ _ _ _ _ _ _ _ _ _ _ _ _ => by kernel_rfl
theorem rdVarRf_12 : RdVarRf 12 := fun _ _ _ _ _ _ _ _ _ _ _ _ _ _ _ _ _ => by kernel_rfl
theorem rdBinRf_12_2 : RdBinRf 12 2 := fun _ _ _ _ _ _ _ _ _ _ _ _ _ _ _ _ _ _ _ => by kernel_rfl
theorem rdBinRf_12_3 : RdBinRf 12 3 := fun _ _ _ _ _ _ _ _ _ _ _ _ _ _ _ _ _ _ _ => by kernel_rfl
theorem rdBinRf_12_4 : RdBinRf 12 4 := fun _ _ _ _ _ _ _ _ _ _ _ _ _ _ _ _ _ _ _ => by kernel_rfl
theorem rdBinRf_12_5 : RdBinRf 12 5 := fun _ _ _ _ _ _ _ _ _ _ _ _ _ _ _ _ _ _ _ => by kernel_rfl
theorem rdEndRf_12 : RdEndRf 12 := fun _ _ _ _ _ _ _ _ _ => by kernel_rfl
theorem rdConRf_13 : RdConRf 13 := fun _ _ _ _ _ _ _ _ _ _ _ _ _ _ _ => by kernel_rfl
theorem rdVarRf_13 : RdVarRf 13 := fun _ _ _ _ _ _ _ _ _ _ _ _ _ _ _ _ _ => by kernel_rfl
theorem rdBinRf_13_2 : RdBinRf 13 2 := fun _ _ _ _ _ _ _ _ _ _ _ _ _ _ _ _ _ _ _ => by kernel_rfl
theorem rdBinRf_13_3 : RdBinRf 13 3 := fun _ _ _ _ _ _ _ _ _ _ _ _ _ _ _ _ _ _ _ => by kernel_rfl
theorem rdBinRf_13_4 : RdBinRf 13 4 := fun _ _ _ _ _ _ _ _ _ _ _ _ _ _ _ _ _ _ _ => by kernel_rfl
theorem rdBinRf_13_5 : RdBinRf 13 5 := fun _ _ _ _ _ _ _ _ _ _ _ _ _ _ _ _ _ _ _ => by kernel_rfl
theorem rdEndRf_13 : RdEndRf 13 := fun _ _ _ _ _ _ _ _ _ => by kernel_rfl
theorem rdConRf_14 : RdConRf 14 := fun _ _ _ _ _ _ _ _ _ _ _ _ _ _ _ => by kernel_rfl
theorem rdVarRf_14 : RdVarRf 14 := fun _ _ _ _ _ _ _ _ _ _ _ _ _ _ _ _ _ => by kernel_rfl
theorem rdBinRf_14_2 : RdBinRf 14 2 := fun _ _ _ _ _ _ _ _ _ _ _ _ _ _ _ _ _ _ _ => by kernel_rfl
theorem rdBinRf_14_3 : RdBinRf 14 3 := fun _ _ _ _ _ _ _ _ _ _ _ _ _ _ _ _ _ _ _ => by kernel_rfl
theorem rdBinRf_14_4 : RdBinRf 14 4 := fun _ _ _ _ _ _ _ _ _ _ _ _ _ _ _ _ _ _ _ => by kernel_rfl
theorem rdBinRf_14_5 : RdBinRf 14 5 := fun _ _ _ _ _ _ _ _ _ _ _ _ _ _ _ _ _ _ _ => by kernel_rfl
theorem rdEndRf_14 : RdEndRf 14 := fun _ _ _ _ _ _ _ _ _ => by kernel_rfl
theorem rdConRf_15 : RdConRf 15 := fun _ _ _ _ _ _ _ _ _ _ _ _ _ _ _ => by kernel_rfl
theorem rdVarRf_15 : RdVarRf 15 := fun _ _ _ _ _ _ _ _ _ _ _ _ _ _ _ _ _ => by kernel_rfl
theorem rdBinRf_15_2 : RdBinRf 15 2 := fun _ _ _ _ _ _ _ _ _ _ _ _ _ _ _ _ _ _ _ => by kernel_rfl
theorem rdBinRf_15_3 : RdBinRf 15 3 := fun _ _ _ _ _ _ _ _ _ _ _ _ _ _ _ _ _ _ _ => by kernel_rfl
theorem rdBinRf_15_4 : RdBinRf 15 4 := fun _ _ _ _ _ _ _ _ _ _ _ _ _ _ _ _ _ _ _ => by kernel_rfl
theorem rdBinRf_15_5 : RdBinRf 15 5 := fun _ _ _ _ _ _ _ _ _ _ _ _ _ _ _ _ _ _ _ => by kernel_rfl
theorem rdEndRf_15 : RdEndRf 15 := fun _ _ _ _ _ _ _ _ _ => by kernel_rfl
theorem rdConRf_16 : RdConRf 16 := fun _ _ _ _ _ _ _ _ _ _ _ _ _ _ _ => by kernel_rfl
theorem rdVarRf_16 : RdVarRf 16 := fun _ _ _ _ _ _ _ _ _ _ _ _ _ _ _ _ _ => by kernel_rfl
theorem rdBinRf_16_2 : RdBinRf 16 2 := fun _ _ _ _ _ _ _ _ _ _ _ _ _ _ _ _ _ _ _ => by kernel_rfl
theorem rdBinRf_16_3 : RdBinRf 16 3 := fun _ _ _ _ _ _ _ _ _ _ _ _ _ _ _ _ _ _ _ => by kernel_rfl
theorem rdBinRf_16_4 : RdBinRf 16 4 := fun _ _ _ _ _ _ _ _ _ _ _ _ _ _ _ _ _ _ _ => by kernel_rfl
theorem rdBinRf_16_5 : RdBinRf 16 5 := fun _ _ _ _ _ _ _ _ _ _ _ _ _ _ _ _ _ _ _ => by kernel_rfl
theorem rdEndRf_16 : RdEndRf 16 := fun _ _ _ _ _ _ _ _ _ => by kernel_rfl
theorem rdConRf_17 : RdConRf 17 := fun _ _ _ _ _ _ _ _ _ _ _ _ _ _ _ => by kernel_rfl
theorem rdVarRf_17 : RdVarRf 17 := fun _ _ _ _ _ _ _ _ _ _ _ _ _ _ _ _ _ => by kernel_rfl
theorem rdBinRf_17_2 : RdBinRf 17 2 := fun _ _ _ _ _ _ _ _ _ _ _ _ _ _ _ _ _ _ _ => by kernel_rfl
theorem rdBinRf_17_3 : RdBinRf 17 3 := fun _ _ _ _ _ _ _ _ _ _ _ _ _ _ _ _ _ _ _ => by kernel_rfl
theorem rdBinRf_17_4 : RdBinRf 17 4 := fun _ _ _ _ _ _ _ _ _ _ _ _ _ _ _ _ _ _ _ => by kernel_rfl
theorem rdBinRf_17_5 : RdBinRf 17 5 := fun _ _ _ _ _ _ _ _ _ _ _ _ _ _ _ _ _ _ _ => by kernel_rfl
theorem rdEndRf_17 : RdEndRf 17 := fun _ _ _ _ _ _ _ _ _ => by kernel_rfl
theorem rdConRf_18 : RdConRf 18 := fun _ _ _ _ _ _ _ _ _ _ _ _ _ _ _ => by kernel_rfl
theorem rdVarRf_18 : RdVarRf 18 := fun _ _ _ _ _ _ _ _ _ _ _ _ _ _ _ _ _ => by kernel_rfl
theorem rdBinRf_18_2 : RdBinRf 18 2 := fun _ _ _ _ _ _ _ _ _ _ _ _ _ _ _ _ _ _ _ => by kernel_rfl
theorem rdBinRf_18_3 : RdBinRf 18 3 := fun _ _ _ _ _ _ _ _ _ _ _ _ _ _ _ _ _ _ _ => by kernel_rfl
theorem rdBinRf_18_4 : RdBinRf 18 4 := fun _ _ _ _ _ _ _ _ _ _ _ _ _ _ _ _ _ _ _ => by kernel_rfl
theorem rdBinRf_18_5 : RdBinRf 18 5 := fun _ _ _ _ _ _ _ _ _ _ _ _ _ _ _ _ _ _ _ => by kernel_rfl
theorem rdEndRf_18 : RdEndRf 18 := fun _ _ _ _ _ _ _ _ _ => by kernel_rfl
theorem rdConRf_19 : RdConRf 19 := fun _ _ _ _ _ _ _ _ _ _ _ _ _ _ _ => by kernel_rfl
theorem rdVarRf_19 : RdVarRf 19 := fun _ _ _ _ _ _ _ _ _ _ _ _ _ _ _ _ _ => by kernel_rfl
theorem rdBinRf_19_2 : RdBinRf 19 2 := fun _ _ _ _ _ _ _ _ _ _ _ _ _ _ _ _ _ _ _ => by kernel_rfl
theorem rdBinRf_19_3 : RdBinRf 19 3 := fun _ _ _ _ _ _ _ _ _ _ _ _ _ _ _ _ _ _ _ => by kernel_rfl
theorem rdBinRf_19_4 : RdBinRf 19 4 := fun _ _ _ _ _ _ _ _ _ _ _ _ _ _ _ _ _ _ _ => by kernel_rfl
theorem rdBinRf_19_5 : RdBinRf 19 5 := fun _ _ _ _ _ _ _ _ _ _ _ _ _ _ _ _ _ _ _ => by kernel_rfl
theorem rdEndRf_19 : RdEndRf 19 := fun _ _ _ _ _ _ _ _ _ => by kernel_rfl
theorem rdConRf_20 : RdConRf 20 := fun _ _ _ _ _ _ _ _ _ _ _ _ _ _ _ => by kernel_rfl
theorem rdVarRf_20 : RdVarRf 20 := fun _ _ _ _ _ _ _ _ _ _ _ _ _ _ _ _ _ => by kernel_rfl
theorem rdBinRf_20_2 : RdBinRf 20 2 := fun _ _ _ _ _ _ _ _ _ _ _ _ _ _ _ _ _ _ _ => by kernel_rfl
theorem rdBinRf_20_3 : RdBinRf 20 3 := fun _ _ _ _ _ _ _ _ _ _ _ _ _ _ _ _ _ _ _ => by kernel_rfl
theorem rdBinRf_20_4 : RdBinRf 20 4 := fun _ _ _ _ _ _ _ _ _ _ _ _ _ _ _ _ _ _ _ => by kernel_rfl
theorem rdBinRf_20_5 : RdBinRf 20 5 := fun _ _ _ _ _ _ _ _ _ _ _ _ _ _ _ _ _ _ _ => by kernel_rfl
theorem rdEndRf_20 : RdEndRf 20 := fun _ _ _ _ _ _ _ _ _ => by kernel_rfl

end Go.Proofs.Ytclphdmaedpipaa

/-!  The document's Eval: the run about its rounds. -/
namespace Go.Proofs.Ytclphdmaedpipaa
open Go
set_option linter.unusedVariables false
set_option linter.unusedSimpArgs false
set_option maxRecDepth 100000

noncomputable def lgORf (H : List (Option ABlk)) (M N : Nat) (u : Nat → Int) (p : Nat → Addr) (f : Nat → Nat) : List Obl :=
  ((List.range N).flatMap fun i => [.cmp .lss 3 (.int .i64 (Int.ofNat i)) (.int .i64 (Int.ofNat N)) true, .ex (readVar Try.prog (H ++ grRf i f).toArray 3 ⟨1, i, none⟩ = some (.int .i64 (u i))),
    .ex (indexAddrV Try.prog 30 (.slice (some ⟨4, 0, none⟩) M M) (.int .i64 (u i)) = some (.pointer (some (p i)))), .ex (readVar Try.prog (H ++ grRf i f).toArray 28 (p i) = some (.float .f64 (f i)))]) ++ [.cmp .lss 3 (.int .i64 (Int.ofNat N)) (.int .i64 (Int.ofNat N)) false]
def j0Rf (N M : Nat) (i : Nat) : Value := if i = 0 then tpV 0 1 N M else if i = 10 then .pointer (some ⟨3, 1, none⟩) else if i = 11 then .slice (some ⟨0, 0, none⟩) M M else if i = 12 then .int .i64 M else if i = 13 then .slice (some ⟨4, 0, none⟩) M M else undef
def FinRf (N M : Nat) : Prop := ∀ (b0 b1 b2 : Option ABlk) (x : Value) (rb0 rb : Option ABlk) (g : Nat → Option ABlk) (j : Nat → Value) (u : Nat → Int) (p : Nat → Addr) (f : Nat → Nat),
  askT askRf lssC 30 #[tpV 0 1 N M, x] #[b0, b1, b2] (mAnsT (.slice (some ⟨4, 0, none⟩) M M) [b0, b1, b2, tbE N M, rb0] :: (((List.range N).flatMap fun i => [yes true, vAns (.int .i64 (u i)), pAnsT (p i), vAns (.float .f64 (f i))]) ++ [yes false]))
    [some ⟨.exit 0, tmRf x M M j, (hpR b0 b1 b2 N M rb M g).toArray⟩, none] =
  some (.slice (some ⟨5 + M + (2 * N - 1), 0, none⟩) N N, (hpR b0 b1 b2 N M rb M g ++ grRf N f).toArray,
    .ex (makeSliceV Try.prog #[b0, b1, b2, tbE N M] 30 (.int .i64 M) (.int .i64 M) = some (.slice (some ⟨4, 0, none⟩) M M, #[b0, b1, b2, tbE N M, rb0])) :: lgORf (hpR b0 b1 b2 N M rb M g) M N u p f,
    [(bodyRf, tmRf x M 0 (j0Rf N M), (hpR b0 b1 b2 N M rb0 0 g).toArray, (.exit 0, tmRf x M M j, (hpR b0 b1 b2 N M rb M g).toArray))])
theorem finRf_1_2 : FinRf 1 2 := fun _ _ _ _ _ _ _ _ _ _ _ => by kernel_rfl
theorem finRf_1_3 : FinRf 1 3 := fun _ _ _ _ _ _ _ _ _ _ _ => by kernel_rfl
theorem finRf_1_4 : FinRf 1 4 := fun _ _ _ _ _ _ _ _ _ _ _ => by kernel_rfl
theorem finRf_1_5 : FinRf 1 5 := fun _ _ _ _ _ _ _ _ _ _ _ => by kernel_rfl
theorem finRf_1_6 : FinRf 1 6 := fun _ _ _ _ _ _ _ _ _ _ _ => by kernel_rfl
theorem finRf_1_7 : FinRf 1 7 := fun _ _ _ _ _ _ _ _ _ _ _ => by kernel_rfl
theorem finRf_1_8 : FinRf 1 8 := fun _ _ _ _ _ _ _ _ _ _ _ => by kernel_rfl
theorem finRf_1_9 : FinRf 1 9 := fun _ _ _ _ _ _ _ _ _ _ _ => by kernel_rfl
theorem finRf_1_10 : FinRf 1 10 := fun _ _ _ _ _ _ _ _ _ _ _ => by kernel_rfl
theorem finRf_1_11 : FinRf 1 11 := fun _ _ _ _ _ _ _ _ _ _ _ => by kernel_rfl
theorem finRf_1_12 : FinRf 1 12 := fun _ _ _ _ _ _ _ _ _ _ _ => by kernel_rfl
theorem finRf_1_13 : FinRf 1 13 := fun _ _ _ _ _ _ _ _ _ _ _ => by kernel_rfl
theorem finRf_1_14 : FinRf 1 14 := fun _ _ _ _ _ _ _ _ _ _ _ => by kernel_rfl
theorem finRf_1_15 : FinRf 1 15 := fun _ _ _ _ _ _ _ _ _ _ _ => by kernel_rfl
theorem finRf_1_16 : FinRf 1 16 := fun _ _ _ _ _ _ _ _ _ _ _ => by kernel_rfl
theorem finRf_1_17 : FinRf 1 17 := fun _ _ _ _ _ _ _ _ _ _ _ => by kernel_rfl
theorem finRf_1_18 : FinRf 1 18 := fun _ _ _ _ _ _ _ _ _ _ _ => by kernel_rfl
theorem finRf_1_19 : FinRf 1 19 := fun _ _ _ _ _ _ _ _ _ _ _ => by kernel_rfl
theorem finRf_1_20 : FinRf 1 20 := fun _ _ _ _ _ _ _ _ _ _ _ => by kernel_rfl
theorem finRf_2_2 : FinRf 2 2 := fun _ _ _ _ _ _ _ _ _ _ _ => by kernel_rfl
theorem finRf_2_3 : FinRf 2 3 := fun _ _ _ _ _ _ _ _ _ _ _ => by kernel_rfl
theorem finRf_2_4 : FinRf 2 4 := fun _ _ _ _ _ _ _ _ _ _ _ => by kernel_rfl
theorem finRf_2_5 : FinRf 2 5 := fun _ _ _ _ _ _ _ _ _ _ _ => by kernel_rfl
theorem finRf_2_6 : FinRf 2 6 := fun _ _ _ _ _ _ _ _ _ _ _ => by kernel_rfl
theorem finRf_2_7 : FinRf 2 7 := fun _ _ _ _ _ _ _ _ _ _ _ => by kernel_rfl
theorem finRf_2_8 : FinRf 2 8 := fun _ _ _ _ _ _ _ _ _ _ _ => by kernel_rfl
theorem finRf_2_9 : FinRf 2 9 := fun _ _ _ _ _ _ _ _ _ _ _ => by kernel_rfl
theorem finRf_2_10 : FinRf 2 10 := fun _ _ _ _ _ _ _ _ _ _ _ => by kernel_rfl
theorem finRf_2_11 : FinRf 2 11 := fun _ _ _ _ _ _ _ _ _ _ _ => by kernel_rfl
theorem finRf_2_12 : FinRf 2 12 := fun _ _ _ _ _ _ _ _ _ _ _ => by kernel_rfl
theorem finRf_2_13 : FinRf 2 13 := fun _ _ _ _ _ _ _ _ _ _ _ => by kernel_rfl
theorem finRf_2_14 : FinRf 2 14 := fun _ _ _ _ _ _ _ _ _ _ _ => by kernel_rfl
theorem finRf_2_15 : FinRf 2 15 := fun _ _ _ _ _ _ _ _ _ _ _ => by kernel_rfl
theorem finRf_2_16 : FinRf 2 16 := fun _ _ _ _ _ _ _ _ _ _ _ => by kernel_rfl
theorem finRf_2_17 : FinRf 2 17 := fun _ _ _ _ _ _ _ _ _ _ _ => by kernel_rfl
theorem finRf_2_18 : FinRf 2 18 := fun _ _ _ _ _ _ _ _ _ _ _ => by kernel_rfl
theorem finRf_2_19 : FinRf 2 19 := fun _ _ _ _ _ _ _ _ _ _ _ => by kernel_rfl
theorem finRf_2_20 : FinRf 2 20 := fun _ _ _ _ _ _ _ _ _ _ _ => by kernel_rfl
theorem finRf_3_2 : FinRf 3 2 := fun _ _ _ _ _ _ _ _ _ _ _ => by kernel_rfl
theorem finRf_3_3 : FinRf 3 3 := fun _ _ _ _ _ _ _ _ _ _ _ => by kernel_rfl
theorem finRf_3_4 : FinRf 3 4 := fun _ _ _ _ _ _ _ _ _ _ _ => by kernel_rfl
theorem finRf_3_5 : FinRf 3 5 := fun _ _ _ _ _ _ _ _ _ _ _ => by kernel_rfl
theorem finRf_3_6 : FinRf 3 6 := fun _ _ _ _ _ _ _ _ _ _ _ => by kernel_rfl
theorem finRf_3_7 : FinRf 3 7 := fun _ _ _ _ _ _ _ _ _ _ _ => by kernel_rfl
theorem finRf_3_8 : FinRf 3 8 := fun _ _ _ _ _ _ _ _ _ _ _ => by kernel_rfl
theorem finRf_3_9 : FinRf 3 9 := fun _ _ _ _ _ _ _ _ _ _ _ => by kernel_rfl
theorem finRf_3_10 : FinRf 3 10 := fun _ _ _ _ _ _ _ _ _ _ _ => by kernel_rfl
theorem finRf_3_11 : FinRf 3 11 := fun _ _ _ _ _ _ _ _ _ _ _ => by kernel_rfl
theorem finRf_3_12 : FinRf 3 12 := fun _ _ _ _ _ _ _ _ _ _ _ => by kernel_rfl
theorem finRf_3_13 : FinRf 3 13 := fun _ _ _ _ _ _ _ _ _ _ _ => by kernel_rfl
theorem finRf_3_14 : FinRf 3 14 := fun _ _ _ _ _ _ _ _ _ _ _ => by kernel_rfl
theorem finRf_3_15 : FinRf 3 15 := fun _ _ _ _ _ _ _ _ _ _ _ => by kernel_rfl
theorem finRf_3_16 : FinRf 3 16 := fun _ _ _ _ _ _ _ _ _ _ _ => by kernel_rfl
theorem finRf_3_17 : FinRf 3 17 := fun _ _ _ _ _ _ _ _ _ _ _ => by kernel_rfl
theorem finRf_3_18 : FinRf 3 18 := fun _ _ _ _ _ _ _ _ _ _ _ => by kernel_rfl
theorem finRf_3_19 : FinRf 3 19 := fun _ _ _ _ _ _ _ _ _ _ _ => by kernel_rfl
theorem finRf_3_20 : FinRf 3 20 := fun _ _ _ _ _ _ _ _ _ _ _ => by kernel_rfl

theorem rdConRf : ∀ k, k < 21 → RdConRf k
  | 0, _ => rdConRf_0
  | 1, _ => rdConRf_1
  | 2, _ => rdConRf_2
  | 3, _ => rdConRf_3
  | 4, _ => rdConRf_4
  | 5, _ => rdConRf_5
  | 6, _ => rdConRf_6
  | 7, _ => rdConRf_7
  | 8, _ => rdConRf_8
  | 9, _ => rdConRf_9
  | 10, _ => rdConRf_10
  | 11, _ => rdConRf_11
  | 12, _ => rdConRf_12
  | 13, _ => rdConRf_13
  | 14, _ => rdConRf_14
  | 15, _ => rdConRf_15
  | 16, _ => rdConRf_16
  | 17, _ => rdConRf_17
  | 18, _ => rdConRf_18
  | 19, _ => rdConRf_19
  | 20, _ => rdConRf_20
  | n + 21, h => absurd h (by omega)
theorem rdVarRf : ∀ k, k < 21 → RdVarRf k
  | 0, _ => rdVarRf_0
  | 1, _ => rdVarRf_1
  | 2, _ => rdVarRf_2
  | 3, _ => rdVarRf_3
  | 4, _ => rdVarRf_4
  | 5, _ => rdVarRf_5
  | 6, _ => rdVarRf_6
  | 7, _ => rdVarRf_7
  | 8, _ => rdVarRf_8
  | 9, _ => rdVarRf_9
  | 10, _ => rdVarRf_10
  | 11, _ => rdVarRf_11
  | 12, _ => rdVarRf_12
  | 13, _ => rdVarRf_13
  | 14, _ => rdVarRf_14
  | 15, _ => rdVarRf_15
  | 16, _ => rdVarRf_16
  | 17, _ => rdVarRf_17
  | 18, _ => rdVarRf_18
  | 19, _ => rdVarRf_19
  | 20, _ => rdVarRf_20
  | n + 21, h => absurd h (by omega)
theorem rdEndRf : ∀ k, 2 ≤ k → k < 21 → RdEndRf k
  | 0, h, _ => absurd h (by omega)
  | 1, h, _ => absurd h (by omega)
  | 2, _, _ => rdEndRf_2
  | 3, _, _ => rdEndRf_3
  | 4, _, _ => rdEndRf_4
  | 5, _, _ => rdEndRf_5
  | 6, _, _ => rdEndRf_6
  | 7, _, _ => rdEndRf_7
  | 8, _, _ => rdEndRf_8
  | 9, _, _ => rdEndRf_9
  | 10, _, _ => rdEndRf_10
  | 11, _, _ => rdEndRf_11
  | 12, _, _ => rdEndRf_12
  | 13, _, _ => rdEndRf_13
  | 14, _, _ => rdEndRf_14
  | 15, _, _ => rdEndRf_15
  | 16, _, _ => rdEndRf_16
  | 17, _, _ => rdEndRf_17
  | 18, _, _ => rdEndRf_18
  | 19, _, _ => rdEndRf_19
  | 20, _, _ => rdEndRf_20
  | n + 21, _, h => absurd h (by omega)
theorem rdBinRfA_2 : ∀ k, 1 ≤ k → k < 21 → RdBinRf k 2
  | 0, h, _ => absurd h (by omega)
  | 1, _, _ => rdBinRf_1_2
  | 2, _, _ => rdBinRf_2_2
  | 3, _, _ => rdBinRf_3_2
  | 4, _, _ => rdBinRf_4_2
  | 5, _, _ => rdBinRf_5_2
  | 6, _, _ => rdBinRf_6_2
  | 7, _, _ => rdBinRf_7_2
  | 8, _, _ => rdBinRf_8_2
  | 9, _, _ => rdBinRf_9_2
  | 10, _, _ => rdBinRf_10_2
  | 11, _, _ => rdBinRf_11_2
  | 12, _, _ => rdBinRf_12_2
  | 13, _, _ => rdBinRf_13_2
  | 14, _, _ => rdBinRf_14_2
  | 15, _, _ => rdBinRf_15_2
  | 16, _, _ => rdBinRf_16_2
  | 17, _, _ => rdBinRf_17_2
  | 18, _, _ => rdBinRf_18_2
  | 19, _, _ => rdBinRf_19_2
  | 20, _, _ => rdBinRf_20_2
  | n + 21, _, h => absurd h (by omega)
theorem rdBinRfA_3 : ∀ k, 1 ≤ k → k < 21 → RdBinRf k 3
  | 0, h, _ => absurd h (by omega)
  | 1, _, _ => rdBinRf_1_3
  | 2, _, _ => rdBinRf_2_3
  | 3, _, _ => rdBinRf_3_3
  | 4, _, _ => rdBinRf_4_3
  | 5, _, _ => rdBinRf_5_3
  | 6, _, _ => rdBinRf_6_3
  | 7, _, _ => rdBinRf_7_3
  | 8, _, _ => rdBinRf_8_3
  | 9, _, _ => rdBinRf_9_3
  | 10, _, _ => rdBinRf_10_3
  | 11, _, _ => rdBinRf_11_3
  | 12, _, _ => rdBinRf_12_3
  | 13, _, _ => rdBinRf_13_3
  | 14, _, _ => rdBinRf_14_3
  | 15, _, _ => rdBinRf_15_3
  | 16, _, _ => rdBinRf_16_3
  | 17, _, _ => rdBinRf_17_3
  | 18, _, _ => rdBinRf_18_3
  | 19, _, _ => rdBinRf_19_3
  | 20, _, _ => rdBinRf_20_3
  | n + 21, _, h => absurd h (by omega)
theorem rdBinRfA_4 : ∀ k, 1 ≤ k → k < 21 → RdBinRf k 4
  | 0, h, _ => absurd h (by omega)
  | 1, _, _ => rdBinRf_1_4
  | 2, _, _ => rdBinRf_2_4
  | 3, _, _ => rdBinRf_3_4
  | 4, _, _ => rdBinRf_4_4
  | 5, _, _ => rdBinRf_5_4
  | 6, _, _ => rdBinRf_6_4
  | 7, _, _ => rdBinRf_7_4
  | 8, _, _ => rdBinRf_8_4
  | 9, _, _ => rdBinRf_9_4
  | 10, _, _ => rdBinRf_10_4
  | 11, _, _ => rdBinRf_11_4
  | 12, _, _ => rdBinRf_12_4
  | 13, _, _ => rdBinRf_13_4
  | 14, _, _ => rdBinRf_14_4
  | 15, _, _ => rdBinRf_15_4
  | 16, _, _ => rdBinRf_16_4
  | 17, _, _ => rdBinRf_17_4
  | 18, _, _ => rdBinRf_18_4
  | 19, _, _ => rdBinRf_19_4
  | 20, _, _ => rdBinRf_20_4
  | n + 21, _, h => absurd h (by omega)
theorem rdBinRfA_5 : ∀ k, 1 ≤ k → k < 21 → RdBinRf k 5
  | 0, h, _ => absurd h (by omega)
  | 1, _, _ => rdBinRf_1_5
  | 2, _, _ => rdBinRf_2_5
  | 3, _, _ => rdBinRf_3_5
  | 4, _, _ => rdBinRf_4_5
  | 5, _, _ => rdBinRf_5_5
  | 6, _, _ => rdBinRf_6_5
  | 7, _, _ => rdBinRf_7_5
  | 8, _, _ => rdBinRf_8_5
  | 9, _, _ => rdBinRf_9_5
  | 10, _, _ => rdBinRf_10_5
  | 11, _, _ => rdBinRf_11_5
  | 12, _, _ => rdBinRf_12_5
  | 13, _, _ => rdBinRf_13_5
  | 14, _, _ => rdBinRf_14_5
  | 15, _, _ => rdBinRf_15_5
  | 16, _, _ => rdBinRf_16_5
  | 17, _, _ => rdBinRf_17_5
  | 18, _, _ => rdBinRf_18_5
  | 19, _, _ => rdBinRf_19_5
  | 20, _, _ => rdBinRf_20_5
  | n + 21, _, h => absurd h (by omega)
theorem rdBinRf (k : Nat) (K : Int) (h1 : 1 ≤ k) (h2 : k < 21) (h3 : 2 ≤ K) (h4 : K ≤ 5) : RdBinRf k K := by
  have : K = 2 ∨ K = 3 ∨ K = 4 ∨ K = 5 := by omega
  rcases this with rfl | rfl | rfl | rfl
  · exact rdBinRfA_2 k h1 h2
  · exact rdBinRfA_3 k h1 h2
  · exact rdBinRfA_4 k h1 h2
  · exact rdBinRfA_5 k h1 h2
theorem finRfA_1 : ∀ m, 2 ≤ m → m < 21 → FinRf 1 m
  | 0, h, _ => absurd h (by omega)
  | 1, h, _ => absurd h (by omega)
  | 2, _, _ => finRf_1_2
  | 3, _, _ => finRf_1_3
  | 4, _, _ => finRf_1_4
  | 5, _, _ => finRf_1_5
  | 6, _, _ => finRf_1_6
  | 7, _, _ => finRf_1_7
  | 8, _, _ => finRf_1_8
  | 9, _, _ => finRf_1_9
  | 10, _, _ => finRf_1_10
  | 11, _, _ => finRf_1_11
  | 12, _, _ => finRf_1_12
  | 13, _, _ => finRf_1_13
  | 14, _, _ => finRf_1_14
  | 15, _, _ => finRf_1_15
  | 16, _, _ => finRf_1_16
  | 17, _, _ => finRf_1_17
  | 18, _, _ => finRf_1_18
  | 19, _, _ => finRf_1_19
  | 20, _, _ => finRf_1_20
  | m + 21, _, h => absurd h (by omega)
theorem finRfA_2 : ∀ m, 2 ≤ m → m < 21 → FinRf 2 m
  | 0, h, _ => absurd h (by omega)
  | 1, h, _ => absurd h (by omega)
  | 2, _, _ => finRf_2_2
  | 3, _, _ => finRf_2_3
  | 4, _, _ => finRf_2_4
  | 5, _, _ => finRf_2_5
  | 6, _, _ => finRf_2_6
  | 7, _, _ => finRf_2_7
  | 8, _, _ => finRf_2_8
  | 9, _, _ => finRf_2_9
  | 10, _, _ => finRf_2_10
  | 11, _, _ => finRf_2_11
  | 12, _, _ => finRf_2_12
  | 13, _, _ => finRf_2_13
  | 14, _, _ => finRf_2_14
  | 15, _, _ => finRf_2_15
  | 16, _, _ => finRf_2_16
  | 17, _, _ => finRf_2_17
  | 18, _, _ => finRf_2_18
  | 19, _, _ => finRf_2_19
  | 20, _, _ => finRf_2_20
  | m + 21, _, h => absurd h (by omega)
theorem finRfA_3 : ∀ m, 2 ≤ m → m < 21 → FinRf 3 m
  | 0, h, _ => absurd h (by omega)
  | 1, h, _ => absurd h (by omega)
  | 2, _, _ => finRf_3_2
  | 3, _, _ => finRf_3_3
  | 4, _, _ => finRf_3_4
  | 5, _, _ => finRf_3_5
  | 6, _, _ => finRf_3_6
  | 7, _, _ => finRf_3_7
  | 8, _, _ => finRf_3_8
  | 9, _, _ => finRf_3_9
  | 10, _, _ => finRf_3_10
  | 11, _, _ => finRf_3_11
  | 12, _, _ => finRf_3_12
  | 13, _, _ => finRf_3_13
  | 14, _, _ => finRf_3_14
  | 15, _, _ => finRf_3_15
  | 16, _, _ => finRf_3_16
  | 17, _, _ => finRf_3_17
  | 18, _, _ => finRf_3_18
  | 19, _, _ => finRf_3_19
  | 20, _, _ => finRf_3_20
  | m + 21, _, h => absurd h (by omega)
theorem finRf (n m : Nat) (h1 : 1 ≤ n) (h2 : n ≤ 3) (h3 : 2 ≤ m) (h4 : m < 21) : FinRf n m := by
  have : n = 1 ∨ n = 2 ∨ n = 3 := by omega
  rcases this with rfl | rfl | rfl
  · exact finRfA_1 m h3 h4
  · exact finRfA_2 m h3 h4
  · exact finRfA_3 m h3 h4

end Go.Proofs.Ytclphdmaedpipaa

/-!  The document's Eval: what it tells is what the operations reckon. -/
namespace Go.Proofs.Ytclphdmaedpipaa
open Go
set_option linter.unusedVariables false
set_option linter.unusedSimpArgs false
set_option maxRecDepth 100000

theorem zt_f : zeroB Try.prog 28 1 = true := by kernel_rfl
theorem zc_f : zeroC Try.prog 28 = fC 0 := by kernel_rfl
theorem fC_clos (l : List Nat) (u : Value) (h : u ∈ l.flatMap fC) : closN 4 u = true := by
  simp only [List.mem_flatMap, fC, List.mem_singleton] at h
  obtain ⟨a, _, rfl⟩ := h
  rfl

section
variable {b0 b1 b2 : Option ABlk} {N : Nat} {ops : List OpD} {out : List Int} {xs : List Nat}

theorem tmRf_back {x : Value} {M k : Nat} {tm' : List Value} (hl : tm'.length = 79) (t1 : getT tm' 1 = x) (t2 : getT tm' 2 = .pointer (some ⟨3, 0, none⟩)) (t4 : getT tm' 4 = .slice none 0 0) (t5 : getT tm' 5 = .slice (some ⟨4, 0, none⟩) M M) (t6 : getT tm' 6 = .int .i64 k) : ∃ j', tm' = tmRf x M k j' := by
  refine ⟨getT tm', (tm_eq hl).trans ?_⟩
  unfold tmRf
  apply List.map_congr_left
  intro i _
  split
  · rename_i h; subst h; exact t1
  split
  · rename_i h; subst h; exact t2
  split
  · rename_i h; subst h; exact t4
  split
  · rename_i h; subst h; exact t5
  split
  · rename_i h; subst h; exact t6
  rfl
theorem reRf {x : Value} {M k : Nat} {rb : Option ABlk} {tm' : List Value} {H' : AHeap} (h : slR tm' H' = outRf b0 b1 b2 x N M k rb) : ∃ g' j', tm' = tmRf x M (k + 1) j' ∧ H' = (hpR b0 b1 b2 N M rb (k + 1) g').toArray := by
  unfold slR outRf at h
  simp only [Prod.mk.injEq, List.cons.injEq, and_true] at h
  obtain ⟨hl, ⟨t1, t2, t4, t5, t6⟩, ht, hn⟩ := h
  obtain ⟨j', hj⟩ := tmRf_back hl t1 t2 t4 t5 t6
  refine ⟨fun i => H'.toList.getD (5 + i) none, j', hj, ?_⟩
  apply Array.ext'
  exact list_parts0 none H'.toList _ 5 (k + 1) ht hn

/-- The registers' block. -/
def rbRf (F : Nat → Nat) (M k : Nat) : ABlk := ⟨((rL 0 F M k).flatMap fC).toArray, 28, 1, true⟩
theorem hpR_4Rf {M k n : Nat} {rb : Option ABlk} {g : Nat → Option ABlk} (c : List (Option ABlk)) : (hpR b0 b1 b2 N M rb k g ++ c).toArray[4]? = some rb := rfl

theorem regRf_ok {A : Int} {k M : Nat} (h0 : 0 ≤ A) (h1 : A < k) (hM : k ≤ M) (F : Nat → Nat) (g : Nat → Option ABlk) (n : Nat) (c : List (Option ABlk)) : okAll Try.prog (lgR (hpR b0 b1 b2 N M (some (rbRf F M k)) n g ++ c) (.slice (some ⟨4, 0, none⟩) M M) A ⟨4, A.toNat, none⟩ (F A.toNat)) :=
  ⟨ixF h0 (by omega) rfl, rdF (B := rbRf F M k) (l := rL 0 F M k) (k := A.toNat) rfl rfl (rL_get _ F (by omega) (by omega)) rfl, trivial⟩
theorem wrRf_ok {k M : Nat} (hk : k < M) (F : Nat → Nat) (g : Nat → Option ABlk) (n : Nat) (c : List (Option ABlk)) {v : Nat} (hv : F k = v) : okAll Try.prog (lgWRf (hpR b0 b1 b2 N M (some (rbRf F M k)) n g ++ c) (hpR b0 b1 b2 N M (some (rbRf F M (k + 1))) n g ++ c) M k ⟨4, k, none⟩ v) := by
  refine ⟨ixF (by omega) (by omega) (by omega), ?_, trivial⟩
  obtain ⟨i, hi, hz⟩ := sizeB_ex sz_f
  subst hv
  refine (wr_at (f := fC) (n := 1) (fun _ => rfl) hi hz (H := (hpR b0 b1 b2 N M (some (rbRf F M k)) n g ++ c).toArray) (b := 4) (k := k) (B := rbRf F M k) (l := rL 0 F M k) (a := F k) rfl rfl rfl rfl rfl (by rw [rL_len]; exact hk) (by omega)).trans ?_
  rw [rL_set _ F M k hk]
  rfl

theorem EvG.roundRf (h : @EvG Nat fC b0 b1 b2 N ops out xs) {k : Nat} {o : OpD} (ho : ops[k]? = some o) (hk : k < 21) (g : Nat → Option ABlk) (j : Nat → Value) :
    ∃ g' j', evR Try.prog (Runs Try.prog) (orcD 12) q1 bodyRf (tmRf (.slice (some ⟨2, 0, none⟩) N N) ops.length k j) (hpR b0 b1 b2 N ops.length (some (rbRf (regF ops xs) ops.length k)) k g).toArray
      (.normal, tmRf (.slice (some ⟨2, 0, none⟩) N N) ops.length (k + 1) j', (hpR b0 b1 b2 N ops.length (some (rbRf (regF ops xs) ops.length (k + 1))) (k + 1) g').toArray) := by
  have hlt : k < ops.length := (List.getElem?_eq_some_iff.1 ho).1
  have hd := h.head ho (H := hpR b0 b1 b2 N ops.length (some (rbRf (regF ops xs) ops.length k)) k g) rfl
  have hok := h.ok k o ho
  have hF : regF ops xs k = stepT (fun c => c) opF (fun i => xs.getD i 0) (regF ops xs) o := regT_at ho hok
  unfold stepT at hF
  have hw := fun (v : Nat) (hv : regF ops xs k = v) => wrRf_ok (b0 := b0) (b1 := b1) (b2 := b2) (N := N) hlt (regF ops xs) g k [obE o.K o.A o.B o.C] hv
  rcases hok with h0 | ⟨h1, hA0, hA1⟩ | ⟨h2, h5, hA0, hA1, hB0, hB1⟩
  · rw [if_pos h0] at hF
    rw [h0] at hd hw
    have r := rdConRf k hk b0 b1 b2 N ops.length o.A o.B o.C (.slice (some ⟨2, 0, none⟩) N N) ⟨0, k * 4, none⟩ ⟨4, k, none⟩ (some (rbRf (regF ops xs) ops.length k)) (some (rbRf (regF ops xs) ops.length (k + 1))) g j
    unfold runRf at r
    obtain ⟨tm', H', hs, hev⟩ := rnd_part r (okApp hd (hw _ hF))
    obtain ⟨g', j', rfl, rfl⟩ := reRf hs
    exact ⟨g', j', hev⟩
  · rw [if_neg (by omega), if_pos h1] at hF
    rw [h1] at hd hw
    have r := rdVarRf k hk b0 b1 b2 N ops.length o.A o.B o.C (xs.getD o.A.toNat 0) (.slice (some ⟨2, 0, none⟩) N N) ⟨0, k * 4, none⟩ ⟨2, o.A.toNat, none⟩ ⟨4, k, none⟩ (some (rbRf (regF ops xs) ops.length k)) (some (rbRf (regF ops xs) ops.length (k + 1))) g j
    unfold runRf at r
    obtain ⟨tm', H', hs, hev⟩ := rnd_part r (okApp (okApp hd (EvH.var h hA0 hA1 rfl)) (hw _ hF))
    obtain ⟨g', j', rfl, rfl⟩ := reRf hs
    exact ⟨g', j', hev⟩
  · rw [if_neg (by omega), if_neg (by omega)] at hF
    have r := rdBinRf k o.K (by omega) hk h2 h5 b0 b1 b2 N ops.length o.A o.B o.C (regF ops xs o.A.toNat) (regF ops xs o.B.toNat) (.slice (some ⟨2, 0, none⟩) N N) ⟨0, k * 4, none⟩ ⟨4, o.A.toNat, none⟩ ⟨4, o.B.toNat, none⟩ ⟨4, k, none⟩ (some (rbRf (regF ops xs) ops.length k)) (some (rbRf (regF ops xs) ops.length (k + 1))) g j
    unfold runRf at r
    obtain ⟨tm', H', hs, hev⟩ := rnd_part r (okApp (okApp (okApp hd (regRf_ok hA0 hA1 (by omega) _ _ _ _)) (regRf_ok hB0 hB1 (by omega) _ _ _ _)) (hw _ hF))
    obtain ⟨g', j', rfl, rfl⟩ := reRf hs
    exact ⟨g', j', hev⟩

theorem EvG.roundsRf (h : @EvG Nat fC b0 b1 b2 N ops out xs) (h2 : 2 ≤ ops.length) (hM : ops.length < 21) : ∀ (d k : Nat), k + d = ops.length → ∀ (g : Nat → Option ABlk) (j : Nat → Value),
    ∃ g' j', Rds (evR Try.prog (Runs Try.prog) (orcD 12) q1 bodyRf) (tmRf (.slice (some ⟨2, 0, none⟩) N N) ops.length k j) (hpR b0 b1 b2 N ops.length (some (rbRf (regF ops xs) ops.length k)) k g).toArray
      (.exit 0, tmRf (.slice (some ⟨2, 0, none⟩) N N) ops.length ops.length j', (hpR b0 b1 b2 N ops.length (some (rbRf (regF ops xs) ops.length ops.length)) ops.length g').toArray)
  | 0, k, hk, g, j => by
    have hk' : k = ops.length := by omega
    subst hk'
    have r := rdEndRf ops.length h2 hM b0 b1 b2 N ops.length (.slice (some ⟨2, 0, none⟩) N N) (some (rbRf (regF ops xs) ops.length ops.length)) g j
    obtain ⟨tm', H', hs, hev⟩ := rnd_part (g := fun tm H => ((tm.length, [getT tm 1, getT tm 2, getT tm 4, getT tm 5, getT tm 6]), H)) r ⟨cmp_ok (decide_eq_false (by omega)), trivial⟩
    simp only [Prod.mk.injEq, List.cons.injEq, and_true] at hs
    obtain ⟨⟨hl, t1, t2, t4, t5, t6⟩, rfl⟩ := hs
    obtain ⟨j', rfl⟩ := tmRf_back hl t1 t2 t4 t5 t6
    exact ⟨g, j', .last hev (by simp)⟩
  | d + 1, k, hk, g, j => by
    have hlt : k < ops.length := by omega
    obtain ⟨g1, j1, h1⟩ := h.roundRf (List.getElem?_eq_getElem hlt) (by omega) g j
    obtain ⟨g2, j2, h3⟩ := h.roundsRf h2 hM d (k + 1) (by omega) g1 j1
    exact ⟨g2, j2, .next h1 h3⟩

theorem EvG.outsRf (h : @EvG Nat fC b0 b1 b2 N ops out xs) (h2 : 2 ≤ ops.length) (g : Nat → Option ABlk) : okAll Try.prog (lgORf (hpR b0 b1 b2 N ops.length (some (rbRf (regF ops xs) ops.length ops.length)) ops.length g) ops.length N
    (fun i => out.getD i 0) (fun i => ⟨4, (out.getD i 0).toNat, none⟩) (fun i => regF ops xs (out.getD i 0).toNat)) := by
  unfold lgORf
  refine okApp ?_ ⟨cmp_ok (decide_eq_false (by omega)), trivial⟩
  have key : ∀ l : List Nat, (∀ i ∈ l, i < N) → okAll Try.prog (l.flatMap fun i => [.cmp .lss 3 (.int .i64 (Int.ofNat i)) (.int .i64 (Int.ofNat N)) true, .ex (readVar Try.prog (hpR b0 b1 b2 N ops.length (some (rbRf (regF ops xs) ops.length ops.length)) ops.length g ++ grRf i (fun i => regF ops xs (out.getD i 0).toNat)).toArray 3 ⟨1, i, none⟩ = some (.int .i64 (out.getD i 0))),
      .ex (indexAddrV Try.prog 30 (.slice (some ⟨4, 0, none⟩) ops.length ops.length) (.int .i64 (out.getD i 0)) = some (.pointer (some ⟨4, (out.getD i 0).toNat, none⟩))), .ex (readVar Try.prog (hpR b0 b1 b2 N ops.length (some (rbRf (regF ops xs) ops.length ops.length)) ops.length g ++ grRf i (fun i => regF ops xs (out.getD i 0).toNat)).toArray 28 ⟨4, (out.getD i 0).toNat, none⟩ = some (.float .f64 (regF ops xs (out.getD i 0).toNat)))]) := by
    intro l hl
    induction l with
    | nil => trivial
    | cons i l ih =>
      rw [List.flatMap_cons]
      refine okApp ?_ (ih fun i hi => hl i (List.mem_cons_of_mem _ hi))
      have hi := hl i (List.mem_cons_self ..)
      have hio : i < out.length := by rw [h.lo]; exact hi
      have hg : out[i]? = some (out.getD i 0) := by
        rw [List.getD_eq_getElem?_getD, List.getElem?_eq_getElem hio]; rfl
      obtain ⟨u0, u1⟩ := h.oo _ (List.mem_of_getElem? hg)
      obtain ⟨B, hB, hc⟩ := h.m1
      have hr := regRf_ok (b0 := b0) (b1 := b1) (b2 := b2) (N := N) (A := out.getD i 0) u0 u1 (Nat.le_refl _) (regF ops xs) g ops.length (grRf i (fun i => regF ops xs (out.getD i 0).toNat))
      refine ⟨cmp_ok (decide_eq_true hi), rdI (B := B) (l := out) (k := i) ?_ hc hg rfl, hr.1, hr.2.1, trivial⟩
      rw [hB]; rfl
  exact key _ fun i hi => List.mem_range.1 hi

theorem grRf_last {N : Nat} (hN : 1 ≤ N) (hN3 : N ≤ 3) (f : Nat → Nat) : (grRf N f).length = 2 * N ∧ (grRf N f)[2 * N - 1]? = some (some ⟨((List.range N).flatMap fun i => fC (f i)).toArray, 28, 1, true⟩) := by
  have : N = 1 ∨ N = 2 ∨ N = 3 := by omega
  rcases this with rfl | rfl | rfl <;> exact ⟨rfl, rfl⟩

theorem EvG.evalsRf {c0 c1 c2 : ABlk} (h : @EvG Nat fC (some c0) (some c1) (some c2) N ops out xs) (h0 : c0.own = false) (h1 : c1.own = false) (h2 : c2.own = false) (hM2 : 2 ≤ ops.length) (hM : ops.length < 21) (hN : 1 ≤ N) (hN3 : N ≤ 3) :
    Runs Try.prog 30 #[tpV 0 1 N ops.length, .slice (some ⟨2, 0, none⟩) N N] #[some c0, some c1, some c2] (.slice (some ⟨3, 0, none⟩) N N) (#[some c0, some c1, some c2] ++ #[nwF (evOut (regF ops xs) out)]) := by
  have hf3 : AllFrozen #[some c0, some c1, some c2] := by
    intro b B hB
    match b, hB with
    | 0, hB => simp at hB; subst hB; exact h0
    | 1, hB => simp at hB; subst hB; exact h1
    | 2, hB => simp at hB; subst hB; exact h2
    | n + 3, hB => simp at hB
  obtain ⟨g, j, hr⟩ := h.roundsRf hM2 hM ops.length 0 (by omega) (fun _ => none) (j0Rf N ops.length)
  have fin := finRf N ops.length hN hN3 hM2 hM (some c0) (some c1) (some c2) (.slice (some ⟨2, 0, none⟩) N N) (some (rbRf (regF ops xs) ops.length 0)) (some (rbRf (regF ops xs) ops.length ops.length)) g j (fun i => out.getD i 0) (fun i => ⟨4, (out.getD i 0).toNat, none⟩) (fun i => regF ops xs (out.getD i 0).toNat)
  have hmk := mk_sliceT (P := Try.prog) (t := 30) (e := 28) (n := 1) ty_fs zt_f (f := fC) (a := 0) zc_f (H := #[some c0, some c1, some c2, tbE N ops.length]) (M := ops.length) (by omega)
  have hmk2 : makeSliceV Try.prog #[some c0, some c1, some c2, tbE N ops.length] 30 (.int .i64 ops.length) (.int .i64 ops.length) = some (.slice (some ⟨4, 0, none⟩) ops.length ops.length, #[some c0, some c1, some c2, tbE N ops.length, some (rbRf (regF ops xs) ops.length 0)]) := by
    rw [hmk]
    unfold rbRf
    rw [rL_zero]
    rfl
  have hruns := askT_runs fin ⟨hmk2, h.outsRf hM2 g⟩ (fun z hz => by
    rw [List.mem_singleton] at hz
    subst hz
    exact hr)
  have e : (hpR (some c0) (some c1) (some c2) N ops.length (some (rbRf (regF ops xs) ops.length ops.length)) ops.length g ++ grRf N (fun i => regF ops xs (out.getD i 0).toNat)).toArray =
      #[some c0, some c1, some c2] ++ ([tbE N ops.length, some (rbRf (regF ops xs) ops.length ops.length)] ++ (List.range ops.length).map g ++ grRf N (fun i => regF ops xs (out.getD i 0).toNat)).toArray := by
    apply Array.ext'
    simp [hpR, List.append_assoc]
  rw [e] at hruns
  obtain ⟨l1, l2⟩ := grRf_last hN hN3 (fun i => regF ops xs (out.getD i 0).toNat)
  have hk : ([tbE N ops.length, some (rbRf (regF ops xs) ops.length ops.length)] ++ (List.range ops.length).map g ++ grRf N (fun i => regF ops xs (out.getD i 0).toNat)).toArray[2 + ops.length + (2 * N - 1)]? = some (nwF (evOut (regF ops xs) out)) := by
    rw [List.getElem?_toArray, List.getElem?_append_right (by simp; omega)]
    have e9 : 2 + ops.length + (2 * N - 1) - ([tbE N ops.length, some (rbRf (regF ops xs) ops.length ops.length)] ++ (List.range ops.length).map g).length = 2 * N - 1 := by simp; omega
    rw [e9, l2]
    unfold nwF evOut
    rw [List.flatMap_map]
    have e8 : ((List.range N).flatMap fun i => fC (regF ops xs (out.getD i 0).toNat)) = ((List.range out.length).map fun i => out.getD i 0).flatMap fun u => fC (regF ops xs u.toNat) := by
      rw [List.flatMap_map, h.lo]
    rw [e8, range_getD]
  have e2 : 5 + ops.length + (2 * N - 1) = (#[some c0, some c1, some c2] : AHeap).size + (2 + ops.length + (2 * N - 1)) := by simp; omega
  rw [e2] at hruns
  refine Runs.keep1 hf3 hruns hk fun i u hu => ?_
  have hu' : u ∈ (evOut (regF ops xs) out).flatMap fC := List.mem_of_getElem? (by simpa using hu)
  exact fC_clos _ _ hu'
end

end Go.Proofs.Ytclphdmaedpipaa
