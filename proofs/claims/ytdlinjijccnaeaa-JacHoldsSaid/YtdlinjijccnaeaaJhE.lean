/- JhA / JhB / JhE / JhL: several texts in one. -/
import Derived.Test.YtdlinjijccnaeaaJqK
import Derived.Test.YtdlinjijccnaeaaTpLz
import Derived.Test.YtdlinjijccnaeaaJhR
/-!  The document's EvalIv: rounds and run (cut out of TpRf, TpRi, TpRiF, TpRiG). -/
namespace Go.Proofs.Ytdlinjijccnaeaa
open Go
set_option linter.unusedVariables false
set_option linter.unusedSimpArgs false
set_option maxRecDepth 100000

def hpR (b0 b1 b2 : Option ABlk) (N M : Nat) (rb : Option ABlk) (k : Nat) (g : Nat → Option ABlk) : List (Option ABlk) := [b0, b1, b2, tbE N M, rb] ++ (List.range k).map g
abbrev SlR := Nat × List Value × List (Option ABlk) × Nat
def slR (tm : List Value) (H : AHeap) : SlR := (tm.length, [getT tm 1, getT tm 2, getT tm 4, getT tm 5, getT tm 6], H.toList.take 5, H.toList.length)
/-- The slots that are asked for. -/
noncomputable def askRi (g : FuncId) : Nat := if g == 1000013 || g == 1000024 || g == 1000025 || g == 1000035 || g == 1000036 || g == 1000040 || g == 1000041 || g == 1000043 || g == 1000051 || g == 1000059 || g == 1000060 || g == 1000061 || g == 1000074 || g == 1000075 || g == 1000076 then 7 else if g == 50 then 1 else 0
noncomputable def bodyRi : Code := bodyAt Try.prog 28 0
def tmRi (x : Value) (M k : Nat) (j : Nat → Value) : List Value := (List.range 80).map fun i =>
  if i = 1 then x else if i = 2 then .pointer (some ⟨3, 0, none⟩) else if i = 4 then .slice none 0 0 else if i = 5 then .slice (some ⟨4, 0, none⟩) M M else if i = 6 then .int .i64 k else j i
def outRi (b0 b1 b2 : Option ABlk) (x : Value) (N M k : Nat) (rb : Option ABlk) : SlR :=
  (80, [x, .pointer (some ⟨3, 0, none⟩), .slice none 0 0, .slice (some ⟨4, 0, none⟩) M M, .int .i64 (Int.ofNat (k + 1))], [b0, b1, b2, tbE N M, rb], 5 + (k + 1))
noncomputable def runRi (b0 b1 b2 : Option ABlk) (N M k : Nat) (x : Value) (rb : Option ABlk) (g : Nat → Option ABlk) (j : Nat → Value) (s : List Ans) : Option (AExit × SlR × List Obl × List LpO) :=
  (rndT askRi lssC bodyRi (tmRi x M k j) (hpR b0 b1 b2 N M rb k g).toArray s []).map fun r => (r.1, slR r.2.1 r.2.2.1, r.2.2.2)
/-- What is asked at a round's end: the register's place, and the register there. -/
noncomputable def lgWRi (H H' : List (Option ABlk)) (M k : Nat) (pi : Addr) (v : (Nat × Nat)) : List Obl :=
  [.ex (indexAddrV Try.prog 26 (.slice (some ⟨4, 0, none⟩) M M) (.int .i64 k) = some (.pointer (some pi))), .ex (writeVar Try.prog H.toArray 29 pi (vI v) = some H'.toArray)]
def RdBinRi (k : Nat) (K : Int) : Prop := ∀ (b0 b1 b2 : Option ABlk) (N M : Nat) (A B : Int) (C : Nat) (fa fb : (Nat × Nat)) (v : Nat × Nat) (x : Value) (po pa pb pi : Addr) (rb rb' : Option ABlk) (g : Nat → Option ABlk) (j : Nat → Value),
  runRi b0 b1 b2 N M k x rb g j [yes true, pAnsT po, vAns (opV K A B C), pAnsT pa, vAns (vI fa), pAnsT pb, vAns (vI fb), vAns (vI v), pAnsT pi, mAnsT undef (hpR b0 b1 b2 N M rb' k g ++ [obE K A B C])] =
    some (.normal, outRi b0 b1 b2 x N M k rb', lgE (hpR b0 b1 b2 N M rb k g) M k po (opV K A B C) ++ lgRI (hpR b0 b1 b2 N M rb k g ++ [obE K A B C]) (.slice (some ⟨4, 0, none⟩) M M) A pa fa ++ lgRI (hpR b0 b1 b2 N M rb k g ++ [obE K A B C]) (.slice (some ⟨4, 0, none⟩) M M) B pb fb ++ [.run 50 #[.int .i64 K, vI fa, vI fb] #[] (vI v) #[]] ++ lgWRi (hpR b0 b1 b2 N M rb k g ++ [obE K A B C]) (hpR b0 b1 b2 N M rb' k g ++ [obE K A B C]) M k pi v, [])
def RdConRi (k : Nat) : Prop := ∀ (b0 b1 b2 : Option ABlk) (N M : Nat) (A B : Int) (C : Nat) (x : Value) (po pi : Addr) (rb rb' : Option ABlk) (g : Nat → Option ABlk) (j : Nat → Value),
  runRi b0 b1 b2 N M k x rb g j [yes true, pAnsT po, vAns (opV 0 A B C), pAnsT pi, mAnsT undef (hpR b0 b1 b2 N M rb' k g ++ [obE 0 A B C])] = some (.normal, outRi b0 b1 b2 x N M k rb', lgE (hpR b0 b1 b2 N M rb k g) M k po (opV 0 A B C) ++ lgWRi (hpR b0 b1 b2 N M rb k g ++ [obE 0 A B C]) (hpR b0 b1 b2 N M rb' k g ++ [obE 0 A B C]) M k pi (C, C), [])
def RdVarRi (k : Nat) : Prop := ∀ (b0 b1 b2 : Option ABlk) (N M : Nat) (A B : Int) (C : Nat) (fa : (Nat × Nat)) (x : Value) (po pa pi : Addr) (rb rb' : Option ABlk) (g : Nat → Option ABlk) (j : Nat → Value),
  runRi b0 b1 b2 N M k x rb g j [yes true, pAnsT po, vAns (opV 1 A B C), pAnsT pa, vAns (vI fa), pAnsT pi, mAnsT undef (hpR b0 b1 b2 N M rb' k g ++ [obE 1 A B C])] = some (.normal, outRi b0 b1 b2 x N M k rb', lgE (hpR b0 b1 b2 N M rb k g) M k po (opV 1 A B C) ++ lgRI (hpR b0 b1 b2 N M rb k g ++ [obE 1 A B C]) x A pa fa ++ lgWRi (hpR b0 b1 b2 N M rb k g ++ [obE 1 A B C]) (hpR b0 b1 b2 N M rb' k g ++ [obE 1 A B C]) M k pi fa, [])
def RdEndRi (k : Nat) : Prop := ∀ (b0 b1 b2 : Option ABlk) (N M : Nat) (x : Value) (rb : Option ABlk) (g : Nat → Option ABlk) (j : Nat → Value),
  (rndT askRi lssC bodyRi (tmRi x M k j) (hpR b0 b1 b2 N M rb k g).toArray [yes false] []).map (fun r => (r.1, ((r.2.1.length, [getT r.2.1 1, getT r.2.1 2, getT r.2.1 4, getT r.2.1 5, getT r.2.1 6]), r.2.2.1), r.2.2.2)) =
  some (.exit 0, ((80, [x, .pointer (some ⟨3, 0, none⟩), .slice none 0 0, .slice (some ⟨4, 0, none⟩) M M, .int .i64 (Int.ofNat k)]), (hpR b0 b1 b2 N M rb k g).toArray), [.cmp .lss 3 (.int .i64 k) (.int .i64 M) false], [])
theorem rdConRi_0 : RdConRi 0 := fun _ _ _ _ _ _ _ _ _ _ _ _ _ _ _ => by kernel_rfl
theorem rdVarRi_0 : RdVarRi 0 := fun _ _ _ _ _ _ _ _ _ _ _ _ _ _ _ _ _ => by kernel_rfl
theorem rdConRi_1 : RdConRi 1 := fun _ _ _ _ _ _ _ _ _ _ _ _ _ _ _ => by kernel_rfl
theorem rdVarRi_1 : RdVarRi 1 := fun _ _ _ _ _ _ _ _ _ _ _ _ _ _ _ _ _ => by kernel_rfl
theorem rdBinRi_1_2 : RdBinRi 1 2 := fun _ _ _ _ _ _ _ _ _ _ _ _ _ _ _ _ _ _ _ _ => by kernel_rfl
theorem rdBinRi_1_3 : RdBinRi 1 3 := fun _ _ _ _ _ _ _ _ _ _ _ _ _ _ _ _ _ _ _ _ => by kernel_rfl
theorem rdBinRi_1_4 : RdBinRi 1 4 := fun _ _ _ _ _ _ _ _ _ _ _ _ _ _ _ _ _ _ _ _ => by kernel_rfl
theorem rdBinRi_1_5 : RdBinRi 1 5 := fun _ _ _ _ _ _ _ _ _ _ _ _ _ _ _ _ _ _ _ _ => by kernel_rfl
theorem rdConRi_2 : RdConRi 2 := fun _ _ _ _ _ _ _ _ _ _ _ _ _ _ _ => by kernel_rfl
theorem rdVarRi_2 : RdVarRi 2 := fun _ _ _ _ _ _ _ _ _ _ _ _ _ _ _ _ _ => by kernel_rfl
theorem rdBinRi_2_2 : RdBinRi 2 2 := fun _ _ _ _ _ _ _ _ _ _ _ _ _ _ _ _ _ _ _ _ => by kernel_rfl
theorem rdBinRi_2_3 : RdBinRi 2 3 := fun _ _ _ _ _ _ _ _ _ _ _ _ _ _ _ _ _ _ _ _ => by kernel_rfl
theorem rdBinRi_2_4 : RdBinRi 2 4 := fun _ _ _ _ _ _ _ _ _ _ _ _ _ _ _ _ _ _ _ _ => by kernel_rfl
theorem rdBinRi_2_5 : RdBinRi 2 5 := fun _ _ _ _ _ _ _ _ _ _ _ _ _ _ _ _ _ _ _ _ => by kernel_rfl
theorem rdEndRi_2 : RdEndRi 2 := fun _ _ _ _ _ _ _ _ _ => by kernel_rfl
theorem rdConRi_3 : RdConRi 3 := fun _ _ _ _ _ _ _ _ _ _ _ _ _ _ _ => by kernel_rfl
theorem rdVarRi_3 : RdVarRi 3 := fun _ _ _ _ _ _ _ _ _ _ _ _ _ _ _ _ _ => by kernel_rfl
theorem rdBinRi_3_2 : RdBinRi 3 2 := fun _ _ _ _ _ _ _ _ _ _ _ _ _ _ _ _ _ _ _ _ => by kernel_rfl
theorem rdBinRi_3_3 : RdBinRi 3 3 := fun _ _ _ _ _ _ _ _ _ _ _ _ _ _ _ _ _ _ _ _ => by kernel_rfl
theorem rdBinRi_3_4 : RdBinRi 3 4 := fun _ _ _ _ _ _ _ _ _ _ _ _ _ _ _ _ _ _ _ _ => by kernel_rfl
theorem rdBinRi_3_5 : RdBinRi 3 5 := fun _ _ _ _ _ _ _ _ _ _ _ _ _ _ _ _ _ _ _ _ => by kernel_rfl
theorem rdEndRi_3 : RdEndRi 3 := fun _ _ _ _ _ _ _ _ _ => by kernel_rfl
theorem rdConRi_4 : RdConRi 4 := fun _ _ _ _ _ _ _ _ _ _ _ _ _ _ _ => by kernel_rfl
theorem rdVarRi_4 : RdVarRi 4 := fun _ _ _ _ _ _ _ _ _ _ _ _ _ _ _ _ _ => by kernel_rfl
theorem rdBinRi_4_2 : RdBinRi 4 2 := fun _ _ _ _ _ _ _ _ _ _ _ _ _ _ _ _ _ _ _ _ => by kernel_rfl
theorem rdBinRi_4_3 : RdBinRi 4 3 := fun _ _ _ _ _ _ _ _ _ _ _ _ _ _ _ _ _ _ _ _ => by kernel_rfl
theorem rdBinRi_4_4 : RdBinRi 4 4 := fun _ _ _ _ _ _ _ _ _ _ _ _ _ _ _ _ _ _ _ _ => by kernel_rfl
theorem rdBinRi_4_5 : RdBinRi 4 5 := fun _ _ _ _ _ _ _ _ _ _ _ _ _ _ _ _ _ _ _ _ => by kernel_rfl
theorem rdEndRi_4 : RdEndRi 4 := fun _ _ _ _ _ _ _ _ _ => by kernel_rfl
theorem rdConRi_5 : RdConRi 5 := fun _ _ _ _ _ _ _ _ _ _ _ _ _ _ _ => by kernel_rfl
theorem rdVarRi_5 : RdVarRi 5 := fun _ _ _ _ _ _ _ _ _ _ _ _ _ _ _ _ _ => by kernel_rfl
theorem rdBinRi_5_2 : RdBinRi 5 2 := fun _ _ _ _ _ _ _ _ _ _ _ _ _ _ _ _ _ _ _ _ => by kernel_rfl
theorem rdBinRi_5_3 : RdBinRi 5 3 := fun _ _ _ _ _ _ _ _ _ _ _ _ _ _ _ _ _ _ _ _ => by kernel_rfl
theorem rdBinRi_5_4 : RdBinRi 5 4 := fun _ _ _ _ _ _ _ _ _ _ _ _ _ _ _ _ _ _ _ _ => by kernel_rfl
theorem rdBinRi_5_5 : RdBinRi 5 5 := fun _ _ _ _ _ _ _ _ _ _ _ _ _ _ _ _ _ _ _ _ => by kernel_rfl
theorem rdEndRi_5 : RdEndRi 5 := fun _ _ _ _ _ _ _ _ _ => by kernel_rfl
theorem rdConRi_6 : RdConRi 6 := fun _ _ _ _ _ _ _ _ _ _ _ _ _ _ _ => by kernel_rfl
theorem rdVarRi_6 : RdVarRi 6 := fun _ _ _ _ _ _ _ _ _ _ _ _ _ _ _ _ _ => by kernel_rfl
theorem rdBinRi_6_2 : RdBinRi 6 2 := fun _ _ _ _ _ _ _ _ _ _ _ _ _ _ _ _ _ _ _ _ => by kernel_rfl
theorem rdBinRi_6_3 : RdBinRi 6 3 := fun _ _ _ _ _ _ _ _ _ _ _ _ _ _ _ _ _ _ _ _ => by kernel_rfl
theorem rdBinRi_6_4 : RdBinRi 6 4 := fun _ _ _ _ _ _ _ _ _ _ _ _ _ _ _ _ _ _ _ _ => by kernel_rfl
theorem rdBinRi_6_5 : RdBinRi 6 5 := fun _ _ _ _ _ _ _ _ _ _ _ _ _ _ _ _ _ _ _ _ => by kernel_rfl
theorem rdEndRi_6 : RdEndRi 6 := fun _ _ _ _ _ _ _ _ _ => by kernel_rfl
theorem rdConRi_7 : RdConRi 7 := fun _ _ _ _ _ _ _ _ _ _ _ _ _ _ _ => by kernel_rfl
theorem rdVarRi_7 : RdVarRi 7 := fun _ _ _ _ _ _ _ _ _ _ _ _ _ _ _ _ _ => by kernel_rfl
theorem rdBinRi_7_2 : RdBinRi 7 2 := fun _ _ _ _ _ _ _ _ _ _ _ _ _ _ _ _ _ _ _ _ => by kernel_rfl
theorem rdBinRi_7_3 : RdBinRi 7 3 := fun _ _ _ _ _ _ _ _ _ _ _ _ _ _ _ _ _ _ _ _ => by kernel_rfl
theorem rdBinRi_7_4 : RdBinRi 7 4 := fun _ _ _ _ _ _ _ _ _ _ _ _ _ _ _ _ _ _ _ _ => by kernel_rfl
theorem rdBinRi_7_5 : RdBinRi 7 5 := fun _ _ _ _ _ _ _ _ _ _ _ _ _ _ _ _ _ _ _ _ => by kernel_rfl
theorem rdEndRi_7 : RdEndRi 7 := fun _ _ _ _ _ _ _ _ _ => by kernel_rfl
theorem rdConRi_8 : RdConRi 8 := fun _ _ _ _ _ _ _ _ _ _ _ _ _ _ _ => by kernel_rfl
theorem rdVarRi_8 : RdVarRi 8 := fun _ _ _ _ _ _ _ _ _ _ _ _ _ _ _ _ _ => by kernel_rfl
theorem rdBinRi_8_2 : RdBinRi 8 2 := fun _ _ _ _ _ _ _ _ _ _ _ _ _ _ _ _ _ _ _ _ => by kernel_rfl
theorem rdBinRi_8_3 : RdBinRi 8 3 := fun _ _ _ _ _ _ _ _ _ _ _ _ _ _ _ _ _ _ _ _ => by kernel_rfl
theorem rdBinRi_8_4 : RdBinRi 8 4 := fun _ _ _ _ _ _ _ _ _ _ _ _ _ _ _ _ _ _ _ _ => by kernel_rfl
theorem rdBinRi_8_5 : RdBinRi 8 5 := fun _ _ _ _ _ _ _ _ _ _ _ _ _ _ _ _ _ _ _ _ => by kernel_rfl
theorem rdEndRi_8 : RdEndRi 8 := fun _ _ _ _ _ _ _ _ _ => by kernel_rfl
theorem rdConRi_9 : RdConRi 9 := fun _ _ _ _ _ _ _ _ _ _ _ _ _ _ _ => by kernel_rfl
theorem rdVarRi_9 : RdVarRi 9 := fun _ _ _ _ _ _ _ _ _ _ _ _ _ _ _ _ _ => by kernel_rfl
theorem rdBinRi_9_2 : RdBinRi 9 2 := fun _ _ _ _ _ _ _ _ _ _ _ _ _ _ _ _ _ _ _ _ => by kernel_rfl
theorem rdBinRi_9_3 : RdBinRi 9 3 := fun _ _ _ _ _ _ _ _ _ _ _ _ _ _ _ _ _ _ _ _ => by kernel_rfl
theorem rdBinRi_9_4 : RdBinRi 9 4 := fun _ _ _ _ _ _ _ _ _ _ _ _ _ _ _ _ _ _ _ _ => by kernel_rfl
theorem rdBinRi_9_5 : RdBinRi 9 5 := fun _ _ _ _ _ _ _ _ _ _ _ _ _ _ _ _ _ _ _ _ => by kernel_rfl
theorem rdEndRi_9 : RdEndRi 9 := fun _ _ _ _ _ _ _ _ _ => by kernel_rfl
theorem rdConRi_10 : RdConRi 10 := fun _ _ _ _ _ _ _ _ _ _ _ _ _ _ _ => by kernel_rfl
theorem rdVarRi_10 : RdVarRi 10 := fun _ _ _ _ _ _ _ _ _ _ _ _ _ _ _ _ _ => by kernel_rfl
theorem rdBinRi_10_2 : RdBinRi 10 2 := fun _ _ _ _ _ _ _ _ _ _ _ _ _ _ _ _ _ _ _ _ => by kernel_rfl
theorem rdBinRi_10_3 : RdBinRi 10 3 := fun _ _ _ _ _ _ _ _ _ _ _ _ _ _ _ _ _ _ _ _ => by kernel_rfl
theorem rdBinRi_10_4 : RdBinRi 10 4 := fun _ _ _ _ _ _ _ _ _ _ _ _ _ _ _ _ _ _ _ _ => by kernel_rfl
theorem rdBinRi_10_5 : RdBinRi 10 5 := fun _ _ _ _ _ _ _ _ _ _ _ _ _ _ _ _ _ _ _ _ => by kernel_rfl
theorem rdEndRi_10 : RdEndRi 10 := fun _ _ _ _ _ _ _ _ _ => by kernel_rfl
theorem rdConRi_11 : RdConRi 11 := fun _ _ _ _ _ _ _ _ _ _ _ _ _ _ _ => by kernel_rfl
theorem rdVarRi_11 : RdVarRi 11 := fun _ _ _ _ _ _ _ _ _ _ _ _ _ _ _ _ _ => by kernel_rfl
theorem rdBinRi_11_2 : RdBinRi 11 2 := fun _ _ _ _ _ _ _ _ _ _ _ _ _ _ _ _ _ _ _ _ => by kernel_rfl
theorem rdBinRi_11_3 : RdBinRi 11 3 := fun _ _ _ _ _ _ _ _ _ _ _ _ _ _ _ _ _ _ _ _ => by kernel_rfl
theorem rdBinRi_11_4 : RdBinRi 11 4 := fun _ _ _ _ _ _ _ _ _ _ _ _ _ _ _ _ _ _ _ _ => by kernel_rfl
theorem rdBinRi_11_5 : RdBinRi 11 5 := fun _ _ _ _ _ _ _ _ _ _ _ _ _ _ _ _ _ _ _ _ => by kernel_rfl
theorem rdEndRi_11 : RdEndRi 11 := fun _ _ _ _ _ _ _ _ _ => by kernel_rfl
theorem rdConRi_12 : RdConRi 12 := fun _ _ _ _ _ _ _ _ _ _ _ _ _ _ _ => by kernel_rfl
theorem rdVarRi_12 : RdVarRi 12 := fun _ _ _ _ _ _ _ _ _ _ _ _ _ _ _ _ _ => by kernel_rfl
theorem rdBinRi_12_2 : RdBinRi 12 2 := fun _ _ _ _ _ _ _ _ _ _ _ _ _ _ _ _ _ _ _ _ => by kernel_rfl
theorem rdBinRi_12_3 : RdBinRi 12 3 := fun _ _ _ _ _ _ _ _ _ _ _ _ _ _ _ _ _ _ _ _ => by kernel_rfl
theorem rdBinRi_12_4 : RdBinRi 12 4 := fun _ _ _ _ _ _ _ _ _ _ _ _ _ _ _ _ _ _ _ _ => by kernel_rfl
theorem rdBinRi_12_5 : RdBinRi 12 5 := fun _ _ _ _ _ _ _ _ _ _ _ _ _ _ _ _ _ _ _ _ => by kernel_rfl
theorem rdEndRi_12 : RdEndRi 12 := fun _ _ _ _ _ _ _ _ _ => by kernel_rfl
theorem rdConRi_13 : RdConRi 13 := fun _ _ _ _ _ _ _ _ _ _ _ _ _ _ _ => by kernel_rfl
theorem rdVarRi_13 : RdVarRi 13 := fun _ _ _ _ _ _ _ _ _ _ _ _ _ _ _ _ _ => by kernel_rfl
theorem rdBinRi_13_2 : RdBinRi 13 2 := fun _ _ _ _ _ _ _ _ _ _ _ _ _ _ _ _ _ _ _ _ => by kernel_rfl
theorem rdBinRi_13_3 : RdBinRi 13 3 := fun _ _ _ _ _ _ _ _ _ _ _ _ _ _ _ _ _ _ _ _ => by kernel_rfl
theorem rdBinRi_13_4 : RdBinRi 13 4 := fun _ _ _ _ _ _ _ _ _ _ _ _ _ _ _ _ _ _ _ _ => by kernel_rfl
theorem rdBinRi_13_5 : RdBinRi 13 5 := fun _ _ _ _ _ _ _ _ _ _ _ _ _ _ _ _ _ _ _ _ => by kernel_rfl
theorem rdEndRi_13 : RdEndRi 13 := fun _ _ _ _ _ _ _ _ _ => by kernel_rfl
theorem rdConRi_14 : RdConRi 14 := fun _ _ _ _ _ _ _ _ _ _ _ _ _ _ _ => by kernel_rfl
theorem rdVarRi_14 : RdVarRi 14 := fun _ _ _ _ _ _ _ _ _ _ _ _ _ _ _ _ _ => by kernel_rfl
theorem rdBinRi_14_2 : RdBinRi 14 2 := fun _ _ _ _ _ _ _ _ _ _ _ _ _ _ _ _ _ _ _ _ => by kernel_rfl
theorem rdBinRi_14_3 : RdBinRi 14 3 := fun _ _ _ _ _ _ _ _ _ _ _ _ _ _ _ _ _ _ _ _ => by kernel_rfl
theorem rdBinRi_14_4 : RdBinRi 14 4 := fun _ _ _ _ _ _ _ _ _ _ _ _ _ _ _ _ _ _ _ _ => by kernel_rfl
theorem rdBinRi_14_5 : RdBinRi 14 5 := fun _ _ _ _ _ _ _ _ _ _ _ _ _ _ _ _ _ _ _ _ => by kernel_rfl
theorem rdEndRi_14 : RdEndRi 14 := fun _ _ _ _ _ _ _ _ _ => by kernel_rfl
theorem rdConRi_15 : RdConRi 15 := fun _ _ _ _ _ _ _ _ _ _ _ _ _ _ _ => by kernel_rfl
theorem rdVarRi_15 : RdVarRi 15 := fun _ _ _ _ _ _ _ _ _ _ _ _ _ _ _ _ _ => by kernel_rfl
theorem rdBinRi_15_2 : RdBinRi 15 2 := fun _ _ _ _ _ _ _ _ _ _ _ _ _ _ _ _ _ _ _ _ => by kernel_rfl
theorem rdBinRi_15_3 : RdBinRi 15 3 := fun _ _ _ _ _ _ _ _ _ _ _ _ _ _ _ _ _ _ _ _ => by kernel_rfl
theorem rdBinRi_15_4 : RdBinRi 15 4 := fun _ _ _ _ _ _ _ _ _ _ _ _ _ _ _ _ _ _ _ _ => by kernel_rfl
theorem rdBinRi_15_5 : RdBinRi 15 5 := fun _ _ _ _ _ _ _ _ _ _ _ _ _ _ _ _ _ _ _ _ => by kernel_rfl
theorem rdEndRi_15 : RdEndRi 15 := fun _ _ _ _ _ _ _ _ _ => by kernel_rfl
theorem rdConRi_16 : RdConRi 16 := fun _ _ _ _ _ _ _ _ _ _ _ _ _ _ _ => by kernel_rfl
theorem rdVarRi_16 : RdVarRi 16 := fun _ _ _ _ _ _ _ _ _ _ _ _ _ _ _ _ _ => by kernel_rfl
theorem rdBinRi_16_2 : RdBinRi 16 2 := fun _ _ _ _ _ _ _ _ _ _ _ _ _ _ _ _ _ _ _ _ => by kernel_rfl
theorem rdBinRi_16_3 : RdBinRi 16 3 := fun _ _ _ _ _ _ _ _ _ _ _ _ _ _ _ _ _ _ _ _ => by kernel_rfl
theorem rdBinRi_16_4 : RdBinRi 16 4 := fun _ _ _ _ _ _ _ _ _ _ _ _ _ _ _ _ _ _ _ _ => by kernel_rfl
theorem rdBinRi_16_5 : RdBinRi 16 5 := fun _ _ _ _ _ _ _ _ _ _ _ _ _ _ _ _ _ _ _ _ => by kernel_rfl
theorem rdEndRi_16 : RdEndRi 16 := fun _ _ _ _ _ _ _ _ _ => by kernel_rfl
theorem rdConRi_17 : RdConRi 17 := fun _ _ _ _ _ _ _ _ _ _ _ _ _ _ _ => by kernel_rfl
theorem rdVarRi_17 : RdVarRi 17 := fun _ _ _ _ _ _ _ _ _ _ _ _ _ _ _ _ _ => by kernel_rfl
theorem rdBinRi_17_2 : RdBinRi 17 2 := fun _ _ _ _ _ _ _ _ _ _ _ _ _ _ _ _ _ _ _ _ => by kernel_rfl
theorem rdBinRi_17_3 : RdBinRi 17 3 := fun _ _ _ _ _ _ _ _ _ _ _ _ _ _ _ _ _ _ _ _ => by kernel_rfl
theorem rdBinRi_17_4 : RdBinRi 17 4 := fun _ _ _ _ _ _ _ _ _ _ _ _ _ _ _ _ _ _ _ _ => by kernel_rfl
theorem rdBinRi_17_5 : RdBinRi 17 5 := fun _ _ _ _ _ _ _ _ _ _ _ _ _ _ _ _ _ _ _ _ => by kernel_rfl
theorem rdEndRi_17 : RdEndRi 17 := fun _ _ _ _ _ _ _ _ _ => by kernel_rfl
theorem rdConRi_18 : RdConRi 18 := fun _ _ _ _ _ _ _ _ _ _ _ _ _ _ _ => by kernel_rfl
theorem rdVarRi_18 : RdVarRi 18 := fun _ _ _ _ _ _ _ _ _ _ _ _ _ _ _ _ _ => by kernel_rfl
theorem rdBinRi_18_2 : RdBinRi 18 2 := fun _ _ _ _ _ _ _ _ _ _ _ _ _ _ _ _ _ _ _ _ => by kernel_rfl
theorem rdBinRi_18_3 : RdBinRi 18 3 := fun _ _ _ _ _ _ _ _ _ _ _ _ _ _ _ _ _ _ _ _ => by kernel_rfl
theorem rdBinRi_18_4 : RdBinRi 18 4 := fun _ _ _ _ _ _ _ _ _ _ _ _ _ _ _ _ _ _ _ _ => by kernel_rfl
theorem rdBinRi_18_5 : RdBinRi 18 5 := fun _ _ _ _ _ _ _ _ _ _ _ _ _ _ _ _ _ _ _ _ => by kernel_rfl
theorem rdEndRi_18 : RdEndRi 18 := fun _ _ _ _ _ _ _ _ _ => by kernel_rfl
theorem rdConRi_19 : RdConRi 19 := fun _ _ _ _ _ _ _ _ _ _ _ _ _ _ _ => by kernel_rfl
theorem rdVarRi_19 : RdVarRi 19 := fun _ _ _ _ _ _ _ _ _ _ _ _ _ _ _ _ _ => by kernel_rfl
theorem rdBinRi_19_2 : RdBinRi 19 2 := fun _ _ _ _ _ _ _ _ _ _ _ _ _ _ _ _ _ _ _ _ => by kernel_rfl
theorem rdBinRi_19_3 : RdBinRi 19 3 := fun _ _ _ _ _ _ _ _ _ _ _ _ _ _ _ _ _ _ _ _ => by kernel_rfl
theorem rdBinRi_19_4 : RdBinRi 19 4 := fun _ _ _ _ _ _ _ _ _ _ _ _ _ _ _ _ _ _ _ _ => by kernel_rfl
theorem rdBinRi_19_5 : RdBinRi 19 5 := fun _ _ _ _ _ _ _ _ _ _ _ _ _ _ _ _ _ _ _ _ => by kernel_rfl
theorem rdEndRi_19 : RdEndRi 19 := fun _ _ _ _ _ _ _ _ _ => by kernel_rfl
theorem rdConRi_20 : RdConRi 20 := fun _ _ _ _ _ _ _ _ _ _ _ _ _ _ _ => by kernel_rfl
theorem rdVarRi_20 : RdVarRi 20 := fun _ _ _ _ _ _ _ _ _ _ _ _ _ _ _ _ _ => by kernel_rfl
theorem rdBinRi_20_2 : RdBinRi 20 2 := fun _ _ _ _ _ _ _ _ _ _ _ _ _ _ _ _ _ _ _ _ => by kernel_rfl
theorem rdBinRi_20_3 : RdBinRi 20 3 := fun _ _ _ _ _ _ _ _ _ _ _ _ _ _ _ _ _ _ _ _ => by kernel_rfl
theorem rdBinRi_20_4 : RdBinRi 20 4 := fun _ _ _ _ _ _ _ _ _ _ _ _ _ _ _ _ _ _ _ _ => by kernel_rfl
theorem rdBinRi_20_5 : RdBinRi 20 5 := fun _ _ _ _ _ _ _ _ _ _ _ _ _ _ _ _ _ _ _ _ => by kernel_rfl
theorem rdEndRi_20 : RdEndRi 20 := fun _ _ _ _ _ _ _ _ _ => by kernel_rfl
noncomputable def lgORi (H : List (Option ABlk)) (M N : Nat) (u : Nat → Int) (p : Nat → Addr) (f : Nat → (Nat × Nat)) : List Obl :=
  ((List.range N).flatMap fun i => [.cmp .lss 3 (.int .i64 (Int.ofNat i)) (.int .i64 (Int.ofNat N)) true, .ex (readVar Try.prog (H ++ grRi i f).toArray 3 ⟨1, i, none⟩ = some (.int .i64 (u i))),
    .ex (indexAddrV Try.prog 26 (.slice (some ⟨4, 0, none⟩) M M) (.int .i64 (u i)) = some (.pointer (some (p i)))), .ex (readVar Try.prog (H ++ grRi i f).toArray 29 (p i) = some (vI (f i)))]) ++ [.cmp .lss 3 (.int .i64 (Int.ofNat N)) (.int .i64 (Int.ofNat N)) false]
def j0Ri (N M : Nat) (i : Nat) : Value := if i = 0 then tpV 0 1 N M else if i = 10 then .pointer (some ⟨3, 1, none⟩) else if i = 11 then .slice (some ⟨0, 0, none⟩) M M else if i = 12 then .int .i64 M else if i = 13 then .slice (some ⟨4, 0, none⟩) M M else undef
def FinRi (N M : Nat) : Prop := ∀ (b0 b1 b2 : Option ABlk) (x : Value) (rb0 rb : Option ABlk) (g : Nat → Option ABlk) (j : Nat → Value) (u : Nat → Int) (p : Nat → Addr) (f : Nat → (Nat × Nat)),
  askT askRi lssC 28 #[tpV 0 1 N M, x] #[b0, b1, b2] (mAnsT (.slice (some ⟨4, 0, none⟩) M M) [b0, b1, b2, tbE N M, rb0] :: (((List.range N).flatMap fun i => [yes true, vAns (.int .i64 (u i)), pAnsT (p i), vAns (vI (f i))]) ++ [yes false]))
    [some ⟨.exit 0, tmRi x M M j, (hpR b0 b1 b2 N M rb M g).toArray⟩, none] =
  some (.slice (some ⟨5 + M + (2 * N - 1), 0, none⟩) N N, (hpR b0 b1 b2 N M rb M g ++ grRi N f).toArray,
    .ex (makeSliceV Try.prog #[b0, b1, b2, tbE N M] 26 (.int .i64 M) (.int .i64 M) = some (.slice (some ⟨4, 0, none⟩) M M, #[b0, b1, b2, tbE N M, rb0])) :: lgORi (hpR b0 b1 b2 N M rb M g) M N u p f,
    [(bodyRi, tmRi x M 0 (j0Ri N M), (hpR b0 b1 b2 N M rb0 0 g).toArray, (.exit 0, tmRi x M M j, (hpR b0 b1 b2 N M rb M g).toArray))])
theorem finRi_1_2 : FinRi 1 2 := fun _ _ _ _ _ _ _ _ _ _ _ => by kernel_rfl
theorem finRi_1_3 : FinRi 1 3 := fun _ _ _ _ _ _ _ _ _ _ _ => by kernel_rfl
theorem finRi_1_4 : FinRi 1 4 := fun _ _ _ _ _ _ _ _ _ _ _ => by kernel_rfl
theorem finRi_1_5 : FinRi 1 5 := fun _ _ _ _ _ _ _ _ _ _ _ => by kernel_rfl
theorem finRi_1_6 : FinRi 1 6 := fun _ _ _ _ _ _ _ _ _ _ _ => by kernel_rfl
theorem finRi_1_7 : FinRi 1 7 := fun _ _ _ _ _ _ _ _ _ _ _ => by kernel_rfl
theorem finRi_1_8 : FinRi 1 8 := fun _ _ _ _ _ _ _ _ _ _ _ => by kernel_rfl
theorem finRi_1_9 : FinRi 1 9 := fun _ _ _ _ _ _ _ _ _ _ _ => by kernel_rfl
theorem finRi_1_10 : FinRi 1 10 := fun _ _ _ _ _ _ _ _ _ _ _ => by kernel_rfl
theorem finRi_1_11 : FinRi 1 11 := fun _ _ _ _ _ _ _ _ _ _ _ => by kernel_rfl
theorem finRi_1_12 : FinRi 1 12 := fun _ _ _ _ _ _ _ _ _ _ _ => by kernel_rfl
theorem finRi_1_13 : FinRi 1 13 := fun _ _ _ _ _ _ _ _ _ _ _ => by kernel_rfl
theorem finRi_1_14 : FinRi 1 14 := fun _ _ _ _ _ _ _ _ _ _ _ => by kernel_rfl
theorem finRi_1_15 : FinRi 1 15 := fun _ _ _ _ _ _ _ _ _ _ _ => by kernel_rfl
theorem finRi_1_16 : FinRi 1 16 := fun _ _ _ _ _ _ _ _ _ _ _ => by kernel_rfl
theorem finRi_1_17 : FinRi 1 17 := fun _ _ _ _ _ _ _ _ _ _ _ => by kernel_rfl
theorem finRi_1_18 : FinRi 1 18 := fun _ _ _ _ _ _ _ _ _ _ _ => by kernel_rfl
theorem finRi_1_19 : FinRi 1 19 := fun _ _ _ _ _ _ _ _ _ _ _ => by kernel_rfl
theorem finRi_1_20 : FinRi 1 20 := fun _ _ _ _ _ _ _ _ _ _ _ => by kernel_rfl
theorem finRi_2_2 : FinRi 2 2 := fun _ _ _ _ _ _ _ _ _ _ _ => by kernel_rfl
theorem finRi_2_3 : FinRi 2 3 := fun _ _ _ _ _ _ _ _ _ _ _ => by kernel_rfl
theorem finRi_2_4 : FinRi 2 4 := fun _ _ _ _ _ _ _ _ _ _ _ => by kernel_rfl
theorem finRi_2_5 : FinRi 2 5 := fun _ _ _ _ _ _ _ _ _ _ _ => by kernel_rfl
theorem finRi_2_6 : FinRi 2 6 := fun _ _ _ _ _ _ _ _ _ _ _ => by kernel_rfl
theorem finRi_2_7 : FinRi 2 7 := fun _ _ _ _ _ _ _ _ _ _ _ => by kernel_rfl
theorem finRi_2_8 : FinRi 2 8 := fun _ _ _ _ _ _ _ _ _ _ _ => by kernel_rfl
theorem finRi_2_9 : FinRi 2 9 := fun _ _ _ _ _ _ _ _ _ _ _ => by kernel_rfl
theorem finRi_2_10 : FinRi 2 10 := fun _ _ _ _ _ _ _ _ _ _ _ => by kernel_rfl
theorem finRi_2_11 : FinRi 2 11 := fun _ _ _ _ _ _ _ _ _ _ _ => by kernel_rfl
theorem finRi_2_12 : FinRi 2 12 := fun _ _ _ _ _ _ _ _ _ _ _ => by kernel_rfl
theorem finRi_2_13 : FinRi 2 13 := fun _ _ _ _ _ _ _ _ _ _ _ => by kernel_rfl
theorem finRi_2_14 : FinRi 2 14 := fun _ _ _ _ _ _ _ _ _ _ _ => by kernel_rfl
theorem finRi_2_15 : FinRi 2 15 := fun _ _ _ _ _ _ _ _ _ _ _ => by kernel_rfl
theorem finRi_2_16 : FinRi 2 16 := fun _ _ _ _ _ _ _ _ _ _ _ => by kernel_rfl
theorem finRi_2_17 : FinRi 2 17 := fun _ _ _ _ _ _ _ _ _ _ _ => by kernel_rfl
theorem finRi_2_18 : FinRi 2 18 := fun _ _ _ _ _ _ _ _ _ _ _ => by kernel_rfl
theorem finRi_2_19 : FinRi 2 19 := fun _ _ _ _ _ _ _ _ _ _ _ => by kernel_rfl
theorem finRi_2_20 : FinRi 2 20 := fun _ _ _ _ _ _ _ _ _ _ _ => by kernel_rfl
theorem finRi_3_2 : FinRi 3 2 := fun _ _ _ _ _ _ _ _ _ _ _ => by kernel_rfl
theorem finRi_3_3 : FinRi 3 3 := fun _ _ _ _ _ _ _ _ _ _ _ => by kernel_rfl
theorem finRi_3_4 : FinRi 3 4 := fun _ _ _ _ _ _ _ _ _ _ _ => by kernel_rfl
theorem finRi_3_5 : FinRi 3 5 := fun _ _ _ _ _ _ _ _ _ _ _ => by kernel_rfl
theorem finRi_3_6 : FinRi 3 6 := fun _ _ _ _ _ _ _ _ _ _ _ => by kernel_rfl
theorem finRi_3_7 : FinRi 3 7 := fun _ _ _ _ _ _ _ _ _ _ _ => by kernel_rfl
theorem finRi_3_8 : FinRi 3 8 := fun _ _ _ _ _ _ _ _ _ _ _ => by kernel_rfl
theorem finRi_3_9 : FinRi 3 9 := fun _ _ _ _ _ _ _ _ _ _ _ => by kernel_rfl
theorem finRi_3_10 : FinRi 3 10 := fun _ _ _ _ _ _ _ _ _ _ _ => by kernel_rfl
theorem finRi_3_11 : FinRi 3 11 := fun _ _ _ _ _ _ _ _ _ _ _ => by kernel_rfl
theorem finRi_3_12 : FinRi 3 12 := fun _ _ _ _ _ _ _ _ _ _ _ => by kernel_rfl
theorem finRi_3_13 : FinRi 3 13 := fun _ _ _ _ _ _ _ _ _ _ _ => by kernel_rfl
theorem finRi_3_14 : FinRi 3 14 := fun _ _ _ _ _ _ _ _ _ _ _ => by kernel_rfl
theorem finRi_3_15 : FinRi 3 15 := fun _ _ _ _ _ _ _ _ _ _ _ => by kernel_rfl
theorem finRi_3_16 : FinRi 3 16 := fun _ _ _ _ _ _ _ _ _ _ _ => by kernel_rfl
theorem finRi_3_17 : FinRi 3 17 := fun _ _ _ _ _ _ _ _ _ _ _ => by kernel_rfl
theorem finRi_3_18 : FinRi 3 18 := fun _ _ _ _ _ _ _ _ _ _ _ => by kernel_rfl
theorem finRi_3_19 : FinRi 3 19 := fun _ _ _ _ _ _ _ _ _ _ _ => by kernel_rfl
theorem finRi_3_20 : FinRi 3 20 := fun _ _ _ _ _ _ _ _ _ _ _ => by kernel_rfl
theorem rdConRi : ∀ k, k < 21 → RdConRi k
  | 0, _ => rdConRi_0
  | 1, _ => rdConRi_1
  | 2, _ => rdConRi_2
  | 3, _ => rdConRi_3
  | 4, _ => rdConRi_4
  | 5, _ => rdConRi_5
  | 6, _ => rdConRi_6
  | 7, _ => rdConRi_7
  | 8, _ => rdConRi_8
  | 9, _ => rdConRi_9
  | 10, _ => rdConRi_10
  | 11, _ => rdConRi_11
  | 12, _ => rdConRi_12
  | 13, _ => rdConRi_13
  | 14, _ => rdConRi_14
  | 15, _ => rdConRi_15
  | 16, _ => rdConRi_16
  | 17, _ => rdConRi_17
  | 18, _ => rdConRi_18
  | 19, _ => rdConRi_19
  | 20, _ => rdConRi_20
  | n + 21, h => absurd h (by omega)
theorem rdVarRi : ∀ k, k < 21 → RdVarRi k
  | 0, _ => rdVarRi_0
  | 1, _ => rdVarRi_1
  | 2, _ => rdVarRi_2
  | 3, _ => rdVarRi_3
  | 4, _ => rdVarRi_4
  | 5, _ => rdVarRi_5
  | 6, _ => rdVarRi_6
  | 7, _ => rdVarRi_7
  | 8, _ => rdVarRi_8
  | 9, _ => rdVarRi_9
  | 10, _ => rdVarRi_10
  | 11, _ => rdVarRi_11
  | 12, _ => rdVarRi_12
  | 13, _ => rdVarRi_13
  | 14, _ => rdVarRi_14
  | 15, _ => rdVarRi_15
  | 16, _ => rdVarRi_16
  | 17, _ => rdVarRi_17
  | 18, _ => rdVarRi_18
  | 19, _ => rdVarRi_19
  | 20, _ => rdVarRi_20
  | n + 21, h => absurd h (by omega)
theorem rdEndRi : ∀ k, 2 ≤ k → k < 21 → RdEndRi k
  | 0, h, _ => absurd h (by omega)
  | 1, h, _ => absurd h (by omega)
  | 2, _, _ => rdEndRi_2
  | 3, _, _ => rdEndRi_3
  | 4, _, _ => rdEndRi_4
  | 5, _, _ => rdEndRi_5
  | 6, _, _ => rdEndRi_6
  | 7, _, _ => rdEndRi_7
  | 8, _, _ => rdEndRi_8
  | 9, _, _ => rdEndRi_9
  | 10, _, _ => rdEndRi_10
  | 11, _, _ => rdEndRi_11
  | 12, _, _ => rdEndRi_12
  | 13, _, _ => rdEndRi_13
  | 14, _, _ => rdEndRi_14
  | 15, _, _ => rdEndRi_15
  | 16, _, _ => rdEndRi_16
  | 17, _, _ => rdEndRi_17
  | 18, _, _ => rdEndRi_18
  | 19, _, _ => rdEndRi_19
  | 20, _, _ => rdEndRi_20
  | n + 21, _, h => absurd h (by omega)
theorem rdBinRiA_2 : ∀ k, 1 ≤ k → k < 21 → RdBinRi k 2
  | 0, h, _ => absurd h (by omega)
  | 1, _, _ => rdBinRi_1_2
  | 2, _, _ => rdBinRi_2_2
  | 3, _, _ => rdBinRi_3_2
  | 4, _, _ => rdBinRi_4_2
  | 5, _, _ => rdBinRi_5_2
  | 6, _, _ => rdBinRi_6_2
  | 7, _, _ => rdBinRi_7_2
  | 8, _, _ => rdBinRi_8_2
  | 9, _, _ => rdBinRi_9_2
  | 10, _, _ => rdBinRi_10_2
  | 11, _, _ => rdBinRi_11_2
  | 12, _, _ => rdBinRi_12_2
  | 13, _, _ => rdBinRi_13_2
  | 14, _, _ => rdBinRi_14_2
  | 15, _, _ => rdBinRi_15_2
  | 16, _, _ => rdBinRi_16_2
  | 17, _, _ => rdBinRi_17_2
  | 18, _, _ => rdBinRi_18_2
  | 19, _, _ => rdBinRi_19_2
  | 20, _, _ => rdBinRi_20_2
  | n + 21, _, h => absurd h (by omega)
theorem rdBinRiA_3 : ∀ k, 1 ≤ k → k < 21 → RdBinRi k 3
  | 0, h, _ => absurd h (by omega)
  | 1, _, _ => rdBinRi_1_3
  | 2, _, _ => rdBinRi_2_3
  | 3, _, _ => rdBinRi_3_3
  | 4, _, _ => rdBinRi_4_3
  | 5, _, _ => rdBinRi_5_3
  | 6, _, _ => rdBinRi_6_3
  | 7, _, _ => rdBinRi_7_3
  | 8, _, _ => rdBinRi_8_3
  | 9, _, _ => rdBinRi_9_3
  | 10, _, _ => rdBinRi_10_3
  | 11, _, _ => rdBinRi_11_3
  | 12, _, _ => rdBinRi_12_3
  | 13, _, _ => rdBinRi_13_3
  | 14, _, _ => rdBinRi_14_3
  | 15, _, _ => rdBinRi_15_3
  | 16, _, _ => rdBinRi_16_3
  | 17, _, _ => rdBinRi_17_3
  | 18, _, _ => rdBinRi_18_3
  | 19, _, _ => rdBinRi_19_3
  | 20, _, _ => rdBinRi_20_3
  | n + 21, _, h => absurd h (by omega)
theorem rdBinRiA_4 : ∀ k, 1 ≤ k → k < 21 → RdBinRi k 4
  | 0, h, _ => absurd h (by omega)
  | 1, _, _ => rdBinRi_1_4
  | 2, _, _ => rdBinRi_2_4
  | 3, _, _ => rdBinRi_3_4
  | 4, _, _ => rdBinRi_4_4
  | 5, _, _ => rdBinRi_5_4
  | 6, _, _ => rdBinRi_6_4
  | 7, _, _ => rdBinRi_7_4
  | 8, _, _ => rdBinRi_8_4
  | 9, _, _ => rdBinRi_9_4
  | 10, _, _ => rdBinRi_10_4
  | 11, _, _ => rdBinRi_11_4
  | 12, _, _ => rdBinRi_12_4
  | 13, _, _ => rdBinRi_13_4
  | 14, _, _ => rdBinRi_14_4
  | 15, _, _ => rdBinRi_15_4
  | 16, _, _ => rdBinRi_16_4
  | 17, _, _ => rdBinRi_17_4
  | 18, _, _ => rdBinRi_18_4
  | 19, _, _ => rdBinRi_19_4
  | 20, _, _ => rdBinRi_20_4
  | n + 21, _, h => absurd h (by omega)
theorem rdBinRiA_5 : ∀ k, 1 ≤ k → k < 21 → RdBinRi k 5
  | 0, h, _ => absurd h (by omega)
  | 1, _, _ => rdBinRi_1_5
  | 2, _, _ => rdBinRi_2_5
  | 3, _, _ => rdBinRi_3_5
  | 4, _, _ => rdBinRi_4_5
  | 5, _, _ => rdBinRi_5_5
  | 6, _, _ => rdBinRi_6_5
  | 7, _, _ => rdBinRi_7_5
  | 8, _, _ => rdBinRi_8_5
  | 9, _, _ => rdBinRi_9_5
  | 10, _, _ => rdBinRi_10_5
  | 11, _, _ => rdBinRi_11_5
  | 12, _, _ => rdBinRi_12_5
  | 13, _, _ => rdBinRi_13_5
  | 14, _, _ => rdBinRi_14_5
  | 15, _, _ => rdBinRi_15_5
  | 16, _, _ => rdBinRi_16_5
  | 17, _, _ => rdBinRi_17_5
  | 18, _, _ => rdBinRi_18_5
  | 19, _, _ => rdBinRi_19_5
  | 20, _, _ => rdBinRi_20_5
  | n + 21, _, h => absurd h (by omega)
theorem rdBinRi (k : Nat) (K : Int) (h1 : 1 ≤ k) (h2 : k < 21) (h3 : 2 ≤ K) (h4 : K ≤ 5) : RdBinRi k K := by
  have : K = 2 ∨ K = 3 ∨ K = 4 ∨ K = 5 := by omega
  rcases this with rfl | rfl | rfl | rfl
  · exact rdBinRiA_2 k h1 h2
  · exact rdBinRiA_3 k h1 h2
  · exact rdBinRiA_4 k h1 h2
  · exact rdBinRiA_5 k h1 h2
theorem finRiA_1 : ∀ m, 2 ≤ m → m < 21 → FinRi 1 m
  | 0, h, _ => absurd h (by omega)
  | 1, h, _ => absurd h (by omega)
  | 2, _, _ => finRi_1_2
  | 3, _, _ => finRi_1_3
  | 4, _, _ => finRi_1_4
  | 5, _, _ => finRi_1_5
  | 6, _, _ => finRi_1_6
  | 7, _, _ => finRi_1_7
  | 8, _, _ => finRi_1_8
  | 9, _, _ => finRi_1_9
  | 10, _, _ => finRi_1_10
  | 11, _, _ => finRi_1_11
  | 12, _, _ => finRi_1_12
  | 13, _, _ => finRi_1_13
  | 14, _, _ => finRi_1_14
  | 15, _, _ => finRi_1_15
  | 16, _, _ => finRi_1_16
  | 17, _, _ => finRi_1_17
  | 18, _, _ => finRi_1_18
  | 19, _, _ => finRi_1_19
  | 20, _, _ => finRi_1_20
  | m + 21, _, h => absurd h (by omega)
theorem finRiA_2 : ∀ m, 2 ≤ m → m < 21 → FinRi 2 m
  | 0, h, _ => absurd h (by omega)
  | 1, h, _ => absurd h (by omega)
  | 2, _, _ => finRi_2_2
  | 3, _, _ => finRi_2_3
  | 4, _, _ => finRi_2_4
  | 5, _, _ => finRi_2_5
  | 6, _, _ => finRi_2_6
  | 7, _, _ => finRi_2_7
  | 8, _, _ => finRi_2_8
  | 9, _, _ => finRi_2_9
  | 10, _, _ => finRi_2_10
  | 11, _, _ => finRi_2_11
  | 12, _, _ => finRi_2_12
  | 13, _, _ => finRi_2_13
  | 14, _, _ => finRi_2_14
  | 15, _, _ => finRi_2_15
  | 16, _, _ => finRi_2_16
  | 17, _, _ => finRi_2_17
  | 18, _, _ => finRi_2_18
  | 19, _, _ => finRi_2_19
  | 20, _, _ => finRi_2_20
  | m + 21, _, h => absurd h (by omega)
theorem finRiA_3 : ∀ m, 2 ≤ m → m < 21 → FinRi 3 m
  | 0, h, _ => absurd h (by omega)
  | 1, h, _ => absurd h (by omega)
  | 2, _, _ => finRi_3_2
  | 3, _, _ => finRi_3_3
  | 4, _, _ => finRi_3_4
  | 5, _, _ => finRi_3_5
  | 6, _, _ => finRi_3_6
  | 7, _, _ => finRi_3_7
  | 8, _, _ => finRi_3_8
  | 9, _, _ => finRi_3_9
  | 10, _, _ => finRi_3_10
  | 11, _, _ => finRi_3_11
  | 12, _, _ => finRi_3_12
  | 13, _, _ => finRi_3_13
  | 14, _, _ => finRi_3_14
  | 15, _, _ => finRi_3_15
  | 16, _, _ => finRi_3_16
  | 17, _, _ => finRi_3_17
  | 18, _, _ => finRi_3_18
  | 19, _, _ => finRi_3_19
  | 20, _, _ => finRi_3_20
  | m + 21, _, h => absurd h (by omega)
theorem finRi (n m : Nat) (h1 : 1 ≤ n) (h2 : n ≤ 3) (h3 : 2 ≤ m) (h4 : m < 21) : FinRi n m := by
  have : n = 1 ∨ n = 2 ∨ n = 3 := by omega
  rcases this with rfl | rfl | rfl
  · exact finRiA_1 m h3 h4
  · exact finRiA_2 m h3 h4
  · exact finRiA_3 m h3 h4
theorem zt_iv : zeroB Try.prog 29 2 = true := by kernel_rfl
theorem zc_iv : zeroC Try.prog 29 = pC (0, 0) := by kernel_rfl
noncomputable def askTw (g : FuncId) : Nat := if g == 51 || g == 52 || g == 53 || g == 54 then 1 else 0
theorem two_2 (X Y Z : Nat × Nat) : (askN askTw noC 12 50 #[.int .i64 2, vI X, vI Y] #[] [vAns (vI Z)]).map (fun r => (r.1, r.2.2)) = some (vI Z, [.run 51 #[vI X, vI Y] #[] (vI Z) #[]]) := by kernel_rfl
theorem two_3 (X Y Z : Nat × Nat) : (askN askTw noC 12 50 #[.int .i64 3, vI X, vI Y] #[] [vAns (vI Z)]).map (fun r => (r.1, r.2.2)) = some (vI Z, [.run 52 #[vI X, vI Y] #[] (vI Z) #[]]) := by kernel_rfl
theorem two_4 (X Y Z : Nat × Nat) : (askN askTw noC 12 50 #[.int .i64 4, vI X, vI Y] #[] [vAns (vI Z)]).map (fun r => (r.1, r.2.2)) = some (vI Z, [.run 53 #[vI X, vI Y] #[] (vI Z) #[]]) := by kernel_rfl
theorem two_5 (X Y Z : Nat × Nat) : (askN askTw noC 12 50 #[.int .i64 5, vI X, vI Y] #[] [vAns (vI Z)]).map (fun r => (r.1, r.2.2)) = some (vI Z, [.run 54 #[vI X, vI Y] #[] (vI Z) #[]]) := by kernel_rfl
theorem two_w {K : Int} (h2 : 2 ≤ K) (h5 : K ≤ 5) {X Y : Nat × Nat} (hY : Rt Y) : Runs Try.prog 50 #[.int .i64 K, vI X, vI Y] #[] (vI (opP K X Y)) #[] := by
  have : K = 2 ∨ K = 3 ∨ K = 4 ∨ K = 5 := by omega
  rcases this with rfl | rfl | rfl | rfl
  · obtain ⟨H', h⟩ := tells_of (two_2 X Y (addP X Y)) ⟨(add_w X Y).2, trivial⟩
    exact h.quiet rfl rfl #[]
  · obtain ⟨H', h⟩ := tells_of (two_3 X Y (subP X Y)) ⟨(sub_w X Y).2, trivial⟩
    exact h.quiet rfl rfl #[]
  · obtain ⟨H', h⟩ := tells_of (two_4 X Y (mulP X Y)) ⟨(mul_w X Y).2, trivial⟩
    exact h.quiet rfl rfl #[]
  · obtain ⟨H', h⟩ := tells_of (two_5 X Y (divP X Y)) ⟨(div_w X hY.l hY.h).2, trivial⟩
    exact h.quiet rfl rfl #[]
section
variable {b0 b1 b2 : Option ABlk} {N : Nat} {ops : List OpD} {out : List Int} {xs : List (Nat × Nat)}
theorem tmRi_back {x : Value} {M k : Nat} {tm' : List Value} (hl : tm'.length = 80) (t1 : getT tm' 1 = x) (t2 : getT tm' 2 = .pointer (some ⟨3, 0, none⟩)) (t4 : getT tm' 4 = .slice none 0 0) (t5 : getT tm' 5 = .slice (some ⟨4, 0, none⟩) M M) (t6 : getT tm' 6 = .int .i64 k) : ∃ j', tm' = tmRi x M k j' := by
  refine ⟨getT tm', (tm_eq hl).trans ?_⟩
  unfold tmRi
  apply List.map_congr_left
  intro i _
  split
  · rename_i h; subst h; exact t1
  split
  · rename_i h; subst h; exact t2
  split
  · rename_i h; subst h; exact t4
  split
  · rename_i h; subst h; exact t5
  split
  · rename_i h; subst h; exact t6
  rfl
theorem reRi {x : Value} {M k : Nat} {rb : Option ABlk} {tm' : List Value} {H' : AHeap} (h : slR tm' H' = outRi b0 b1 b2 x N M k rb) : ∃ g' j', tm' = tmRi x M (k + 1) j' ∧ H' = (hpR b0 b1 b2 N M rb (k + 1) g').toArray := by
  unfold slR outRi at h
  simp only [Prod.mk.injEq, List.cons.injEq, and_true] at h
  obtain ⟨hl, ⟨t1, t2, t4, t5, t6⟩, ht, hn⟩ := h
  obtain ⟨j', hj⟩ := tmRi_back hl t1 t2 t4 t5 t6
  refine ⟨fun i => H'.toList.getD (5 + i) none, j', hj, ?_⟩
  apply Array.ext'
  exact list_parts0 none H'.toList _ 5 (k + 1) ht hn
/-- The registers' block. -/
def rbRi (F : Nat → (Nat × Nat)) (M k : Nat) : ABlk := ⟨((rL (0, 0) F M k).flatMap pC).toArray, 29, 2, true⟩
theorem regRi_ok {A : Int} {k M : Nat} (h0 : 0 ≤ A) (h1 : A < k) (hM : k ≤ M) (F : Nat → (Nat × Nat)) (g : Nat → Option ABlk) (n : Nat) (c : List (Option ABlk)) : okAll Try.prog (lgRI (hpR b0 b1 b2 N M (some (rbRi F M k)) n g ++ c) (.slice (some ⟨4, 0, none⟩) M M) A ⟨4, A.toNat * 2, none⟩ (F A.toNat)) :=
  ⟨ixIv h0 (by omega) rfl, rdIv (B := rbRi F M k) (l := rL (0, 0) F M k) (k := A.toNat) rfl rfl (rL_get _ F (by omega) (by omega)) rfl, trivial⟩
theorem wrRi_ok {k M : Nat} (hk : k < M) (F : Nat → (Nat × Nat)) (g : Nat → Option ABlk) (n : Nat) (c : List (Option ABlk)) {v : (Nat × Nat)} (hv : F k = v) : okAll Try.prog (lgWRi (hpR b0 b1 b2 N M (some (rbRi F M k)) n g ++ c) (hpR b0 b1 b2 N M (some (rbRi F M (k + 1))) n g ++ c) M k ⟨4, k * 2, none⟩ v) := by
  refine ⟨ixIv (by omega) (by omega) (by omega), ?_, trivial⟩
  obtain ⟨i, hi, hz⟩ := sizeB_ex sz_iv
  subst hv
  refine (wr_at (f := pC) (n := 2) (fun _ => rfl) hi hz (H := (hpR b0 b1 b2 N M (some (rbRi F M k)) n g ++ c).toArray) (b := 4) (k := k) (B := rbRi F M k) (l := rL (0, 0) F M k) (a := F k) rfl rfl rfl rfl rfl (by rw [rL_len]; exact hk) (by omega)).trans ?_
  rw [rL_set _ F M k hk]
  rfl
theorem EvG.roundRi (h : @EvG (Nat × Nat) pC b0 b1 b2 N ops out xs) (hr : ∀ k, Rt (regP ops xs k)) {k : Nat} {o : OpD} (ho : ops[k]? = some o) (hk : k < 21) (g : Nat → Option ABlk) (j : Nat → Value) :
    ∃ g' j', evR Try.prog (Runs Try.prog) (orcD 12) q1 bodyRi (tmRi (.slice (some ⟨2, 0, none⟩) N N) ops.length k j) (hpR b0 b1 b2 N ops.length (some (rbRi (regP ops xs) ops.length k)) k g).toArray
      (.normal, tmRi (.slice (some ⟨2, 0, none⟩) N N) ops.length (k + 1) j', (hpR b0 b1 b2 N ops.length (some (rbRi (regP ops xs) ops.length (k + 1))) (k + 1) g').toArray) := by
  have hlt : k < ops.length := (List.getElem?_eq_some_iff.1 ho).1
  have hd := h.head ho (H := hpR b0 b1 b2 N ops.length (some (rbRi (regP ops xs) ops.length k)) k g) rfl
  have hok := h.ok k o ho
  have hF : regP ops xs k = stepT (fun c => (c, c)) opP (fun i => xs.getD i (0, 0)) (regP ops xs) o := regT_at ho hok
  unfold stepT at hF
  have hw := fun (v : (Nat × Nat)) (hv : regP ops xs k = v) => wrRi_ok (b0 := b0) (b1 := b1) (b2 := b2) (N := N) hlt (regP ops xs) g k [obE o.K o.A o.B o.C] hv
  rcases hok with h0 | ⟨h1, hA0, hA1⟩ | ⟨h2, h5, hA0, hA1, hB0, hB1⟩
  · rw [if_pos h0] at hF
    rw [h0] at hd hw
    have r := rdConRi k hk b0 b1 b2 N ops.length o.A o.B o.C (.slice (some ⟨2, 0, none⟩) N N) ⟨0, k * 4, none⟩ ⟨4, k * 2, none⟩ (some (rbRi (regP ops xs) ops.length k)) (some (rbRi (regP ops xs) ops.length (k + 1))) g j
    unfold runRi at r
    obtain ⟨tm', H', hs, hev⟩ := rnd_part r (okApp hd (hw _ hF))
    obtain ⟨g', j', rfl, rfl⟩ := reRi hs
    exact ⟨g', j', hev⟩
  · rw [if_neg (by omega), if_pos h1] at hF
    rw [h1] at hd hw
    have r := rdVarRi k hk b0 b1 b2 N ops.length o.A o.B o.C (xs.getD o.A.toNat (0, 0)) (.slice (some ⟨2, 0, none⟩) N N) ⟨0, k * 4, none⟩ ⟨2, o.A.toNat * 2, none⟩ ⟨4, k * 2, none⟩ (some (rbRi (regP ops xs) ops.length k)) (some (rbRi (regP ops xs) ops.length (k + 1))) g j
    unfold runRi at r
    obtain ⟨tm', H', hs, hev⟩ := rnd_part r (okApp (okApp hd (EvI.var h hA0 hA1 rfl)) (hw _ hF))
    obtain ⟨g', j', rfl, rfl⟩ := reRi hs
    exact ⟨g', j', hev⟩
  · rw [if_neg (by omega), if_neg (by omega)] at hF
    have r := rdBinRi k o.K (by omega) hk h2 h5 b0 b1 b2 N ops.length o.A o.B o.C (regP ops xs o.A.toNat) (regP ops xs o.B.toNat) (opP o.K (regP ops xs o.A.toNat) (regP ops xs o.B.toNat)) (.slice (some ⟨2, 0, none⟩) N N) ⟨0, k * 4, none⟩ ⟨4, o.A.toNat * 2, none⟩ ⟨4, o.B.toNat * 2, none⟩ ⟨4, k * 2, none⟩ (some (rbRi (regP ops xs) ops.length k)) (some (rbRi (regP ops xs) ops.length (k + 1))) g j
    unfold runRi at r
    obtain ⟨tm', H', hs, hev⟩ := rnd_part r (okApp (okApp (okApp (okApp hd (regRi_ok hA0 hA1 (by omega) _ _ _ _)) (regRi_ok hB0 hB1 (by omega) _ _ _ _)) ⟨two_w h2 h5 (hr _), trivial⟩) (hw _ hF))
    obtain ⟨g', j', rfl, rfl⟩ := reRi hs
    exact ⟨g', j', hev⟩
theorem EvG.roundsRi (h : @EvG (Nat × Nat) pC b0 b1 b2 N ops out xs) (hr : ∀ k, Rt (regP ops xs k)) (h2 : 2 ≤ ops.length) (hM : ops.length < 21) : ∀ (d k : Nat), k + d = ops.length → ∀ (g : Nat → Option ABlk) (j : Nat → Value),
    ∃ g' j', Rds (evR Try.prog (Runs Try.prog) (orcD 12) q1 bodyRi) (tmRi (.slice (some ⟨2, 0, none⟩) N N) ops.length k j) (hpR b0 b1 b2 N ops.length (some (rbRi (regP ops xs) ops.length k)) k g).toArray
      (.exit 0, tmRi (.slice (some ⟨2, 0, none⟩) N N) ops.length ops.length j', (hpR b0 b1 b2 N ops.length (some (rbRi (regP ops xs) ops.length ops.length)) ops.length g').toArray)
  | 0, k, hk, g, j => by
    have hk' : k = ops.length := by omega
    subst hk'
    have r := rdEndRi ops.length h2 hM b0 b1 b2 N ops.length (.slice (some ⟨2, 0, none⟩) N N) (some (rbRi (regP ops xs) ops.length ops.length)) g j
    obtain ⟨tm', H', hs, hev⟩ := rnd_part (g := fun tm H => ((tm.length, [getT tm 1, getT tm 2, getT tm 4, getT tm 5, getT tm 6]), H)) r ⟨cmp_ok (decide_eq_false (by omega)), trivial⟩
    simp only [Prod.mk.injEq, List.cons.injEq, and_true] at hs
    obtain ⟨⟨hl, t1, t2, t4, t5, t6⟩, rfl⟩ := hs
    obtain ⟨j', rfl⟩ := tmRi_back hl t1 t2 t4 t5 t6
    exact ⟨g, j', .last hev (by simp)⟩
  | d + 1, k, hk, g, j => by
    have hlt : k < ops.length := by omega
    obtain ⟨g1, j1, h1⟩ := h.roundRi hr (List.getElem?_eq_getElem hlt) (by omega) g j
    obtain ⟨g2, j2, h3⟩ := h.roundsRi hr h2 hM d (k + 1) (by omega) g1 j1
    exact ⟨g2, j2, .next h1 h3⟩
theorem EvG.outsRi (h : @EvG (Nat × Nat) pC b0 b1 b2 N ops out xs) (h2 : 2 ≤ ops.length) (g : Nat → Option ABlk) : okAll Try.prog (lgORi (hpR b0 b1 b2 N ops.length (some (rbRi (regP ops xs) ops.length ops.length)) ops.length g) ops.length N
    (fun i => out.getD i 0) (fun i => ⟨4, (out.getD i 0).toNat * 2, none⟩) (fun i => regP ops xs (out.getD i 0).toNat)) := by
  unfold lgORi
  refine okApp ?_ ⟨cmp_ok (decide_eq_false (by omega)), trivial⟩
  have key : ∀ l : List Nat, (∀ i ∈ l, i < N) → okAll Try.prog (l.flatMap fun i => [.cmp .lss 3 (.int .i64 (Int.ofNat i)) (.int .i64 (Int.ofNat N)) true, .ex (readVar Try.prog (hpR b0 b1 b2 N ops.length (some (rbRi (regP ops xs) ops.length ops.length)) ops.length g ++ grRi i (fun i => regP ops xs (out.getD i 0).toNat)).toArray 3 ⟨1, i, none⟩ = some (.int .i64 (out.getD i 0))),
      .ex (indexAddrV Try.prog 26 (.slice (some ⟨4, 0, none⟩) ops.length ops.length) (.int .i64 (out.getD i 0)) = some (.pointer (some ⟨4, (out.getD i 0).toNat * 2, none⟩))), .ex (readVar Try.prog (hpR b0 b1 b2 N ops.length (some (rbRi (regP ops xs) ops.length ops.length)) ops.length g ++ grRi i (fun i => regP ops xs (out.getD i 0).toNat)).toArray 29 ⟨4, (out.getD i 0).toNat * 2, none⟩ = some (vI (regP ops xs (out.getD i 0).toNat)))]) := by
    intro l hl
    induction l with
    | nil => trivial
    | cons i l ih =>
      rw [List.flatMap_cons]
      refine okApp ?_ (ih fun i hi => hl i (List.mem_cons_of_mem _ hi))
      have hi := hl i (List.mem_cons_self ..)
      have hio : i < out.length := by rw [h.lo]; exact hi
      have hg : out[i]? = some (out.getD i 0) := by
        rw [List.getD_eq_getElem?_getD, List.getElem?_eq_getElem hio]; rfl
      obtain ⟨u0, u1⟩ := h.oo _ (List.mem_of_getElem? hg)
      obtain ⟨B, hB, hc⟩ := h.m1
      have hr := regRi_ok (b0 := b0) (b1 := b1) (b2 := b2) (N := N) (A := out.getD i 0) u0 u1 (Nat.le_refl _) (regP ops xs) g ops.length (grRi i (fun i => regP ops xs (out.getD i 0).toNat))
      refine ⟨cmp_ok (decide_eq_true hi), rdI (B := B) (l := out) (k := i) ?_ hc hg rfl, hr.1, hr.2.1, trivial⟩
      rw [hB]; rfl
  exact key _ fun i hi => List.mem_range.1 hi
theorem grRi_last {N : Nat} (hN : 1 ≤ N) (hN3 : N ≤ 3) (f : Nat → (Nat × Nat)) : (grRi N f).length = 2 * N ∧ (grRi N f)[2 * N - 1]? = some (some ⟨((List.range N).flatMap fun i => pC (f i)).toArray, 29, 2, true⟩) := by
  have : N = 1 ∨ N = 2 ∨ N = 3 := by omega
  rcases this with rfl | rfl | rfl <;> exact ⟨rfl, rfl⟩
theorem EvG.evalsRi {c0 c1 c2 : ABlk} (h : @EvG (Nat × Nat) pC (some c0) (some c1) (some c2) N ops out xs) (hr : ∀ k, Rt (regP ops xs k)) (h0 : c0.own = false) (h1 : c1.own = false) (h2 : c2.own = false) (hM2 : 2 ≤ ops.length) (hM : ops.length < 21) (hN : 1 ≤ N) (hN3 : N ≤ 3) :
    Runs Try.prog 28 #[tpV 0 1 N ops.length, .slice (some ⟨2, 0, none⟩) N N] #[some c0, some c1, some c2] (.slice (some ⟨3, 0, none⟩) N N) (#[some c0, some c1, some c2] ++ #[nwP (evOut (regP ops xs) out)]) := by
  have hf3 : AllFrozen #[some c0, some c1, some c2] := by
    intro b B hB
    match b, hB with
    | 0, hB => simp at hB; subst hB; exact h0
    | 1, hB => simp at hB; subst hB; exact h1
    | 2, hB => simp at hB; subst hB; exact h2
    | n + 3, hB => simp at hB
  obtain ⟨g, j, hr⟩ := h.roundsRi hr hM2 hM ops.length 0 (by omega) (fun _ => none) (j0Ri N ops.length)
  have fin := finRi N ops.length hN hN3 hM2 hM (some c0) (some c1) (some c2) (.slice (some ⟨2, 0, none⟩) N N) (some (rbRi (regP ops xs) ops.length 0)) (some (rbRi (regP ops xs) ops.length ops.length)) g j (fun i => out.getD i 0) (fun i => ⟨4, (out.getD i 0).toNat * 2, none⟩) (fun i => regP ops xs (out.getD i 0).toNat)
  have hmk := mk_sliceT (P := Try.prog) (t := 26) (e := 29) (n := 2) ty_ivs zt_iv (f := pC) (a := (0, 0)) zc_iv (H := #[some c0, some c1, some c2, tbE N ops.length]) (M := ops.length) (by omega)
  have hmk2 : makeSliceV Try.prog #[some c0, some c1, some c2, tbE N ops.length] 26 (.int .i64 ops.length) (.int .i64 ops.length) = some (.slice (some ⟨4, 0, none⟩) ops.length ops.length, #[some c0, some c1, some c2, tbE N ops.length, some (rbRi (regP ops xs) ops.length 0)]) := by
    rw [hmk]
    unfold rbRi
    rw [rL_zero]
    rfl
  have hruns := askT_runs fin ⟨hmk2, h.outsRi hM2 g⟩ (fun z hz => by
    rw [List.mem_singleton] at hz
    subst hz
    exact hr)
  have e : (hpR (some c0) (some c1) (some c2) N ops.length (some (rbRi (regP ops xs) ops.length ops.length)) ops.length g ++ grRi N (fun i => regP ops xs (out.getD i 0).toNat)).toArray =
      #[some c0, some c1, some c2] ++ ([tbE N ops.length, some (rbRi (regP ops xs) ops.length ops.length)] ++ (List.range ops.length).map g ++ grRi N (fun i => regP ops xs (out.getD i 0).toNat)).toArray := by
    apply Array.ext'
    simp [hpR, List.append_assoc]
  rw [e] at hruns
  obtain ⟨l1, l2⟩ := grRi_last hN hN3 (fun i => regP ops xs (out.getD i 0).toNat)
  have hk : ([tbE N ops.length, some (rbRi (regP ops xs) ops.length ops.length)] ++ (List.range ops.length).map g ++ grRi N (fun i => regP ops xs (out.getD i 0).toNat)).toArray[2 + ops.length + (2 * N - 1)]? = some (nwP (evOut (regP ops xs) out)) := by
    rw [List.getElem?_toArray, List.getElem?_append_right (by simp; omega)]
    have e9 : 2 + ops.length + (2 * N - 1) - ([tbE N ops.length, some (rbRi (regP ops xs) ops.length ops.length)] ++ (List.range ops.length).map g).length = 2 * N - 1 := by simp; omega
    rw [e9, l2]
    unfold nwP evOut
    rw [List.flatMap_map]
    have e8 : ((List.range N).flatMap fun i => pC (regP ops xs (out.getD i 0).toNat)) = ((List.range out.length).map fun i => out.getD i 0).flatMap fun u => pC (regP ops xs u.toNat) := by
      rw [List.flatMap_map, h.lo]
    rw [e8, range_getD]
  have e2 : 5 + ops.length + (2 * N - 1) = (#[some c0, some c1, some c2] : AHeap).size + (2 + ops.length + (2 * N - 1)) := by simp; omega
  rw [e2] at hruns
  refine Runs.keep1 hf3 hruns hk fun i u hu => ?_
  have hu' : u ∈ (evOut (regP ops xs) out).flatMap pC := List.mem_of_getElem? (by simpa using hu)
  exact pC_clos _ _ hu'
end

end Go.Proofs.Ytdlinjijccnaeaa

/-!  JacHolds: floors, bounds, Mag (cut out of TpGn, LawTapeHolds, JacNormsA). -/
namespace Go.Proofs.Ytdlinjijccnaeaa
open Go
set_option linter.unusedVariables false
set_option linter.unusedSimpArgs false
set_option maxRecDepth 100000

noncomputable def askAbR (f : FuncId) : Nat := if f == 60 then 1 else if f == 43 then 2 else 0
theorem mag_cameR (a b x y : Nat) (c : Bool) : (askN askAbR fltC 12 22 #[fl2 a b] #[] [isG x, isG y, yes c]).map (fun r => (r.1, r.2.2)) = some (.float .f64 (sel c y x), [absO a x, absO b y, cmpF .gtr y x c]) := by
  cases c <;> kernel_rfl
theorem mag_two {X : P2} (h1 : NN X.1) (h2 : NN X.2) : ∃ g, Runs Try.prog 35 #[vI X] #[] (.float .f64 g) #[] ∧ Runs Try.prog 22 #[vI X] #[] (.float .f64 g) #[] ∧ NN g ∧ 0 ≤ ix g := by
  obtain ⟨a1, a2⟩ := abs_ix h1
  obtain ⟨b1, b2⟩ := abs_ix h2
  obtain ⟨s1, s2, s3, s4⟩ := sel_hi b1 a1 rfl
  have ob : okAll Try.prog [absO X.1 (fabs X.1), absO X.2 (fabs X.2), cmpF .gtr (fabs X.2) (fabs X.1) (decide (ix (fabs X.1) < ix (fabs X.2)))] := ⟨abs_runs h1, abs_runs h2, (fc _ rfl _ _).trans (gtr_ix b1 a1), trivial⟩
  exact ⟨_, quiet_of' (mag_came X.1 X.2 _ _ _) ob rfl rfl, quiet_of' (mag_cameR X.1 X.2 _ _ _) ob rfl rfl, s1, by omega⟩
def FlOK (c : Nat) : Prop := ∃ f, Runs Try.prog 27 #[.float .f64 c] #[] (.float .f64 f) #[] ∧ Fi f ∧ -4616189618054758400 ≤ ix f ∧ ix f ≤ 4616189618054758400
theorem flOK_of {c f : Nat} (h : (askN noF noC 12 27 #[.float .f64 c] #[] []).map (fun r => (r.1, r.2.2)) = some (.float .f64 f, [])) (hf : Fi f) (h1 : -4616189618054758400 ≤ ix f) (h2 : ix f ≤ 4616189618054758400) : FlOK c := ⟨f, quiet_of' h trivial rfl rfl, hf, h1, h2⟩
theorem fl8_m16 : FlOK (fop .quo .f64 (Fz (-16)) 4620693217682128896) := flOK_of (f := Fz ((-16 : Int).fdiv 8)) (by kernel_rfl) (Dy.F (n := (-16 : Int).fdiv 8) (by decide)).fi (by decide +kernel) (by decide +kernel)
theorem fl8_m15 : FlOK (fop .quo .f64 (Fz (-15)) 4620693217682128896) := flOK_of (f := Fz ((-15 : Int).fdiv 8)) (by kernel_rfl) (Dy.F (n := (-15 : Int).fdiv 8) (by decide)).fi (by decide +kernel) (by decide +kernel)
theorem fl8_m14 : FlOK (fop .quo .f64 (Fz (-14)) 4620693217682128896) := flOK_of (f := Fz ((-14 : Int).fdiv 8)) (by kernel_rfl) (Dy.F (n := (-14 : Int).fdiv 8) (by decide)).fi (by decide +kernel) (by decide +kernel)
theorem fl8_m13 : FlOK (fop .quo .f64 (Fz (-13)) 4620693217682128896) := flOK_of (f := Fz ((-13 : Int).fdiv 8)) (by kernel_rfl) (Dy.F (n := (-13 : Int).fdiv 8) (by decide)).fi (by decide +kernel) (by decide +kernel)
theorem fl8_m12 : FlOK (fop .quo .f64 (Fz (-12)) 4620693217682128896) := flOK_of (f := Fz ((-12 : Int).fdiv 8)) (by kernel_rfl) (Dy.F (n := (-12 : Int).fdiv 8) (by decide)).fi (by decide +kernel) (by decide +kernel)
theorem fl8_m11 : FlOK (fop .quo .f64 (Fz (-11)) 4620693217682128896) := flOK_of (f := Fz ((-11 : Int).fdiv 8)) (by kernel_rfl) (Dy.F (n := (-11 : Int).fdiv 8) (by decide)).fi (by decide +kernel) (by decide +kernel)
theorem fl8_m10 : FlOK (fop .quo .f64 (Fz (-10)) 4620693217682128896) := flOK_of (f := Fz ((-10 : Int).fdiv 8)) (by kernel_rfl) (Dy.F (n := (-10 : Int).fdiv 8) (by decide)).fi (by decide +kernel) (by decide +kernel)
theorem fl8_m9 : FlOK (fop .quo .f64 (Fz (-9)) 4620693217682128896) := flOK_of (f := Fz ((-9 : Int).fdiv 8)) (by kernel_rfl) (Dy.F (n := (-9 : Int).fdiv 8) (by decide)).fi (by decide +kernel) (by decide +kernel)
theorem fl8_m8 : FlOK (fop .quo .f64 (Fz (-8)) 4620693217682128896) := flOK_of (f := Fz ((-8 : Int).fdiv 8)) (by kernel_rfl) (Dy.F (n := (-8 : Int).fdiv 8) (by decide)).fi (by decide +kernel) (by decide +kernel)
theorem fl8_m7 : FlOK (fop .quo .f64 (Fz (-7)) 4620693217682128896) := flOK_of (f := Fz ((-7 : Int).fdiv 8)) (by kernel_rfl) (Dy.F (n := (-7 : Int).fdiv 8) (by decide)).fi (by decide +kernel) (by decide +kernel)
theorem fl8_m6 : FlOK (fop .quo .f64 (Fz (-6)) 4620693217682128896) := flOK_of (f := Fz ((-6 : Int).fdiv 8)) (by kernel_rfl) (Dy.F (n := (-6 : Int).fdiv 8) (by decide)).fi (by decide +kernel) (by decide +kernel)
theorem fl8_m5 : FlOK (fop .quo .f64 (Fz (-5)) 4620693217682128896) := flOK_of (f := Fz ((-5 : Int).fdiv 8)) (by kernel_rfl) (Dy.F (n := (-5 : Int).fdiv 8) (by decide)).fi (by decide +kernel) (by decide +kernel)
theorem fl8_m4 : FlOK (fop .quo .f64 (Fz (-4)) 4620693217682128896) := flOK_of (f := Fz ((-4 : Int).fdiv 8)) (by kernel_rfl) (Dy.F (n := (-4 : Int).fdiv 8) (by decide)).fi (by decide +kernel) (by decide +kernel)
theorem fl8_m3 : FlOK (fop .quo .f64 (Fz (-3)) 4620693217682128896) := flOK_of (f := Fz ((-3 : Int).fdiv 8)) (by kernel_rfl) (Dy.F (n := (-3 : Int).fdiv 8) (by decide)).fi (by decide +kernel) (by decide +kernel)
theorem fl8_m2 : FlOK (fop .quo .f64 (Fz (-2)) 4620693217682128896) := flOK_of (f := Fz ((-2 : Int).fdiv 8)) (by kernel_rfl) (Dy.F (n := (-2 : Int).fdiv 8) (by decide)).fi (by decide +kernel) (by decide +kernel)
theorem fl8_m1 : FlOK (fop .quo .f64 (Fz (-1)) 4620693217682128896) := flOK_of (f := Fz ((-1 : Int).fdiv 8)) (by kernel_rfl) (Dy.F (n := (-1 : Int).fdiv 8) (by decide)).fi (by decide +kernel) (by decide +kernel)
theorem fl8_0 : FlOK (fop .quo .f64 (Fz (0)) 4620693217682128896) := flOK_of (f := Fz ((0 : Int).fdiv 8)) (by kernel_rfl) (Dy.F (n := (0 : Int).fdiv 8) (by decide)).fi (by decide +kernel) (by decide +kernel)
theorem fl8_1 : FlOK (fop .quo .f64 (Fz (1)) 4620693217682128896) := flOK_of (f := Fz ((1 : Int).fdiv 8)) (by kernel_rfl) (Dy.F (n := (1 : Int).fdiv 8) (by decide)).fi (by decide +kernel) (by decide +kernel)
theorem fl8_2 : FlOK (fop .quo .f64 (Fz (2)) 4620693217682128896) := flOK_of (f := Fz ((2 : Int).fdiv 8)) (by kernel_rfl) (Dy.F (n := (2 : Int).fdiv 8) (by decide)).fi (by decide +kernel) (by decide +kernel)
theorem fl8_3 : FlOK (fop .quo .f64 (Fz (3)) 4620693217682128896) := flOK_of (f := Fz ((3 : Int).fdiv 8)) (by kernel_rfl) (Dy.F (n := (3 : Int).fdiv 8) (by decide)).fi (by decide +kernel) (by decide +kernel)
theorem fl8_4 : FlOK (fop .quo .f64 (Fz (4)) 4620693217682128896) := flOK_of (f := Fz ((4 : Int).fdiv 8)) (by kernel_rfl) (Dy.F (n := (4 : Int).fdiv 8) (by decide)).fi (by decide +kernel) (by decide +kernel)
theorem fl8_5 : FlOK (fop .quo .f64 (Fz (5)) 4620693217682128896) := flOK_of (f := Fz ((5 : Int).fdiv 8)) (by kernel_rfl) (Dy.F (n := (5 : Int).fdiv 8) (by decide)).fi (by decide +kernel) (by decide +kernel)
theorem fl8_6 : FlOK (fop .quo .f64 (Fz (6)) 4620693217682128896) := flOK_of (f := Fz ((6 : Int).fdiv 8)) (by kernel_rfl) (Dy.F (n := (6 : Int).fdiv 8) (by decide)).fi (by decide +kernel) (by decide +kernel)
theorem fl8_7 : FlOK (fop .quo .f64 (Fz (7)) 4620693217682128896) := flOK_of (f := Fz ((7 : Int).fdiv 8)) (by kernel_rfl) (Dy.F (n := (7 : Int).fdiv 8) (by decide)).fi (by decide +kernel) (by decide +kernel)
theorem fl8_8 : FlOK (fop .quo .f64 (Fz (8)) 4620693217682128896) := flOK_of (f := Fz ((8 : Int).fdiv 8)) (by kernel_rfl) (Dy.F (n := (8 : Int).fdiv 8) (by decide)).fi (by decide +kernel) (by decide +kernel)
theorem fl8_9 : FlOK (fop .quo .f64 (Fz (9)) 4620693217682128896) := flOK_of (f := Fz ((9 : Int).fdiv 8)) (by kernel_rfl) (Dy.F (n := (9 : Int).fdiv 8) (by decide)).fi (by decide +kernel) (by decide +kernel)
theorem fl8_10 : FlOK (fop .quo .f64 (Fz (10)) 4620693217682128896) := flOK_of (f := Fz ((10 : Int).fdiv 8)) (by kernel_rfl) (Dy.F (n := (10 : Int).fdiv 8) (by decide)).fi (by decide +kernel) (by decide +kernel)
theorem fl8_11 : FlOK (fop .quo .f64 (Fz (11)) 4620693217682128896) := flOK_of (f := Fz ((11 : Int).fdiv 8)) (by kernel_rfl) (Dy.F (n := (11 : Int).fdiv 8) (by decide)).fi (by decide +kernel) (by decide +kernel)
theorem fl8_12 : FlOK (fop .quo .f64 (Fz (12)) 4620693217682128896) := flOK_of (f := Fz ((12 : Int).fdiv 8)) (by kernel_rfl) (Dy.F (n := (12 : Int).fdiv 8) (by decide)).fi (by decide +kernel) (by decide +kernel)
theorem fl8_13 : FlOK (fop .quo .f64 (Fz (13)) 4620693217682128896) := flOK_of (f := Fz ((13 : Int).fdiv 8)) (by kernel_rfl) (Dy.F (n := (13 : Int).fdiv 8) (by decide)).fi (by decide +kernel) (by decide +kernel)
theorem fl8_14 : FlOK (fop .quo .f64 (Fz (14)) 4620693217682128896) := flOK_of (f := Fz ((14 : Int).fdiv 8)) (by kernel_rfl) (Dy.F (n := (14 : Int).fdiv 8) (by decide)).fi (by decide +kernel) (by decide +kernel)
theorem fl8_15 : FlOK (fop .quo .f64 (Fz (15)) 4620693217682128896) := flOK_of (f := Fz ((15 : Int).fdiv 8)) (by kernel_rfl) (Dy.F (n := (15 : Int).fdiv 8) (by decide)).fi (by decide +kernel) (by decide +kernel)
theorem fl8_16 : FlOK (fop .quo .f64 (Fz (16)) 4620693217682128896) := flOK_of (f := Fz ((16 : Int).fdiv 8)) (by kernel_rfl) (Dy.F (n := (16 : Int).fdiv 8) (by decide)).fi (by decide +kernel) (by decide +kernel)
theorem fl4_m8 : FlOK (fop .quo .f64 (Fz (-8)) 4616189618054758400) := flOK_of (f := Fz ((-8 : Int).fdiv 4)) (by kernel_rfl) (Dy.F (n := (-8 : Int).fdiv 4) (by decide)).fi (by decide +kernel) (by decide +kernel)
theorem fl4_m7 : FlOK (fop .quo .f64 (Fz (-7)) 4616189618054758400) := flOK_of (f := Fz ((-7 : Int).fdiv 4)) (by kernel_rfl) (Dy.F (n := (-7 : Int).fdiv 4) (by decide)).fi (by decide +kernel) (by decide +kernel)
theorem fl4_m6 : FlOK (fop .quo .f64 (Fz (-6)) 4616189618054758400) := flOK_of (f := Fz ((-6 : Int).fdiv 4)) (by kernel_rfl) (Dy.F (n := (-6 : Int).fdiv 4) (by decide)).fi (by decide +kernel) (by decide +kernel)
theorem fl4_m5 : FlOK (fop .quo .f64 (Fz (-5)) 4616189618054758400) := flOK_of (f := Fz ((-5 : Int).fdiv 4)) (by kernel_rfl) (Dy.F (n := (-5 : Int).fdiv 4) (by decide)).fi (by decide +kernel) (by decide +kernel)
theorem fl4_m4 : FlOK (fop .quo .f64 (Fz (-4)) 4616189618054758400) := flOK_of (f := Fz ((-4 : Int).fdiv 4)) (by kernel_rfl) (Dy.F (n := (-4 : Int).fdiv 4) (by decide)).fi (by decide +kernel) (by decide +kernel)
theorem fl4_m3 : FlOK (fop .quo .f64 (Fz (-3)) 4616189618054758400) := flOK_of (f := Fz ((-3 : Int).fdiv 4)) (by kernel_rfl) (Dy.F (n := (-3 : Int).fdiv 4) (by decide)).fi (by decide +kernel) (by decide +kernel)
theorem fl4_m2 : FlOK (fop .quo .f64 (Fz (-2)) 4616189618054758400) := flOK_of (f := Fz ((-2 : Int).fdiv 4)) (by kernel_rfl) (Dy.F (n := (-2 : Int).fdiv 4) (by decide)).fi (by decide +kernel) (by decide +kernel)
theorem fl4_m1 : FlOK (fop .quo .f64 (Fz (-1)) 4616189618054758400) := flOK_of (f := Fz ((-1 : Int).fdiv 4)) (by kernel_rfl) (Dy.F (n := (-1 : Int).fdiv 4) (by decide)).fi (by decide +kernel) (by decide +kernel)
theorem fl4_0 : FlOK (fop .quo .f64 (Fz (0)) 4616189618054758400) := flOK_of (f := Fz ((0 : Int).fdiv 4)) (by kernel_rfl) (Dy.F (n := (0 : Int).fdiv 4) (by decide)).fi (by decide +kernel) (by decide +kernel)
theorem fl4_1 : FlOK (fop .quo .f64 (Fz (1)) 4616189618054758400) := flOK_of (f := Fz ((1 : Int).fdiv 4)) (by kernel_rfl) (Dy.F (n := (1 : Int).fdiv 4) (by decide)).fi (by decide +kernel) (by decide +kernel)
theorem fl4_2 : FlOK (fop .quo .f64 (Fz (2)) 4616189618054758400) := flOK_of (f := Fz ((2 : Int).fdiv 4)) (by kernel_rfl) (Dy.F (n := (2 : Int).fdiv 4) (by decide)).fi (by decide +kernel) (by decide +kernel)
theorem fl4_3 : FlOK (fop .quo .f64 (Fz (3)) 4616189618054758400) := flOK_of (f := Fz ((3 : Int).fdiv 4)) (by kernel_rfl) (Dy.F (n := (3 : Int).fdiv 4) (by decide)).fi (by decide +kernel) (by decide +kernel)
theorem fl4_4 : FlOK (fop .quo .f64 (Fz (4)) 4616189618054758400) := flOK_of (f := Fz ((4 : Int).fdiv 4)) (by kernel_rfl) (Dy.F (n := (4 : Int).fdiv 4) (by decide)).fi (by decide +kernel) (by decide +kernel)
theorem fl4_5 : FlOK (fop .quo .f64 (Fz (5)) 4616189618054758400) := flOK_of (f := Fz ((5 : Int).fdiv 4)) (by kernel_rfl) (Dy.F (n := (5 : Int).fdiv 4) (by decide)).fi (by decide +kernel) (by decide +kernel)
theorem fl4_6 : FlOK (fop .quo .f64 (Fz (6)) 4616189618054758400) := flOK_of (f := Fz ((6 : Int).fdiv 4)) (by kernel_rfl) (Dy.F (n := (6 : Int).fdiv 4) (by decide)).fi (by decide +kernel) (by decide +kernel)
theorem fl4_7 : FlOK (fop .quo .f64 (Fz (7)) 4616189618054758400) := flOK_of (f := Fz ((7 : Int).fdiv 4)) (by kernel_rfl) (Dy.F (n := (7 : Int).fdiv 4) (by decide)).fi (by decide +kernel) (by decide +kernel)
theorem fl4_8 : FlOK (fop .quo .f64 (Fz (8)) 4616189618054758400) := flOK_of (f := Fz ((8 : Int).fdiv 4)) (by kernel_rfl) (Dy.F (n := (8 : Int).fdiv 4) (by decide)).fi (by decide +kernel) (by decide +kernel)
theorem fl8 (i : Int) (h1 : -16 ≤ i) (h2 : i ≤ 16) : FlOK (fop .quo .f64 (Fz i) 4620693217682128896) := by
  have : i = -16 ∨ i = -15 ∨ i = -14 ∨ i = -13 ∨ i = -12 ∨ i = -11 ∨ i = -10 ∨ i = -9 ∨ i = -8 ∨ i = -7 ∨ i = -6 ∨ i = -5 ∨ i = -4 ∨ i = -3 ∨ i = -2 ∨ i = -1 ∨ i = 0 ∨ i = 1 ∨ i = 2 ∨ i = 3 ∨ i = 4 ∨ i = 5 ∨ i = 6 ∨ i = 7 ∨ i = 8 ∨ i = 9 ∨ i = 10 ∨ i = 11 ∨ i = 12 ∨ i = 13 ∨ i = 14 ∨ i = 15 ∨ i = 16 := by omega
  rcases this with rfl | rfl | rfl | rfl | rfl | rfl | rfl | rfl | rfl | rfl | rfl | rfl | rfl | rfl | rfl | rfl | rfl | rfl | rfl | rfl | rfl | rfl | rfl | rfl | rfl | rfl | rfl | rfl | rfl | rfl | rfl | rfl | rfl
  · exact fl8_m16
  · exact fl8_m15
  · exact fl8_m14
  · exact fl8_m13
  · exact fl8_m12
  · exact fl8_m11
  · exact fl8_m10
  · exact fl8_m9
  · exact fl8_m8
  · exact fl8_m7
  · exact fl8_m6
  · exact fl8_m5
  · exact fl8_m4
  · exact fl8_m3
  · exact fl8_m2
  · exact fl8_m1
  · exact fl8_0
  · exact fl8_1
  · exact fl8_2
  · exact fl8_3
  · exact fl8_4
  · exact fl8_5
  · exact fl8_6
  · exact fl8_7
  · exact fl8_8
  · exact fl8_9
  · exact fl8_10
  · exact fl8_11
  · exact fl8_12
  · exact fl8_13
  · exact fl8_14
  · exact fl8_15
  · exact fl8_16
theorem fl4 (i : Int) (h1 : -8 ≤ i) (h2 : i ≤ 8) : FlOK (fop .quo .f64 (Fz i) 4616189618054758400) := by
  have : i = -8 ∨ i = -7 ∨ i = -6 ∨ i = -5 ∨ i = -4 ∨ i = -3 ∨ i = -2 ∨ i = -1 ∨ i = 0 ∨ i = 1 ∨ i = 2 ∨ i = 3 ∨ i = 4 ∨ i = 5 ∨ i = 6 ∨ i = 7 ∨ i = 8 := by omega
  rcases this with rfl | rfl | rfl | rfl | rfl | rfl | rfl | rfl | rfl | rfl | rfl | rfl | rfl | rfl | rfl | rfl | rfl
  · exact fl4_m8
  · exact fl4_m7
  · exact fl4_m6
  · exact fl4_m5
  · exact fl4_m4
  · exact fl4_m3
  · exact fl4_m2
  · exact fl4_m1
  · exact fl4_0
  · exact fl4_1
  · exact fl4_2
  · exact fl4_3
  · exact fl4_4
  · exact fl4_5
  · exact fl4_6
  · exact fl4_7
  · exact fl4_8
/-- Each constant of a field that Make makes has a floor. -/
theorem mk_floor (n : Int) (zs : List Int) (dv : Bool) {k : Nat} (hk : k < mkM n zs) (h0 : (tmkO n zs dv k).K = 0) : FlOK (tmkO n zs dv k).C := by
  by_cases h1 : k < mkN n
  · have e : tmkO n zs dv k = ⟨1, Int.ofNat k, 0, 0⟩ := by unfold tmkO Omk; rw [if_pos h1]
    rw [e] at h0
    exact absurd h0 (show ¬ ((1 : Int) = 0) by decide)
  by_cases h2 : k = mkN n
  · have e : tmkO n zs dv k = ⟨0, 0, 0, fop .quo .f64 (mkC n) 4616189618054758400⟩ := by unfold tmkO Omk; rw [if_neg h1, if_pos h2]
    rw [e]
    unfold mkC
    have a1 := Int.emod_nonneg n (b := 17) (by decide)
    have a2 := Int.emod_lt_of_pos n (b := 17) (by decide)
    rw [show wr (n % 17 - 8) = n % 17 - 8 from wrap_id (by omega) (by omega)]
    exact fl4 _ (by omega) (by omega)
  · obtain ⟨i, rfl⟩ : ∃ i, k = mkN n + 1 + i := ⟨k - (mkN n + 1), by omega⟩
    have hi : i < 8 ∧ i < zs.length := by unfold mkM mkL at hk; omega
    rw [mkO_at (List.getElem?_eq_getElem hi.2) hi.1] at h0 ⊢
    generalize zs[i] = z at h0 ⊢
    unfold mkOp RnK.op at h0 ⊢
    by_cases h : decide (z % 11 = 0) = true
    · rw [h]
      have a1 := Int.emod_nonneg (wr (z.tdiv 11)) (b := 33) (by decide)
      have a2 := Int.emod_lt_of_pos (wr (z.tdiv 11)) (b := 33) (by decide)
      show FlOK (fop .quo .f64 (Fz (wr (wr (z.tdiv 11) % 33 - 16))) 4620693217682128896)
      rw [show wr (wr (z.tdiv 11) % 33 - 16) = wr (z.tdiv 11) % 33 - 16 from wrap_id (by omega) (by omega)]
      exact fl8 _ (by omega) (by omega)
    · rw [Bool.not_eq_true] at h
      rw [h] at h0
      have b1 := Int.emod_nonneg z (b := 3) (by decide)
      have b2 := Int.emod_lt_of_pos z (b := 3) (by decide)
      have hK : (mkRn (mkN n + 1 + i) z).K = 2 + z % 3 := wrap_id (by omega) (by omega)
      simp only [Bool.false_eq_true, if_false] at h0
      split at h0
      · exact absurd h0 (by decide)
      · rw [hK] at h0; omega
theorem evOut_range {α : Type} (F : Nat → α) (u : Nat → Int) (N : Nat) : evOut F ((List.range N).map u) = (List.range N).map fun i => F (u i).toNat := by
  unfold evOut
  rw [List.map_map]
  rfl
def bxW (j : Nat) : Nat := (1023 + [2, 5, 11, 23, 47, 95, 191, 383, 767].getD j 767) * 4503599627370496
def bx (j : Nat) : Nat × Nat := (bxW j + 9223372036854775808, bxW j)
theorem bx_fi (j : Nat) (h : j ≤ 8) : Fi (bx j).1 ∧ Fi (bx j).2 ∧ ix (bx j).1 ≤ ix (bx j).2 := by
  have : j = 0 ∨ j = 1 ∨ j = 2 ∨ j = 3 ∨ j = 4 ∨ j = 5 ∨ j = 6 ∨ j = 7 ∨ j = 8 := by omega
  rcases this with rfl | rfl | rfl | rfl | rfl | rfl | rfl | rfl | rfl <;> exact ⟨⟨by decide +kernel, by decide +kernel, by decide +kernel⟩, ⟨by decide +kernel, by decide +kernel, by decide +kernel⟩, by decide +kernel⟩
theorem bx_rs {j : Nat} (h : j ≤ 8) : Rs (bx j) := rs_fi (bx_fi j h).1 (bx_fi j h).2.1 (bx_fi j h).2.2
theorem bx_next {j : Nat} (h : j < 8) : Wi (bx j) (bx (j + 1)) := by
  have : j = 0 ∨ j = 1 ∨ j = 2 ∨ j = 3 ∨ j = 4 ∨ j = 5 ∨ j = 6 ∨ j = 7 := by omega
  rcases this with rfl | rfl | rfl | rfl | rfl | rfl | rfl | rfl <;> exact ⟨by decide +kernel, by decide +kernel⟩
theorem bx_mono {i : Nat} : ∀ {j : Nat}, i ≤ j → j ≤ 8 → Wi (bx i) (bx j)
  | 0, h, _ => by obtain rfl : i = 0 := by omega
                  exact wi_refl _
  | j + 1, h, h8 => by
    by_cases c : i = j + 1
    · subst c; exact wi_refl _
    · exact (bx_mono (j := j) (by omega) (by omega)).trans (bx_next (by omega))
theorem bx_step {j : Nat} (h : j < 8) {K : Int} (h2 : 2 ≤ K) (h4 : K ≤ 4) : Wi (opP K (bx j) (bx j)) (bx (j + 1)) := by
  have : j = 0 ∨ j = 1 ∨ j = 2 ∨ j = 3 ∨ j = 4 ∨ j = 5 ∨ j = 6 ∨ j = 7 := by omega
  have hK : K = 2 ∨ K = 3 ∨ K = 4 := by omega
  rcases this with rfl | rfl | rfl | rfl | rfl | rfl | rfl | rfl <;> rcases hK with rfl | rfl | rfl <;> exact ⟨by decide +kernel, by decide +kernel⟩
theorem bx_in {j : Nat} (h : j ≤ 8) {v : Nat} (hv : NN v) (hi : InP v (bx j)) : Fi v := by
  obtain ⟨a, b, _⟩ := bx_fi j h
  exact ⟨hv.1, Int.lt_of_lt_of_le a.2.1 hi.1, Int.lt_of_le_of_lt hi.2 b.2.2⟩
theorem cmp_eqlH (x y : Int) : cmpV Try.prog .eql 3 (.int .i64 x) (.int .i64 y) = some (decide (x = y)) := by kernel_rfl
theorem dyF3 {n : Int} (h : n.natAbs < 1000000) : Dy 3 (n * 8) (Fz n) := ((Dy.F (n := n) (by omega)).up 3).cast (by omega) rfl
/-- Without divisions none is made. -/
theorem mk_no5 (n : Int) (zs : List Int) {k : Nat} (hk : k < mkM n zs) : (tmkO n zs false k).K ≤ 4 ∧ (2 ≤ (tmkO n zs false k).K → mkN n < k) := by
  by_cases h1 : k < mkN n
  · have e : tmkO n zs false k = ⟨1, Int.ofNat k, 0, 0⟩ := by unfold tmkO Omk; rw [if_pos h1]
    rw [e]
    exact ⟨(by decide : (1 : Int) ≤ 4), fun h => absurd h (show ¬ ((2 : Int) ≤ 1) by decide)⟩
  by_cases h2 : k = mkN n
  · have e : (tmkO n zs false k).K = 0 := by unfold tmkO Omk; rw [if_neg h1, if_pos h2]
    rw [e]
    exact ⟨(by decide : (0 : Int) ≤ 4), fun h => absurd h (show ¬ ((2 : Int) ≤ 0) by decide)⟩
  · refine ⟨?_, fun _ => by omega⟩
    obtain ⟨i, rfl⟩ : ∃ i, k = mkN n + 1 + i := ⟨k - (mkN n + 1), by omega⟩
    have hi : i < 8 ∧ i < zs.length := by unfold mkM mkL at hk; omega
    rw [mkO_at (List.getElem?_eq_getElem hi.2) hi.1]
    generalize zs[i] = z
    unfold mkOp RnK.op
    by_cases h : decide (z % 11 = 0) = true
    · rw [h]; exact (by decide : (0 : Int) ≤ 4)
    · rw [Bool.not_eq_true] at h
      rw [h]
      have h1 := Int.emod_nonneg z (b := 3) (by decide)
      have h2 := Int.emod_lt_of_pos z (b := 3) (by decide)
      have hK : (mkRn (mkN n + 1 + i) z).K = 2 + z % 3 := wrap_id (by omega) (by omega)
      simp only [Bool.false_eq_true, if_false, Bool.false_and]
      rw [hK]
      omega
theorem get2 {α : Type} {N : Nat} (f : Nat → α) (d : α) {Q : α → Prop} (hd : Q d) (h : ∀ i, i < N → Q (f i)) (i : Nat) : Q (((List.range N).map f).getD i d) := by
  rw [List.getD_eq_getElem?_getD, List.getElem?_map]
  by_cases c : i < N
  · rw [List.getElem?_range c]; exact h i c
  · rw [List.getElem?_eq_none (l := List.range N) (by simp; omega)]; exact hd
theorem opOkD_of {k n : Nat} {o p : OpD} (h : opOkD k n o) (e1 : p.K = o.K) (e2 : p.A = o.A) (e3 : p.B = o.B) : opOkD k n p := by
  unfold opOkD at *
  rw [e1, e2, e3]
  exact h

end Go.Proofs.Ytdlinjijccnaeaa

/-!  JacHolds: the document's EvalIv and JacIv of any field at three from-tos cut to so many; slopes stay finite. -/
namespace Go.Proofs.Ytdlinjijccnaeaa
open Go
set_option linter.unusedVariables false
set_option linter.unusedSimpArgs false
set_option maxRecDepth 100000

/-- A contract where a block that may not be written is known in part only. -/
theorem Runs.cut {P : Program} {f : FuncId} {args : Array Value} {H H0 bs : AHeap} {v : Value} (hs : H0.size = H.size) (hf : AllFrozen H)
    (h0 : ∀ (b : Nat) (B0 : ABlk), H0[b]? = some (some B0) → B0.own = false ∧ ∃ B, H[b]? = some (some B) ∧ B0.cells.size ≤ B.cells.size ∧ ∀ (i : Nat) (u : Value), B0.cells[i]? = some u → B.cells[i]? = some u)
    (h1 : ∀ (b : Nat) (B : ABlk), H[b]? = some (some B) → ∃ B0, H0[b]? = some (some B0)) (h : Runs P f args H0 v (H0 ++ bs)) : Runs P f args H v (H ++ bs) := by
  have hf0 : AllFrozen H0 := fun b B hB => (h0 b B hB).1
  intro m w args' hr ha
  have hr0 : HR H0 m w := by
    refine ⟨hr.size.trans hs.symm, hr.old, fun b B0 hB0 => ?_, fun b b' B B' l l' hB _ _ _ ho => ?_⟩
    · obtain ⟨ho, B, hB, hsz, hc⟩ := h0 b B0 hB0
      obtain ⟨l, cs, fr, hl, br⟩ := hr.blk b B hB
      exact ⟨l, cs, fr, hl, br.real, br.size, fun h => absurd h (by rw [ho]; decide), fun h => absurd h (by rw [ho]; decide), Nat.le_trans (Nat.add_le_add_left hsz _) br.fits, fun i u hu => br.vals i u (hc i u hu), br.live⟩
    · rw [hf0 b B hB] at ho; cases ho
  obtain ⟨g1, g2⟩ := h m w args' hr0 ha
  refine ⟨g1, g2.mono ?_⟩
  rintro e w' ⟨v', m1, he, hv1, hr1, st⟩
  have gl : ∀ b, b < H.size → (H ++ bs)[b]? = H[b]? := fun b hb => Array.getElem?_append_left hb
  have gl0 : ∀ b, b < H.size → (H0 ++ bs)[b]? = H0[b]? := fun b hb => Array.getElem?_append_left (by omega)
  have gr : ∀ b, ¬ b < H.size → (H ++ bs)[b]? = (H0 ++ bs)[b]? := fun b hb => by
    rw [Array.getElem?_append_right (by omega), Array.getElem?_append_right (by omega), hs]
  have back : ∀ (b : Nat) (B : ABlk), (H ++ bs)[b]? = some (some B) → ∃ B0, (H0 ++ bs)[b]? = some (some B0) := by
    intro b B hB
    by_cases c : b < H.size
    · rw [gl b c] at hB
      rw [gl0 b c]
      exact h1 b B hB
    · rw [gr b c] at hB
      exact ⟨B, hB⟩
  have new : ∀ (b : Nat) (B : ABlk), (H ++ bs)[b]? = some (some B) → B.own = true → (H0 ++ bs)[b]? = some (some B) := by
    intro b B hB ho
    by_cases c : b < H.size
    · rw [gl b c] at hB
      rw [hf b B hB] at ho; cases ho
    · rw [gr b c] at hB
      exact hB
  refine ⟨v', m1, he, hv1, ⟨?_, hr1.old, ?_, ?_⟩, ⟨st.ext, st.os, st.tape, st.output, st.size, fun g hg _ => st.keep g hg (hf0.nofp g), ?_⟩⟩
  · rw [hr1.size]; simp [hs]
  · intro b B hB
    by_cases c : b < H.size
    · rw [gl b c] at hB
      obtain ⟨l, cs, fr, hl, br⟩ := hr.blk b B hB
      exact ⟨l, cs, fr, st.ext b l hl, br.mono st.ext (st.keep _ (hr.old b l hl br.live) (hf0.nofp _))⟩
    · rw [gr b c] at hB
      exact hr1.blk b B hB
  · intro b b' B B' l l' hB hB' hl hl' ho heq
    obtain ⟨B0', hB0'⟩ := back b' B' hB'
    exact hr1.inj b b' B B0' l l' (new b B hB ho) hB0' hl hl' ho heq
  · rintro g ⟨b, B, l, hb, ho, hl, hg⟩
    rcases st.fp g ⟨b, B, l, new b B hb ho, ho, hl, hg⟩ with h2 | h2
    · exact absurd h2 (hf0.nofp g)
    · exact .inr h2
theorem fz_map (l : List (Option ABlk)) (b : Nat) : (froze l.toArray)[b]? = (l[b]?).map fz := by
  unfold froze
  simp
theorem lit_cut {N : Nat} (h3 : N ≤ 3) : ∀ (i : Nat) (u : Value), (((List.replicate N e8).flatMap pC).toArray : Array Value)[i]? = some u → (([e8, e8, e8].flatMap pC).toArray : Array Value)[i]? = some u := by
  intro i u hu
  have e : [e8, e8, e8] = List.replicate N e8 ++ List.replicate (3 - N) e8 := by
    have : N = 0 ∨ N = 1 ∨ N = 2 ∨ N = 3 := by omega
    rcases this with rfl | rfl | rfl | rfl <;> rfl
  rw [e, List.flatMap_append, List.getElem?_toArray]
  rw [List.getElem?_toArray] at hu
  rw [List.getElem?_append_left (List.getElem?_eq_some_iff.1 hu).1, hu]
theorem cut_lit {f : FuncId} {args : Array Value} {l : List (Option ABlk)} {bx N : Nat} {v : Value} {bs : AHeap} (h3 : N ≤ 3) (q : l[bx]? = some litB)
    (h : Runs Try.prog f args (froze (l.set bx (nwPj (List.replicate N e8))).toArray) v (froze (l.set bx (nwPj (List.replicate N e8))).toArray ++ bs)) : Runs Try.prog f args (froze l.toArray) v (froze l.toArray ++ bs) := by
  have hbx := (List.getElem?_eq_some_iff.1 q).1
  refine Runs.cut (by rw [fz_size, fz_size, List.length_set]) (froze_all _) ?_ ?_ h
  · intro b B0 hB0
    refine ⟨froze_all _ b B0 hB0, ?_⟩
    rw [fz_map, List.getElem?_set] at hB0
    rw [fz_map]
    by_cases c : bx = b
    · subst c
      rw [if_pos rfl, if_pos hbx] at hB0
      injection hB0 with hB0
      injection hB0 with hB0
      subst hB0
      refine ⟨_, by rw [q]; rfl, ?_, lit_cut h3⟩
      show ((List.replicate N e8).flatMap pC).toArray.size ≤ 6
      have : N = 0 ∨ N = 1 ∨ N = 2 ∨ N = 3 := by omega
      rcases this with rfl | rfl | rfl | rfl <;> decide
    · rw [if_neg c] at hB0
      exact ⟨B0, hB0, Nat.le_refl _, fun _ _ hu => hu⟩
  · intro b B hB
    rw [fz_map] at hB
    rw [fz_map, List.getElem?_set]
    by_cases c : bx = b
    · subst c
      rw [if_pos rfl, if_pos hbx]
      exact ⟨_, rfl⟩
    · rw [if_neg c]
      exact ⟨B, hB⟩
section
variable {l : List (Option ABlk)} {ops : List OpD} {out : List Int} {N M bo bu bx s : Nat}
theorem refEv_rn (hM : ops.length = M) (m2 : 2 ≤ M) (m4 : M ≤ 20) (h1 : 1 ≤ N) (h2 : N ≤ 3) (ho : out.length = N) (hok : ∀ k o, ops[k]? = some o → opOkD k N o) (hu : ∀ u ∈ out, 0 ≤ u ∧ u < ops.length) (hr : ∀ k, Rt (regP ops (List.replicate N e8) k))
    (q0 : l[bo]? = some (opB (opsB ops true).cells)) (q1 : l[bu]? = some (iB (intB out true).cells)) (q2 : l[bx]? = some litB) (n2 : bo ≠ bx) (n3 : bu ≠ bx) (hs : s = l.length) :
    (rnO 28 #[tpV bo bu N M, slV bx N] l (slV s N) [nwPj (evOut (regP ops (List.replicate N e8)) out)]).ok Try.prog := by
  subst hM hs
  have hbx := (List.getElem?_eq_some_iff.1 q2).1
  have hG : @EvG (Nat × Nat) pC (some (opsB ops false)) (some (intB out false)) (some ⟨((List.replicate N e8).flatMap pC).toArray, 29, 2, false⟩) N ops out (List.replicate N e8) := ⟨⟨_, rfl, rfl⟩, ⟨_, rfl, rfl⟩, ⟨_, rfl, rfl⟩, hok, by simp, ho, hu⟩
  have r1 := EvG.evalsRi hG hr rfl rfl rfl m2 (by omega) h1 h2
  have r2 := ev_move r1 rfl rfl rfl rfl (opsB_plain _ _) (intB_plain _ _) (plain_flat pC_cl _ _ _ _) (plain_flat pC_cl _ _ _ _) (H := froze (l.set bx (nwPj (List.replicate N e8))).toArray) (bo := bo) (bu := bu) (bx := bx)
    (fz_at (by rw [List.getElem?_set, if_neg (Ne.symm n2)]; exact q0)) rfl (fz_at (by rw [List.getElem?_set, if_neg (Ne.symm n3)]; exact q1)) rfl (fz_at (by rw [List.getElem?_set, if_pos rfl, if_pos hbx]; rfl)) rfl
  rw [fz_size, List.length_set] at r2
  exact cut_lit h2 q2 r2
theorem refJac_rn (hM : ops.length = M) (m2 : 2 ≤ M) (m4 : M ≤ 12) (h1 : 1 ≤ N) (h2 : N ≤ 3) (ho : out.length = N) (hok : ∀ k o, ops[k]? = some o → opOkD k N o) (hu : ∀ u ∈ out, 0 ≤ u ∧ u < ops.length) (hr : ∀ k, Rt (regDI ops (List.replicate N e8) k).1)
    (q0 : l[bo]? = some (opB (opsB ops true).cells)) (q1 : l[bu]? = some (iB (intB out true).cells)) (q2 : l[bx]? = some litB) (n1 : bo ≠ bu) (n2 : bo ≠ bx) (n3 : bu ≠ bx) (hs : s = l.length) :
    (rnO 29 #[tpV bo bu N M, slV bx N] l (slV (s + N) N) (tabJI s N (rwDI ops (List.replicate N e8) out))).ok Try.prog := by
  subst hM hs
  have hbx := (List.getElem?_eq_some_iff.1 q2).1
  have hG : EvG pC (some (opsB ops false)) (some (intB out false)) (some ⟨((List.replicate N e8).flatMap pC).toArray, 29, 2, false⟩) N ops out (List.replicate N e8) := ⟨⟨_, rfl, rfl⟩, ⟨_, rfl, rfl⟩, ⟨_, rfl, rfl⟩, hok, by simp, ho, hu⟩
  have r1 := ref_JacI hG (opsB_plain _ _) (intB_plain _ _) (plain_flat pC_cl _ _ _ _) hr h1 h2 m4 m2
  have s0 : (l.set bx (nwPj (List.replicate N e8)))[bo]? = some (opB (opsB ops true).cells) := by rw [List.getElem?_set, if_neg (Ne.symm n2)]; exact q0
  have s1 : (l.set bx (nwPj (List.replicate N e8)))[bu]? = some (iB (intB out true).cells) := by rw [List.getElem?_set, if_neg (Ne.symm n3)]; exact q1
  have s2 : (l.set bx (nwPj (List.replicate N e8)))[bx]? = some (nwPj (List.replicate N e8)) := by rw [List.getElem?_set, if_pos rfl, if_pos hbx]
  have a := Runs.tabAtI (args1 := #[tpV bo bu N ops.length, slV bx N]) (bo := bo) (bu := bu) (bx := bx) (B0 := opsB ops false) (B1 := intB out false) (B2 := ⟨((List.replicate N e8).flatMap pC).toArray, 29, 2, false⟩) r1 rfl rfl rfl (opsB_plain _ _) (intB_plain _ _) (plain_flat pC_cl _ _ _ _) (froze_all (l.set bx (nwPj (List.replicate N e8))).toArray)
      (fz_at s0) (fz_at s1) (fz_at s2) n1 n2 n3
      (.cons (tp_rel bo bu _ _ (by decide) rfl rfl) (.cons (.slice 2 bx 0 none _ _ _ (by decide) rfl) .nil))
  rw [fz_size, List.length_set] at a
  exact cut_lit h2 q2 a
end

/-! slopes stay finite -/
def sxW (j : Nat) : Nat := (1023 + [1, 6, 14, 28, 54, 104, 202, 396, 782].getD j 782) * 4503599627370496
def sx (j : Nat) : Nat × Nat := (sxW j + 9223372036854775808, sxW j)
def txW (j : Nat) : Nat := (1023 + [4, 12, 26, 52, 102, 200, 394, 780].getD j 780) * 4503599627370496
def tx (j : Nat) : Nat × Nat := (txW j + 9223372036854775808, txW j)
theorem sx_fi (j : Nat) (h : j ≤ 8) : Fi (sx j).1 ∧ Fi (sx j).2 ∧ ix (sx j).1 ≤ ix (sx j).2 := by
  have : j = 0 ∨ j = 1 ∨ j = 2 ∨ j = 3 ∨ j = 4 ∨ j = 5 ∨ j = 6 ∨ j = 7 ∨ j = 8 := by omega
  rcases this with rfl | rfl | rfl | rfl | rfl | rfl | rfl | rfl | rfl <;> exact ⟨⟨by decide +kernel, by decide +kernel, by decide +kernel⟩, ⟨by decide +kernel, by decide +kernel, by decide +kernel⟩, by decide +kernel⟩
theorem tx_fi (j : Nat) (h : j < 8) : Fi (tx j).1 ∧ Fi (tx j).2 ∧ ix (tx j).1 ≤ ix (tx j).2 := by
  have : j = 0 ∨ j = 1 ∨ j = 2 ∨ j = 3 ∨ j = 4 ∨ j = 5 ∨ j = 6 ∨ j = 7 := by omega
  rcases this with rfl | rfl | rfl | rfl | rfl | rfl | rfl | rfl <;> exact ⟨⟨by decide +kernel, by decide +kernel, by decide +kernel⟩, ⟨by decide +kernel, by decide +kernel, by decide +kernel⟩, by decide +kernel⟩
theorem sx_rs {j : Nat} (h : j ≤ 8) : Rs (sx j) := rs_fi (sx_fi j h).1 (sx_fi j h).2.1 (sx_fi j h).2.2
theorem tx_rs {j : Nat} (h : j < 8) : Rs (tx j) := rs_fi (tx_fi j h).1 (tx_fi j h).2.1 (tx_fi j h).2.2
theorem sx_next {j : Nat} (h : j < 8) : Wi (sx j) (sx (j + 1)) := by
  have : j = 0 ∨ j = 1 ∨ j = 2 ∨ j = 3 ∨ j = 4 ∨ j = 5 ∨ j = 6 ∨ j = 7 := by omega
  rcases this with rfl | rfl | rfl | rfl | rfl | rfl | rfl | rfl <;> exact ⟨by decide +kernel, by decide +kernel⟩
theorem sx_mono {i : Nat} : ∀ {j : Nat}, i ≤ j → j ≤ 8 → Wi (sx i) (sx j)
  | 0, h, _ => by obtain rfl : i = 0 := by omega
                  exact wi_refl _
  | j + 1, h, h8 => by
    by_cases c : i = j + 1
    · subst c; exact wi_refl _
    · exact (sx_mono (j := j) (by omega) (by omega)).trans (sx_next (by omega))
theorem sx_sum {j : Nat} (h : j < 8) {K : Int} (h2 : 2 ≤ K) (h3 : K ≤ 3) : Wi (opP K (sx j) (sx j)) (sx (j + 1)) := by
  have : j = 0 ∨ j = 1 ∨ j = 2 ∨ j = 3 ∨ j = 4 ∨ j = 5 ∨ j = 6 ∨ j = 7 := by omega
  have hK : K = 2 ∨ K = 3 := by omega
  rcases this with rfl | rfl | rfl | rfl | rfl | rfl | rfl | rfl <;> rcases hK with rfl | rfl <;> exact ⟨by decide +kernel, by decide +kernel⟩
theorem sx_mulL {j : Nat} (h : j < 8) : Wi (opP 4 (sx j) (bx j)) (tx j) := by
  have : j = 0 ∨ j = 1 ∨ j = 2 ∨ j = 3 ∨ j = 4 ∨ j = 5 ∨ j = 6 ∨ j = 7 := by omega
  rcases this with rfl | rfl | rfl | rfl | rfl | rfl | rfl | rfl <;> exact ⟨by decide +kernel, by decide +kernel⟩
theorem sx_mulR {j : Nat} (h : j < 8) : Wi (opP 4 (bx j) (sx j)) (tx j) := by
  have : j = 0 ∨ j = 1 ∨ j = 2 ∨ j = 3 ∨ j = 4 ∨ j = 5 ∨ j = 6 ∨ j = 7 := by omega
  rcases this with rfl | rfl | rfl | rfl | rfl | rfl | rfl | rfl <;> exact ⟨by decide +kernel, by decide +kernel⟩
theorem tx_sum {j : Nat} (h : j < 8) : Wi (opP 2 (tx j) (tx j)) (sx (j + 1)) := by
  have : j = 0 ∨ j = 1 ∨ j = 2 ∨ j = 3 ∨ j = 4 ∨ j = 5 ∨ j = 6 ∨ j = 7 := by omega
  rcases this with rfl | rfl | rfl | rfl | rfl | rfl | rfl | rfl <;> exact ⟨by decide +kernel, by decide +kernel⟩
theorem fi_in {X : Nat × Nat} (a : Fi X.1) (b : Fi X.2) {v : Nat} (hv : NN v) (hi : InP v X) : Fi v := ⟨hv.1, Int.lt_of_lt_of_le a.2.1 hi.1, Int.lt_of_le_of_lt hi.2 b.2.2⟩
theorem sx_0 : InP 0 (sx 0) := ⟨by decide +kernel, by decide +kernel⟩
theorem sx_1 : InP 4607182418800017408 (sx 0) := ⟨by decide +kernel, by decide +kernel⟩
/-- A number that is so and so large. -/
structure Sz (v : Nat) (X : Nat × Nat) : Prop where
  fi : Fi v
  i : InP v X
theorem Sz.n {v : Nat} {X : Nat × Nat} (h : Sz v X) (hr : Rs X) : NIn v X := ⟨.inl h.fi.nn, hr, fun _ => h.i⟩
theorem Sz.op {K : Int} (h2 : 2 ≤ K) (h4 : K ≤ 4) {a b : Nat} {X Y Z : Nat × Nat} (ha : Sz a X) (hb : Sz b Y) (rX : Rs X) (rY : Rs Y) (w : Wi (opP K X Y) Z) (z1 : Fi Z.1) (z2 : Fi Z.2) : Sz (opF K a b) Z := by
  have nn : NN (opF K a b) := by
    unfold opF opKd
    have hK : K = 2 ∨ K = 3 ∨ K = 4 := by omega
    rcases hK with hK | hK | hK <;> rw [hK]
    · exact (add_rd ha.fi hb.fi).nn
    · exact (sub_rd ha.fi hb.fi).nn
    · exact (mul_rd ha.fi hb.fi).nn
  have hin := ((op_in K (ha.n rX) (hb.n rY)).is nn).wi w
  exact ⟨fi_in z1 z2 nn hin, hin⟩
theorem regD_bd {ops : List OpD} {xs : List Nat} {N : Nat} (hok : ∀ k o, ops[k]? = some o → opOkD k N o) (h5 : ∀ k o, ops[k]? = some o → o.K ≤ 4 ∧ (2 ≤ o.K → N < k)) (hl : ops.length ≤ N + 9) (hc : ∀ o ∈ ops, o.K = 0 → Sz o.C (bx 0)) (hx : ∀ i, Sz (xs.getD i 0) (bx 0)) :
    ∀ (d k : Nat), k < d → k < ops.length → Sz (regD ops xs k).1 (bx (k - N)) ∧ ∀ i, Sz ((regD ops xs k).2 i) (sx (k - N))
  | 0, k, hd, hk => absurd hd (by omega)
  | d + 1, k, hd, hk => by
    have ho := List.getElem?_eq_getElem hk
    generalize ops[k] = o at ho
    have e : regD ops xs k = stepT (fun c => (c, fun _ => 0)) stD (vrD xs) (regD ops xs) o := regT_at ho (hok k o ho)
    have hm := List.mem_of_getElem? ho
    have h8 : k - N ≤ 8 := by omega
    have m0 : Wi (sx 0) (sx (k - N)) := sx_mono (by omega) h8
    have b0 : Wi (bx 0) (bx (k - N)) := bx_mono (by omega) h8
    rw [e]
    unfold stepT
    rcases hok k o ho with h0 | ⟨h1, _, _⟩ | ⟨h2, _, a1, a2, b1, b2⟩
    · rw [if_pos h0]
      exact ⟨⟨(hc o hm h0).fi, (hc o hm h0).i.wi b0⟩, fun _ => ⟨fi_zero.1, sx_0.wi m0⟩⟩
    · rw [if_neg (by omega), if_pos h1]
      refine ⟨⟨(hx _).fi, (hx _).i.wi b0⟩, fun i => ?_⟩
      show Sz (if _ = i then 4607182418800017408 else 0) _
      split
      · exact ⟨fi_one, sx_1.wi m0⟩
      · exact ⟨fi_zero.1, sx_0.wi m0⟩
    · rw [if_neg (by omega), if_neg (by omega)]
      obtain ⟨g4, gN⟩ := h5 k o ho
      have gk := gN h2
      have A := regD_bd hok h5 hl hc hx d o.A.toNat (by omega) (by omega)
      have B := regD_bd hok h5 hl hc hx d o.B.toNat (by omega) (by omega)
      obtain ⟨j, hj⟩ : ∃ j, k - N = j + 1 := ⟨k - N - 1, by omega⟩
      have j8 : j < 8 := by omega
      have up : ∀ {n : Nat} {v : Nat}, Sz v (bx (n - N)) → n - N ≤ j → Sz v (bx j) := fun h hn => ⟨h.fi, h.i.wi (bx_mono hn (by omega))⟩
      have us : ∀ {n : Nat} {v : Nat}, Sz v (sx (n - N)) → n - N ≤ j → Sz v (sx j) := fun h hn => ⟨h.fi, h.i.wi (sx_mono hn (by omega))⟩
      have IA := up A.1 (by omega)
      have IB := up B.1 (by omega)
      have SA := fun i => us (A.2 i) (by omega)
      have SB := fun i => us (B.2 i) (by omega)
      generalize regD ops xs o.A.toNat = a at *
      generalize regD ops xs o.B.toNat = b at *
      rw [hj]
      have rb := bx_rs (j := j) (by omega)
      have rs := sx_rs (j := j) (by omega)
      obtain ⟨f1, f2, _⟩ := bx_fi (j + 1) (by omega)
      obtain ⟨s1, s2, _⟩ := sx_fi (j + 1) (by omega)
      obtain ⟨t1, t2, _⟩ := tx_fi j j8
      refine ⟨Sz.op h2 g4 IA IB rb rb (bx_step j8 h2 g4) f1 f2, fun i => ?_⟩
      show Sz (slF o.K a.1 b.1 (opF o.K a.1 b.1) (a.2 i) (b.2 i)) _
      unfold slF
      by_cases k2 : o.K = 2
      · rw [if_pos k2]
        exact Sz.op (K := 2) (by decide) (by decide) (SA i) (SB i) rs rs (sx_sum j8 (by decide) (by decide)) s1 s2
      by_cases k3 : o.K = 3
      · rw [if_neg k2, if_pos k3]
        exact Sz.op (K := 3) (by decide) (by decide) (SA i) (SB i) rs rs (sx_sum j8 (by decide) (by decide)) s1 s2
      · have k4 : o.K = 4 := by omega
        rw [if_neg k2, if_neg k3, if_pos k4]
        have p1 := Sz.op (K := 4) (by decide) (by decide) (SA i) IB rs rb (sx_mulL j8) t1 t2
        have p2 := Sz.op (K := 4) (by decide) (by decide) IA (SB i) rb rs (sx_mulR j8) t1 t2
        exact Sz.op (K := 2) (by decide) (by decide) p1 p2 (tx_rs j8) (tx_rs j8) (tx_sum j8) s1 s2

end Go.Proofs.Ytdlinjijccnaeaa

/-!  JhL / JhL1 / JhL2 / JhL3: several texts in one. -/
/-!  JacHolds: its run about its loops. -/
namespace Go.Proofs.Ytdlinjijccnaeaa
open Go
set_option linter.unusedVariables false
set_option linter.unusedSimpArgs false
set_option maxRecDepth 100000

noncomputable def askJ2 (g : FuncId) : Nat := if [1000060, 1000061, 1000068, 1000069, 1000072, 1000073, 1000082, 1000086, 1000088].contains g then 7 else askJh g
def stHo (lm lw : Nat) (r : Nat → RnJh) (i : Nat) : List Ans :=
  [yes true] ++ (if i < lm then [yes true, pAnsT (r i).pk, isI (r i).k] else [yes false]) ++ (if i < lw then [yes true, pAnsT (r i).pw, isI (r i).w] else [yes false]) ++
  [isI (r i).a7, isI (r i).s, vAns (.float .f64 (r i).fs), isI (r i).a4, vAns (.float .f64 (r i).f4), isI (r i).q, isI (r i).b4, vAns (.float .f64 (r i).g4)]
noncomputable def wiOh (z : Int) (n : Nat) (w : Int) : Obl := .run 13 #[.int .i64 z, .int .i64 (Int.ofNat n)] #[] (.int .i64 w) #[]
noncomputable def soHo (H : List (Option ABlk)) (N lm lw nm nw : Nat) (vb vc : Value) (r : Nat → RnJh) (i : Nat) : List Obl :=
  [cpO .lss (Int.ofNat i) (Int.ofNat N) true] ++ (if i < lm then [cpO .lss (Int.ofNat i) nm true, .ex (indexAddrV Try.prog 22 vb (.int .i64 (Int.ofNat i)) = some (.pointer (some (r i).pk))), .ex (readVar Try.prog H.toArray 3 (r i).pk = some (.int .i64 (r i).k))] else [cpO .lss (Int.ofNat i) nm false]) ++
  (if i < lw then [cpO .lss (Int.ofNat i) nw true, .ex (indexAddrV Try.prog 22 vc (.int .i64 (Int.ofNat i)) = some (.pointer (some (r i).pw))), .ex (readVar Try.prog H.toArray 3 (r i).pw = some (.int .i64 (r i).w))] else [cpO .lss (Int.ofNat i) nw false]) ++
  [wiOh (if i < lm then (r i).k else Int.ofNat i) 5 (r i).a7, arO .sub (r i).a7 2 (r i).s, cvO (r i).s (r i).fs, wiOh (if i < lw then (r i).w else 0) 3 (r i).a4, cvO (r i).a4 (r i).f4, arO .quo (if i < lw then (r i).w else 0) 3 (r i).q, wiOh (r i).q 3 (r i).b4, cvO (r i).b4 (r i).g4]
def tabAh (N : Nat) (R : Nat → Nat → Nat) : Ans := cAns (fun s => slV (s + N) N) (tabJ (s0J N) N R)
def tabAhI (N c : Nat) (R : Nat → Nat → P2) : Ans := cAns (fun s => slV (s + N) N) (tabJI c N R)
def sl8 (b N : Nat) : Value := slV b N
noncomputable def jhRun (N lm lw : Nat) (b1 b2 b3 : Option ABlk) (n : Int) (va : Value) (am aw : Option Addr) (nm cm nw cw M : Nat) (cu : Array Value) (O O' : Nat → OpD) (j j2 : Nat → Value) (r : Nat → RnJh) (T : TbJh) : Option (Value × AHeap × List Obl × List LpO) :=
  askT askJ2 cmJh 9 #[.int .i64 n, va, .slice am nm cm, .slice aw nw cw] #[b1, b2, b3]
    ([yes true, cAns (fun s => tpV s (s + 1) N M) [opsH M O, iB cu]] ++ (List.range N).flatMap (stHo lm lw r) ++ [yes false, tabAh N T.R, tabAhI N (s0J N + N + 1) T.RI, cAns (fun s => slV s N) [nwPj ((List.range N).map T.B)], tabAhI N (s0J N + 2 * N + 5) T.A])
    [some ⟨.exit 0, tmJh n va (.slice am nm cm) (.slice aw nw cw) M j, (hpH b1 b2 b3 N M cu O').toArray⟩, none, some ⟨.exit 4, tmJc N N j2, (hpJ4 b1 b2 b3 N M cu O' r T).toArray⟩]
/-- What the temporaries hold ahead of the last loop: as the run has it. -/
noncomputable def tm3 (N lm lw : Nat) (b1 b2 b3 : Option ABlk) (n : Int) (va : Value) (am aw : Option Addr) (nm cm nw cw M : Nat) (cu : Array Value) (O O' : Nat → OpD) (j : Nat → Value) (r : Nat → RnJh) (T : TbJh) : List Value :=
  match jhRun N lm lw b1 b2 b3 n va am aw nm cm nw cw M cu O O' j (fun _ => undef) r T with
  | some (_, _, _, [_, (_, tm, _)]) => tm
  | _ => []
noncomputable def lgJh (N lm lw : Nat) (b1 b2 b3 : Option ABlk) (n : Int) (va : Value) (am aw : Option Addr) (nm cm nw cw M : Nat) (cu : Array Value) (O O' : Nat → OpD) (r : Nat → RnJh) (T : TbJh) : List Obl :=
  [qtO 12 #[] (.bool true), rnO 17 #[.int .i64 n, va, .bool false] [b1, b2, b3] (tpV 3 4 N M) [opsH M O, iB cu]] ++
  (List.range N).flatMap (fun i => soHo (hpHo b1 b2 b3 N M cu O' r i) N lm lw nm nw (.slice am nm cm) (.slice aw nw cw) r i) ++
  [cpO .lss (Int.ofNat N) (Int.ofNat N) false,
    rnO 16 #[tpV 3 4 N M, slV (4 * N + 3) N] (hpHo b1 b2 b3 N M cu O' r N) (slV (s0J N + N) N) (tabJ (s0J N) N T.R),
    rnO 20 #[tpV 3 4 N M, slV (4 * N + 5) N] (hpJ1 b1 b2 b3 N M cu O' r T) (slV (s0J N + 2 * N + 1) N) (tabJI (s0J N + N + 1) N T.RI),
    rnO 28 #[tpV 3 4 N M, sl8 (s0J N + 2 * N + 2) N] (hpJ2 b1 b2 b3 N M cu O' r T) (slV (s0J N + 2 * N + 3) N) [nwPj ((List.range N).map T.B)],
    rnO 29 #[tpV 3 4 N M, sl8 (s0J N + 2 * N + 4) N] (hpJ3 b1 b2 b3 N M cu O' r T) (slV (s0J N + 3 * N + 5) N) (tabJI (s0J N + 2 * N + 5) N T.A)]
/-- What the temporaries hold ahead of the first loop. -/
def j0Jh (n : Int) (va vb vc : Value) (N M : Nat) (i : Nat) : Value := if i = 23 then .bool true else if i = 24 then .bool false else if i = 25 then .int .i64 n else if i = 26 then va else if i = 27 then tpV 3 4 N M else undef
def JhRun (N lm lw : Nat) : Prop := ∀ (b1 b2 b3 : Option ABlk) (n : Int) (va : Value) (am aw : Option Addr) (nm cm nw cw M : Nat) (cu : Array Value) (O O' : Nat → OpD) (j : Nat → Value) (r : Nat → RnJh) (T : TbJh),
  slJc (tm3 N lm lw b1 b2 b3 n va am aw nm cm nw cw M cu O O' j r T) = svJc N 0 ∧ ∀ j2 : Nat → Value,
  (jhRun N lm lw b1 b2 b3 n va am aw nm cm nw cw M cu O O' j j2 r T).map (fun x => (x.1, x.2.2.1, x.2.2.2)) =
    some (.bool true, lgJh N lm lw b1 b2 b3 n va am aw nm cm nw cw M cu O O' r T,
      [(bodyJh, tmJh n va (.slice am nm cm) (.slice aw nw cw) 0 (j0Jh n va (.slice am nm cm) (.slice aw nw cw) N M), (hpH b1 b2 b3 N M cu O).toArray, (.exit 0, tmJh n va (.slice am nm cm) (.slice aw nw cw) M j, (hpH b1 b2 b3 N M cu O').toArray)),
       (bodyJc, tm3 N lm lw b1 b2 b3 n va am aw nm cm nw cw M cu O O' j r T, (hpJ4 b1 b2 b3 N M cu O' r T).toArray, (.exit 4, tmJc N N j2, (hpJ4 b1 b2 b3 N M cu O' r T).toArray))])

end Go.Proofs.Ytdlinjijccnaeaa

/-!  JacHolds: its runs, of 1 variables. -/
namespace Go.Proofs.Ytdlinjijccnaeaa
open Go
set_option linter.unusedVariables false
set_option linter.unusedSimpArgs false
set_option maxRecDepth 100000

theorem jhRun_1_0_0 : JhRun 1 0 0 := fun _ _ _ _ _ _ _ _ _ _ _ _ _ _ _ _ _ _ => ⟨by kernel_rfl, fun _ => by kernel_rfl⟩
theorem jhRun_1_0_1 : JhRun 1 0 1 := fun _ _ _ _ _ _ _ _ _ _ _ _ _ _ _ _ _ _ => ⟨by kernel_rfl, fun _ => by kernel_rfl⟩
theorem jhRun_1_1_0 : JhRun 1 1 0 := fun _ _ _ _ _ _ _ _ _ _ _ _ _ _ _ _ _ _ => ⟨by kernel_rfl, fun _ => by kernel_rfl⟩
theorem jhRun_1_1_1 : JhRun 1 1 1 := fun _ _ _ _ _ _ _ _ _ _ _ _ _ _ _ _ _ _ => ⟨by kernel_rfl, fun _ => by kernel_rfl⟩
theorem jhA_1 : ∀ (lm lw : Nat), lm ≤ 1 → lw ≤ 1 → JhRun 1 lm lw
  | 0, 0, _, _ => jhRun_1_0_0
  | 0, 1, _, _ => jhRun_1_0_1
  | 1, 0, _, _ => jhRun_1_1_0
  | 1, 1, _, _ => jhRun_1_1_1
  | a + 2, _, h, _ => absurd h (by omega)
  | _, b + 2, _, h => absurd h (by omega)

end Go.Proofs.Ytdlinjijccnaeaa

/-!  JacHolds: its runs, of 2 variables. -/
namespace Go.Proofs.Ytdlinjijccnaeaa
open Go
set_option linter.unusedVariables false
set_option linter.unusedSimpArgs false
set_option maxRecDepth 100000

theorem jhRun_2_0_0 : JhRun 2 0 0 := fun _ _ _ _ _ _ _ _ _ _ _ _ _ _ _ _ _ _ => ⟨by kernel_rfl, fun _ => by kernel_rfl⟩
theorem jhRun_2_0_1 : JhRun 2 0 1 := fun _ _ _ _ _ _ _ _ _ _ _ _ _ _ _ _ _ _ => ⟨by kernel_rfl, fun _ => by kernel_rfl⟩
theorem jhRun_2_0_2 : JhRun 2 0 2 := fun _ _ _ _ _ _ _ _ _ _ _ _ _ _ _ _ _ _ => ⟨by kernel_rfl, fun _ => by kernel_rfl⟩
theorem jhRun_2_1_0 : JhRun 2 1 0 := fun _ _ _ _ _ _ _ _ _ _ _ _ _ _ _ _ _ _ => ⟨by kernel_rfl, fun _ => by kernel_rfl⟩
theorem jhRun_2_1_1 : JhRun 2 1 1 := fun _ _ _ _ _ _ _ _ _ _ _ _ _ _ _ _ _ _ => ⟨by kernel_rfl, fun _ => by kernel_rfl⟩
theorem jhRun_2_1_2 : JhRun 2 1 2 := fun _ _ _ _ _ _ _ _ _ _ _ _ _ _ _ _ _ _ => ⟨by kernel_rfl, fun _ => by kernel_rfl⟩
theorem jhRun_2_2_0 : JhRun 2 2 0 := fun _ _ _ _ _ _ _ _ _ _ _ _ _ _ _ _ _ _ => ⟨by kernel_rfl, fun _ => by kernel_rfl⟩
theorem jhRun_2_2_1 : JhRun 2 2 1 := fun _ _ _ _ _ _ _ _ _ _ _ _ _ _ _ _ _ _ => ⟨by kernel_rfl, fun _ => by kernel_rfl⟩
theorem jhRun_2_2_2 : JhRun 2 2 2 := fun _ _ _ _ _ _ _ _ _ _ _ _ _ _ _ _ _ _ => ⟨by kernel_rfl, fun _ => by kernel_rfl⟩
theorem jhA_2 : ∀ (lm lw : Nat), lm ≤ 2 → lw ≤ 2 → JhRun 2 lm lw
  | 0, 0, _, _ => jhRun_2_0_0
  | 0, 1, _, _ => jhRun_2_0_1
  | 0, 2, _, _ => jhRun_2_0_2
  | 1, 0, _, _ => jhRun_2_1_0
  | 1, 1, _, _ => jhRun_2_1_1
  | 1, 2, _, _ => jhRun_2_1_2
  | 2, 0, _, _ => jhRun_2_2_0
  | 2, 1, _, _ => jhRun_2_2_1
  | 2, 2, _, _ => jhRun_2_2_2
  | a + 3, _, h, _ => absurd h (by omega)
  | _, b + 3, _, h => absurd h (by omega)

end Go.Proofs.Ytdlinjijccnaeaa

/-!  JacHolds: its runs, of 3 variables. -/
namespace Go.Proofs.Ytdlinjijccnaeaa
open Go
set_option linter.unusedVariables false
set_option linter.unusedSimpArgs false
set_option maxRecDepth 100000

theorem jhRun_3_0_0 : JhRun 3 0 0 := fun _ _ _ _ _ _ _ _ _ _ _ _ _ _ _ _ _ _ => ⟨by kernel_rfl, fun _ => by kernel_rfl⟩
theorem jhRun_3_0_1 : JhRun 3 0 1 := fun _ _ _ _ _ _ _ _ _ _ _ _ _ _ _ _ _ _ => ⟨by kernel_rfl, fun _ => by kernel_rfl⟩
theorem jhRun_3_0_2 : JhRun 3 0 2 := fun _ _ _ _ _ _ _ _ _ _ _ _ _ _ _ _ _ _ => ⟨by kernel_rfl, fun _ => by kernel_rfl⟩
theorem jhRun_3_0_3 : JhRun 3 0 3 := fun _ _ _ _ _ _ _ _ _ _ _ _ _ _ _ _ _ _ => ⟨by kernel_rfl, fun _ => by kernel_rfl⟩
theorem jhRun_3_1_0 : JhRun 3 1 0 := fun _ _ _ _ _ _ _ _ _ _ _ _ _ _ _ _ _ _ => ⟨by kernel_rfl, fun _ => by kernel_rfl⟩
theorem jhRun_3_1_1 : JhRun 3 1 1 := fun _ _ _ _ _ _ _ _ _ _ _ _ _ _ _ _ _ _ => ⟨by kernel_rfl, fun _ => by kernel_rfl⟩
theorem jhRun_3_1_2 : JhRun 3 1 2 := fun _ _ _ _ _ _ _ _ _ _ _ _ _ _ _ _ _ _ => ⟨by kernel_rfl, fun _ => by kernel_rfl⟩
theorem jhRun_3_1_3 : JhRun 3 1 3 := fun _ _ _ _ _ _ _ _ _ _ _ _ _ _ _ _ _ _ => ⟨by kernel_rfl, fun _ => by kernel_rfl⟩
theorem jhRun_3_2_0 : JhRun 3 2 0 := fun _ _ _ _ _ _ _ _ _ _ _ _ _ _ _ _ _ _ => ⟨by kernel_rfl, fun _ => by kernel_rfl⟩
theorem jhRun_3_2_1 : JhRun 3 2 1 := fun _ _ _ _ _ _ _ _ _ _ _ _ _ _ _ _ _ _ => ⟨by kernel_rfl, fun _ => by kernel_rfl⟩
theorem jhRun_3_2_2 : JhRun 3 2 2 := fun _ _ _ _ _ _ _ _ _ _ _ _ _ _ _ _ _ _ => ⟨by kernel_rfl, fun _ => by kernel_rfl⟩
theorem jhRun_3_2_3 : JhRun 3 2 3 := fun _ _ _ _ _ _ _ _ _ _ _ _ _ _ _ _ _ _ => ⟨by kernel_rfl, fun _ => by kernel_rfl⟩
theorem jhRun_3_3_0 : JhRun 3 3 0 := fun _ _ _ _ _ _ _ _ _ _ _ _ _ _ _ _ _ _ => ⟨by kernel_rfl, fun _ => by kernel_rfl⟩
theorem jhRun_3_3_1 : JhRun 3 3 1 := fun _ _ _ _ _ _ _ _ _ _ _ _ _ _ _ _ _ _ => ⟨by kernel_rfl, fun _ => by kernel_rfl⟩
theorem jhRun_3_3_2 : JhRun 3 3 2 := fun _ _ _ _ _ _ _ _ _ _ _ _ _ _ _ _ _ _ => ⟨by kernel_rfl, fun _ => by kernel_rfl⟩
theorem jhRun_3_3_3 : JhRun 3 3 3 := fun _ _ _ _ _ _ _ _ _ _ _ _ _ _ _ _ _ _ => ⟨by kernel_rfl, fun _ => by kernel_rfl⟩
theorem jhA_3 : ∀ (lm lw : Nat), lm ≤ 3 → lw ≤ 3 → JhRun 3 lm lw
  | 0, 0, _, _ => jhRun_3_0_0
  | 0, 1, _, _ => jhRun_3_0_1
  | 0, 2, _, _ => jhRun_3_0_2
  | 0, 3, _, _ => jhRun_3_0_3
  | 1, 0, _, _ => jhRun_3_1_0
  | 1, 1, _, _ => jhRun_3_1_1
  | 1, 2, _, _ => jhRun_3_1_2
  | 1, 3, _, _ => jhRun_3_1_3
  | 2, 0, _, _ => jhRun_3_2_0
  | 2, 1, _, _ => jhRun_3_2_1
  | 2, 2, _, _ => jhRun_3_2_2
  | 2, 3, _, _ => jhRun_3_2_3
  | 3, 0, _, _ => jhRun_3_3_0
  | 3, 1, _, _ => jhRun_3_3_1
  | 3, 2, _, _ => jhRun_3_3_2
  | 3, 3, _, _ => jhRun_3_3_3
  | a + 4, _, h, _ => absurd h (by omega)
  | _, b + 4, _, h => absurd h (by omega)

end Go.Proofs.Ytdlinjijccnaeaa
