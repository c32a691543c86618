/- TapeHolds: its first loop, round by round. -/
import Derived.Test.YtpmdpbljgidllaaTpK
namespace Go.Proofs.Ytpmdpbljgidllaa
open Go
set_option linter.unusedVariables false
set_option linter.unusedSimpArgs false
set_option maxRecDepth 100000

noncomputable def askHo (g : FuncId) : Nat := if [12, 14, 17, 25, 20, 32, 33, 29].contains g then 1 else 0
def cmH : BinOp → Value → Value → Bool
  | .lss, .int _ _, _ => true
  | .lss, .float _ _, _ => true
  | .eql, .int _ _, _ => true
  | _, _, _ => false
noncomputable def bodyH : Code := bodyAt Try.prog 10 0
def tmH (n : Int) (va vb vc : Value) (i : Nat) (j : Nat → Value) : List Value := (List.range 144).map fun s =>
  if s = 0 then .int .i64 n else if s = 1 then va else if s = 2 then vb else if s = 3 then vc else if s = 8 then .bool false else if s = 9 then .pointer (some ⟨5, 0, none⟩) else if s = 10 then .int .i64 i else j s
def opsH (M : Nat) (O : Nat → OpD) : Option ABlk := opB ((List.range M).flatMap fun i => opC (O i)).toArray
def hpH (b1 b2 b3 : Option ABlk) (N M : Nat) (cu : Array Value) (O : Nat → OpD) : List (Option ABlk) := [b1, b2, b3, opsH M O, iB cu, tcB 3 N M]
def flH (e : Bool) (f : Nat) (o : OpD) : OpD := if e then ⟨o.K, o.A, o.B, f⟩ else o
def slH (tm : List Value) : Nat × List Value := (tm.length, [getT tm 0, getT tm 1, getT tm 2, getT tm 3, getT tm 8, getT tm 9, getT tm 10])
/-- A round: the k-th operation is a constant, or none. -/
def RdH (M k : Nat) (e : Bool) : Prop := ∀ (b1 b2 b3 : Option ABlk) (n : Int) (va vb vc : Value) (N : Nat) (cu : Array Value) (O : Nat → OpD) (j : Nat → Value) (f : Nat),
  (rndT askHo cmH bodyH (tmH n va vb vc k j) (hpH b1 b2 b3 N M cu O).toArray ([yes true, yes e] ++ (if e then [vAns (.float .f64 f)] else [])) []).map (fun r => (r.1, (slH r.2.1, r.2.2.1), r.2.2.2)) =
  some (.normal, ((144, [.int .i64 n, va, vb, vc, .bool false, .pointer (some ⟨5, 0, none⟩), .int .i64 (Int.ofNat (k + 1))]), (hpH b1 b2 b3 N M cu (fun i => if i = k then flH e f (O k) else O i)).toArray),
    [cpO .lss (Int.ofNat k) (Int.ofNat M) true, cpO .eql (O k).K 0 e] ++ (if e then [qtO 32 #[.float .f64 (O k).C] (.float .f64 f)] else []), [])
def RdHEnd (M : Nat) : Prop := ∀ (b1 b2 b3 : Option ABlk) (n : Int) (va vb vc : Value) (N : Nat) (cu : Array Value) (O : Nat → OpD) (j : Nat → Value),
  (rndT askHo cmH bodyH (tmH n va vb vc M j) (hpH b1 b2 b3 N M cu O).toArray [yes false] []).map (fun r => (r.1, (slH r.2.1, r.2.2.1), r.2.2.2)) =
  some (.exit 0, ((144, [.int .i64 n, va, vb, vc, .bool false, .pointer (some ⟨5, 0, none⟩), .int .i64 (Int.ofNat M)]), (hpH b1 b2 b3 N M cu O).toArray), [cpO .lss (Int.ofNat M) (Int.ofNat M) false], [])
theorem rdH_2_0_f : RdH 2 0 false := fun _ _ _ _ _ _ _ _ _ _ _ _ => by kernel_rfl
theorem rdH_2_0_t : RdH 2 0 true := fun _ _ _ _ _ _ _ _ _ _ _ _ => by kernel_rfl
theorem rdH_2_1_f : RdH 2 1 false := fun _ _ _ _ _ _ _ _ _ _ _ _ => by kernel_rfl
theorem rdH_2_1_t : RdH 2 1 true := fun _ _ _ _ _ _ _ _ _ _ _ _ => by kernel_rfl
theorem rdHEnd_2 : RdHEnd 2 := fun _ _ _ _ _ _ _ _ _ _ _ => by kernel_rfl
theorem rdH_3_0_f : RdH 3 0 false := fun _ _ _ _ _ _ _ _ _ _ _ _ => by kernel_rfl
theorem rdH_3_0_t : RdH 3 0 true := fun _ _ _ _ _ _ _ _ _ _ _ _ => by kernel_rfl
theorem rdH_3_1_f : RdH 3 1 false := fun _ _ _ _ _ _ _ _ _ _ _ _ => by kernel_rfl
theorem rdH_3_1_t : RdH 3 1 true := fun _ _ _ _ _ _ _ _ _ _ _ _ => by kernel_rfl
theorem rdH_3_2_f : RdH 3 2 false := fun _ _ _ _ _ _ _ _ _ _ _ _ => by kernel_rfl
theorem rdH_3_2_t : RdH 3 2 true := fun _ _ _ _ _ _ _ _ _ _ _ _ => by kernel_rfl
theorem rdHEnd_3 : RdHEnd 3 := fun _ _ _ _ _ _ _ _ _ _ _ => by kernel_rfl
theorem rdH_4_0_f : RdH 4 0 false := fun _ _ _ _ _ _ _ _ _ _ _ _ => by kernel_rfl
theorem rdH_4_0_t : RdH 4 0 true := fun _ _ _ _ _ _ _ _ _ _ _ _ => by kernel_rfl
theorem rdH_4_1_f : RdH 4 1 false := fun _ _ _ _ _ _ _ _ _ _ _ _ => by kernel_rfl
theorem rdH_4_1_t : RdH 4 1 true := fun _ _ _ _ _ _ _ _ _ _ _ _ => by kernel_rfl
theorem rdH_4_2_f : RdH 4 2 false := fun _ _ _ _ _ _ _ _ _ _ _ _ => by kernel_rfl
theorem rdH_4_2_t : RdH 4 2 true := fun _ _ _ _ _ _ _ _ _ _ _ _ => by kernel_rfl
theorem rdH_4_3_f : RdH 4 3 false := fun _ _ _ _ _ _ _ _ _ _ _ _ => by kernel_rfl
theorem rdH_4_3_t : RdH 4 3 true := fun _ _ _ _ _ _ _ _ _ _ _ _ => by kernel_rfl
theorem rdHEnd_4 : RdHEnd 4 := fun _ _ _ _ _ _ _ _ _ _ _ => by kernel_rfl
theorem rdH_5_0_f : RdH 5 0 false := fun _ _ _ _ _ _ _ _ _ _ _ _ => by kernel_rfl
theorem rdH_5_0_t : RdH 5 0 true := fun _ _ _ _ _ _ _ _ _ _ _ _ => by kernel_rfl
theorem rdH_5_1_f : RdH 5 1 false := fun _ _ _ _ _ _ _ _ _ _ _ _ => by kernel_rfl
theorem rdH_5_1_t : RdH 5 1 true := fun _ _ _ _ _ _ _ _ _ _ _ _ => by kernel_rfl
theorem rdH_5_2_f : RdH 5 2 false := fun _ _ _ _ _ _ _ _ _ _ _ _ => by kernel_rfl
theorem rdH_5_2_t : RdH 5 2 true := fun _ _ _ _ _ _ _ _ _ _ _ _ => by kernel_rfl
theorem rdH_5_3_f : RdH 5 3 false := fun _ _ _ _ _ _ _ _ _ _ _ _ => by kernel_rfl
theorem rdH_5_3_t : RdH 5 3 true := fun _ _ _ _ _ _ _ _ _ _ _ _ => by kernel_rfl
theorem rdH_5_4_f : RdH 5 4 false := fun _ _ _ _ _ _ _ _ _ _ _ _ => by kernel_rfl
theorem rdH_5_4_t : RdH 5 4 true := fun _ _ _ _ _ _ _ _ _ _ _ _ => by kernel_rfl
theorem rdHEnd_5 : RdHEnd 5 := fun _ _ _ _ _ _ _ _ _ _ _ => by kernel_rfl
theorem rdH_6_0_f : RdH 6 0 false := fun _ _ _ _ _ _ _ _ _ _ _ _ => by kernel_rfl
theorem rdH_6_0_t : RdH 6 0 true := fun _ _ _ _ _ _ _ _ _ _ _ _ => by kernel_rfl
theorem rdH_6_1_f : RdH 6 1 false := fun _ _ _ _ _ _ _ _ _ _ _ _ => by kernel_rfl
theorem rdH_6_1_t : RdH 6 1 true := fun _ _ _ _ _ _ _ _ _ _ _ _ => by kernel_rfl
theorem rdH_6_2_f : RdH 6 2 false := fun _ _ _ _ _ _ _ _ _ _ _ _ => by kernel_rfl
theorem rdH_6_2_t : RdH 6 2 true := fun _ _ _ _ _ _ _ _ _ _ _ _ => by kernel_rfl
theorem rdH_6_3_f : RdH 6 3 false := fun _ _ _ _ _ _ _ _ _ _ _ _ => by kernel_rfl
theorem rdH_6_3_t : RdH 6 3 true := fun _ _ _ _ _ _ _ _ _ _ _ _ => by kernel_rfl
theorem rdH_6_4_f : RdH 6 4 false := fun _ _ _ _ _ _ _ _ _ _ _ _ => by kernel_rfl
theorem rdH_6_4_t : RdH 6 4 true := fun _ _ _ _ _ _ _ _ _ _ _ _ => by kernel_rfl
theorem rdH_6_5_f : RdH 6 5 false := fun _ _ _ _ _ _ _ _ _ _ _ _ => by kernel_rfl
theorem rdH_6_5_t : RdH 6 5 true := fun _ _ _ _ _ _ _ _ _ _ _ _ => by kernel_rfl
theorem rdHEnd_6 : RdHEnd 6 := fun _ _ _ _ _ _ _ _ _ _ _ => by kernel_rfl
theorem rdH_7_0_f : RdH 7 0 false := fun _ _ _ _ _ _ _ _ _ _ _ _ => by kernel_rfl
theorem rdH_7_0_t : RdH 7 0 true := fun _ _ _ _ _ _ _ _ _ _ _ _ => by kernel_rfl
theorem rdH_7_1_f : RdH 7 1 false := fun _ _ _ _ _ _ _ _ _ _ _ _ => by kernel_rfl
theorem rdH_7_1_t : RdH 7 1 true := fun _ _ _ _ _ _ _ _ _ _ _ _ => by kernel_rfl
theorem rdH_7_2_f : RdH 7 2 false := fun _ _ _ _ _ _ _ _ _ _ _ _ => by kernel_rfl
theorem rdH_7_2_t : RdH 7 2 true := fun _ _ _ _ _ _ _ _ _ _ _ _ => by kernel_rfl
theorem rdH_7_3_f : RdH 7 3 false := fun _ _ _ _ _ _ _ _ _ _ _ _ => by kernel_rfl
theorem rdH_7_3_t : RdH 7 3 true := fun _ _ _ _ _ _ _ _ _ _ _ _ => by kernel_rfl
theorem rdH_7_4_f : RdH 7 4 false := fun _ _ _ _ _ _ _ _ _ _ _ _ => by kernel_rfl
theorem rdH_7_4_t : RdH 7 4 true := fun _ _ _ _ _ _ _ _ _ _ _ _ => by kernel_rfl
theorem rdH_7_5_f : RdH 7 5 false := fun _ _ _ _ _ _ _ _ _ _ _ _ => by kernel_rfl
theorem rdH_7_5_t : RdH 7 5 true := fun _ _ _ _ _ _ _ _ _ _ _ _ => by kernel_rfl
theorem rdH_7_6_f : RdH 7 6 false := fun _ _ _ _ _ _ _ _ _ _ _ _ => by kernel_rfl
theorem rdH_7_6_t : RdH 7 6 true := fun _ _ _ _ _ _ _ _ _ _ _ _ => by kernel_rfl
theorem rdHEnd_7 : RdHEnd 7 := fun _ _ _ _ _ _ _ _ _ _ _ => by kernel_rfl
theorem rdH_8_0_f : RdH 8 0 false := fun _ _ _ _ _ _ _ _ _ _ _ _ => by kernel_rfl
theorem rdH_8_0_t : RdH 8 0 true := fun _ _ _ _ _ _ _ _ _ _ _ _ => by kernel_rfl
theorem rdH_8_1_f : RdH 8 1 false := fun _ _ _ _ _ _ _ _ _ _ _ _ => by kernel_rfl
theorem rdH_8_1_t : RdH 8 1 true := fun _ _ _ _ _ _ _ _ _ _ _ _ => by kernel_rfl
theorem rdH_8_2_f : RdH 8 2 false := fun _ _ _ _ _ _ _ _ _ _ _ _ => by kernel_rfl
theorem rdH_8_2_t : RdH 8 2 true := fun _ _ _ _ _ _ _ _ _ _ _ _ => by kernel_rfl
theorem rdH_8_3_f : RdH 8 3 false := fun _ _ _ _ _ _ _ _ _ _ _ _ => by kernel_rfl
theorem rdH_8_3_t : RdH 8 3 true := fun _ _ _ _ _ _ _ _ _ _ _ _ => by kernel_rfl
theorem rdH_8_4_f : RdH 8 4 false := fun _ _ _ _ _ _ _ _ _ _ _ _ => by kernel_rfl
theorem rdH_8_4_t : RdH 8 4 true := fun _ _ _ _ _ _ _ _ _ _ _ _ => by kernel_rfl
theorem rdH_8_5_f : RdH 8 5 false := fun _ _ _ _ _ _ _ _ _ _ _ _ => by kernel_rfl
theorem rdH_8_5_t : RdH 8 5 true := fun _ _ _ _ _ _ _ _ _ _ _ _ => by kernel_rfl
theorem rdH_8_6_f : RdH 8 6 false := fun _ _ _ _ _ _ _ _ _ _ _ _ => by kernel_rfl
theorem rdH_8_6_t : RdH 8 6 true := fun _ _ _ _ _ _ _ _ _ _ _ _ => by kernel_rfl
theorem rdH_8_7_f : RdH 8 7 false := fun _ _ _ _ _ _ _ _ _ _ _ _ => by kernel_rfl
theorem rdH_8_7_t : RdH 8 7 true := fun _ _ _ _ _ _ _ _ _ _ _ _ => by kernel_rfl
theorem rdHEnd_8 : RdHEnd 8 := fun _ _ _ _ _ _ _ _ _ _ _ => by kernel_rfl
theorem rdH_9_0_f : RdH 9 0 false := fun _ _ _ _ _ _ _ _ _ _ _ _ => by kernel_rfl
theorem rdH_9_0_t : RdH 9 0 true := fun _ _ _ _ _ _ _ _ _ _ _ _ => by kernel_rfl
theorem rdH_9_1_f : RdH 9 1 false := fun _ _ _ _ _ _ _ _ _ _ _ _ => by kernel_rfl
theorem rdH_9_1_t : RdH 9 1 true := fun _ _ _ _ _ _ _ _ _ _ _ _ => by kernel_rfl
theorem rdH_9_2_f : RdH 9 2 false := fun _ _ _ _ _ _ _ _ _ _ _ _ => by kernel_rfl
theorem rdH_9_2_t : RdH 9 2 true := fun _ _ _ _ _ _ _ _ _ _ _ _ => by kernel_rfl
theorem rdH_9_3_f : RdH 9 3 false := fun _ _ _ _ _ _ _ _ _ _ _ _ => by kernel_rfl
theorem rdH_9_3_t : RdH 9 3 true := fun _ _ _ _ _ _ _ _ _ _ _ _ => by kernel_rfl
theorem rdH_9_4_f : RdH 9 4 false := fun _ _ _ _ _ _ _ _ _ _ _ _ => by kernel_rfl
theorem rdH_9_4_t : RdH 9 4 true := fun _ _ _ _ _ _ _ _ _ _ _ _ => by kernel_rfl
theorem rdH_9_5_f : RdH 9 5 false := fun _ _ _ _ _ _ _ _ _ _ _ _ => by kernel_rfl
theorem rdH_9_5_t : RdH 9 5 true := fun _ _ _ _ _ _ _ _ _ _ _ _ => by kernel_rfl
theorem rdH_9_6_f : RdH 9 6 false := fun _ _ _ _ _ _ _ _ _ _ _ _ => by kernel_rfl
theorem rdH_9_6_t : RdH 9 6 true := fun _ _ _ _ _ _ _ _ _ _ _ _ => by kernel_rfl
theorem rdH_9_7_f : RdH 9 7 false := fun _ _ _ _ _ _ _ _ _ _ _ _ => by kernel_rfl
theorem rdH_9_7_t : RdH 9 7 true := fun _ _ _ _ _ _ _ _ _ _ _ _ => by kernel_rfl
theorem rdH_9_8_f : RdH 9 8 false := fun _ _ _ _ _ _ _ _ _ _ _ _ => by kernel_rfl
theorem rdH_9_8_t : RdH 9 8 true := fun _ _ _ _ _ _ _ _ _ _ _ _ => by kernel_rfl
theorem rdHEnd_9 : RdHEnd 9 := fun _ _ _ _ _ _ _ _ _ _ _ => by kernel_rfl
theorem rdH_10_0_f : RdH 10 0 false := fun _ _ _ _ _ _ _ _ _ _ _ _ => by kernel_rfl
theorem rdH_10_0_t : RdH 10 0 true := fun _ _ _ _ _ _ _ _ _ _ _ _ => by kernel_rfl
theorem rdH_10_1_f : RdH 10 1 false := fun _ _ _ _ _ _ _ _ _ _ _ _ => by kernel_rfl
theorem rdH_10_1_t : RdH 10 1 true := fun _ _ _ _ _ _ _ _ _ _ _ _ => by kernel_rfl
theorem rdH_10_2_f : RdH 10 2 false := fun _ _ _ _ _ _ _ _ _ _ _ _ => by kernel_rfl
theorem rdH_10_2_t : RdH 10 2 true := fun _ _ _ _ _ _ _ _ _ _ _ _ => by kernel_rfl
theorem rdH_10_3_f : RdH 10 3 false := fun _ _ _ _ _ _ _ _ _ _ _ _ => by kernel_rfl
theorem rdH_10_3_t : RdH 10 3 true := fun _ _ _ _ _ _ _ _ _ _ _ _ => by kernel_rfl
theorem rdH_10_4_f : RdH 10 4 false := fun _ _ _ _ _ _ _ _ _ _ _ _ => by kernel_rfl
theorem rdH_10_4_t : RdH 10 4 true := fun _ _ _ _ _ _ _ _ _ _ _ _ => by kernel_rfl
theorem rdH_10_5_f : RdH 10 5 false := fun _ _ _ _ _ _ _ _ _ _ _ _ => by kernel_rfl
theorem rdH_10_5_t : RdH 10 5 true := fun _ _ _ _ _ _ _ _ _ _ _ _ => by kernel_rfl
theorem rdH_10_6_f : RdH 10 6 false := fun _ _ _ _ _ _ _ _ _ _ _ _ => by kernel_rfl
theorem rdH_10_6_t : RdH 10 6 true := fun _ _ _ _ _ _ _ _ _ _ _ _ => by kernel_rfl
theorem rdH_10_7_f : RdH 10 7 false := fun _ _ _ _ _ _ _ _ _ _ _ _ => by kernel_rfl
theorem rdH_10_7_t : RdH 10 7 true := fun _ _ _ _ _ _ _ _ _ _ _ _ => by kernel_rfl
theorem rdH_10_8_f : RdH 10 8 false := fun _ _ _ _ _ _ _ _ _ _ _ _ => by kernel_rfl
theorem rdH_10_8_t : RdH 10 8 true := fun _ _ _ _ _ _ _ _ _ _ _ _ => by kernel_rfl
theorem rdH_10_9_f : RdH 10 9 false := fun _ _ _ _ _ _ _ _ _ _ _ _ => by kernel_rfl
theorem rdH_10_9_t : RdH 10 9 true := fun _ _ _ _ _ _ _ _ _ _ _ _ => by kernel_rfl
theorem rdHEnd_10 : RdHEnd 10 := fun _ _ _ _ _ _ _ _ _ _ _ => by kernel_rfl
theorem rdH_11_0_f : RdH 11 0 false := fun _ _ _ _ _ _ _ _ _ _ _ _ => by kernel_rfl
theorem rdH_11_0_t : RdH 11 0 true := fun _ _ _ _ _ _ _ _ _ _ _ _ => by kernel_rfl
theorem rdH_11_1_f : RdH 11 1 false := fun _ _ _ _ _ _ _ _ _ _ _ _ => by kernel_rfl
theorem rdH_11_1_t : RdH 11 1 true := fun _ _ _ _ _ _ _ _ _ _ _ _ => by kernel_rfl
theorem rdH_11_2_f : RdH 11 2 false := fun _ _ _ _ _ _ _ _ _ _ _ _ => by kernel_rfl
theorem rdH_11_2_t : RdH 11 2 true := fun _ _ _ _ _ _ _ _ _ _ _ _ => by kernel_rfl
theorem rdH_11_3_f : RdH 11 3 false := fun _ _ _ _ _ _ _ _ _ _ _ _ => by kernel_rfl
theorem rdH_11_3_t : RdH 11 3 true := fun _ _ _ _ _ _ _ _ _ _ _ _ => by kernel_rfl
theorem rdH_11_4_f : RdH 11 4 false := fun _ _ _ _ _ _ _ _ _ _ _ _ => by kernel_rfl
theorem rdH_11_4_t : RdH 11 4 true := fun _ _ _ _ _ _ _ _ _ _ _ _ => by kernel_rfl
theorem rdH_11_5_f : RdH 11 5 false := fun _ _ _ _ _ _ _ _ _ _ _ _ => by kernel_rfl
theorem rdH_11_5_t : RdH 11 5 true := fun _ _ _ _ _ _ _ _ _ _ _ _ => by kernel_rfl
theorem rdH_11_6_f : RdH 11 6 false := fun _ _ _ _ _ _ _ _ _ _ _ _ => by kernel_rfl
theorem rdH_11_6_t : RdH 11 6 true := fun _ _ _ _ _ _ _ _ _ _ _ _ => by kernel_rfl
theorem rdH_11_7_f : RdH 11 7 false := fun _ _ _ _ _ _ _ _ _ _ _ _ => by kernel_rfl
theorem rdH_11_7_t : RdH 11 7 true := fun _ _ _ _ _ _ _ _ _ _ _ _ => by kernel_rfl
theorem rdH_11_8_f : RdH 11 8 false := fun _ _ _ _ _ _ _ _ _ _ _ _ => by kernel_rfl
theorem rdH_11_8_t : RdH 11 8 true := fun _ _ _ _ _ _ _ _ _ _ _ _ => by kernel_rfl
theorem rdH_11_9_f : RdH 11 9 false := fun _ _ _ _ _ _ _ _ _ _ _ _ => by kernel_rfl
theorem rdH_11_9_t : RdH 11 9 true := fun _ _ _ _ _ _ _ _ _ _ _ _ => by kernel_rfl
theorem rdH_11_10_f : RdH 11 10 false := fun _ _ _ _ _ _ _ _ _ _ _ _ => by kernel_rfl
theorem rdH_11_10_t : RdH 11 10 true := fun _ _ _ _ _ _ _ _ _ _ _ _ => by kernel_rfl
theorem rdHEnd_11 : RdHEnd 11 := fun _ _ _ _ _ _ _ _ _ _ _ => by kernel_rfl
theorem rdH_12_0_f : RdH 12 0 false := fun _ _ _ _ _ _ _ _ _ _ _ _ => by kernel_rfl
theorem rdH_12_0_t : RdH 12 0 true := fun _ _ _ _ _ _ _ _ _ _ _ _ => by kernel_rfl
theorem rdH_12_1_f : RdH 12 1 false := fun _ _ _ _ _ _ _ _ _ _ _ _ => by kernel_rfl
theorem rdH_12_1_t : RdH 12 1 true := fun _ _ _ _ _ _ _ _ _ _ _ _ => by kernel_rfl
theorem rdH_12_2_f : RdH 12 2 false := fun _ _ _ _ _ _ _ _ _ _ _ _ => by kernel_rfl
theorem rdH_12_2_t : RdH 12 2 true := fun _ _ _ _ _ _ _ _ _ _ _ _ => by kernel_rfl
theorem rdH_12_3_f : RdH 12 3 false := fun _ _ _ _ _ _ _ _ _ _ _ _ => by kernel_rfl
theorem rdH_12_3_t : RdH 12 3 true := fun _ _ _ _ _ _ _ _ _ _ _ _ => by kernel_rfl
theorem rdH_12_4_f : RdH 12 4 false := fun _ _ _ _ _ _ _ _ _ _ _ _ => by kernel_rfl
theorem rdH_12_4_t : RdH 12 4 true := fun _ _ _ _ _ _ _ _ _ _ _ _ => by kernel_rfl
theorem rdH_12_5_f : RdH 12 5 false := fun _ _ _ _ _ _ _ _ _ _ _ _ => by kernel_rfl
theorem rdH_12_5_t : RdH 12 5 true := fun _ _ _ _ _ _ _ _ _ _ _ _ => by kernel_rfl
theorem rdH_12_6_f : RdH 12 6 false := fun _ _ _ _ _ _ _ _ _ _ _ _ => by kernel_rfl
theorem rdH_12_6_t : RdH 12 6 true := fun _ _ _ _ _ _ _ _ _ _ _ _ => by kernel_rfl
theorem rdH_12_7_f : RdH 12 7 false := fun _ _ _ _ _ _ _ _ _ _ _ _ => by kernel_rfl
theorem rdH_12_7_t : RdH 12 7 true := fun _ _ _ _ _ _ _ _ _ _ _ _ => by kernel_rfl
theorem rdH_12_8_f : RdH 12 8 false := fun _ _ _ _ _ _ _ _ _ _ _ _ => by kernel_rfl
theorem rdH_12_8_t : RdH 12 8 true := fun _ _ _ _ _ _ _ _ _ _ _ _ => by kernel_rfl
theorem rdH_12_9_f : RdH 12 9 false := fun _ _ _ _ _ _ _ _ _ _ _ _ => by kernel_rfl
theorem rdH_12_9_t : RdH 12 9 true := fun _ _ _ _ _ _ _ _ _ _ _ _ => by kernel_rfl
theorem rdH_12_10_f : RdH 12 10 false := fun _ _ _ _ _ _ _ _ _ _ _ _ => by kernel_rfl
theorem rdH_12_10_t : RdH 12 10 true := fun _ _ _ _ _ _ _ _ _ _ _ _ => by kernel_rfl
theorem rdH_12_11_f : RdH 12 11 false := fun _ _ _ _ _ _ _ _ _ _ _ _ => by kernel_rfl
theorem rdH_12_11_t : RdH 12 11 true := fun _ _ _ _ _ _ _ _ _ _ _ _ => by kernel_rfl
theorem rdHEnd_12 : RdHEnd 12 := fun _ _ _ _ _ _ _ _ _ _ _ => by kernel_rfl

end Go.Proofs.Ytpmdpbljgidllaa
