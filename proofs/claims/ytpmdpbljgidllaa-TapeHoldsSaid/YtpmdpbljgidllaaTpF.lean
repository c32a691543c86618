/- tape.Eval: the run about its rounds, at each number of variables, of operations. -/
import Derived.Test.YtpmdpbljgidllaaTpE
namespace Go.Proofs.Ytpmdpbljgidllaa
open Go
set_option linter.unusedVariables false
set_option linter.unusedSimpArgs false
set_option maxRecDepth 100000

def outBt (N i : Nat) (f : Nat → Nat) : Option ABlk := some ⟨((List.range N).flatMap fun n => fC (if n < i then f n else 0)).toArray, 30, 1, true⟩
noncomputable def lgO (H : List (Option ABlk)) (rv : Value) (N : Nat) (u : Nat → Int) (p : Nat → Addr) (f : Nat → Nat) : List Obl :=
  ((List.range N).flatMap fun i => [.cmp .lss 3 (.int .i64 (Int.ofNat i)) (.int .i64 (Int.ofNat N)) true, .ex (readVar Try.prog (H ++ [outBt N i f]).toArray 3 ⟨1, i, none⟩ = some (.int .i64 (u i))),
    .ex (indexAddrV Try.prog 35 rv (.int .i64 (u i)) = some (.pointer (some (p i)))), .ex (readVar Try.prog (H ++ [outBt N i f]).toArray 30 (p i) = some (.float .f64 (f i)))]) ++ [.cmp .lss 3 (.int .i64 (Int.ofNat N)) (.int .i64 (Int.ofNat N)) false]
def kindV : Value := .agg #[.func (.func 64) #[] #[], .func (.func 65) #[] #[], .func (.func 66) #[] #[], .func (.func 67) #[] #[], .func (.func 68) #[] #[]]
def j0E (N M : Nat) (i : Nat) : Value := if i = 0 then kindV else if i = 1 then tpV 0 1 N M else if i = 6 then .slice none 0 0 else if i = 12 then .pointer (some ⟨5, 1, none⟩) else undef
def FinE (N M : Nat) : Prop := ∀ (b0 b1 b2 b3 : Option ABlk) (x : Value) (F : Nat → Nat) (g : Nat → Option ABlk) (j : Nat → Value) (u : Nat → Int) (p : Nat → Addr) (f : Nat → Nat),
  (askT askTe lssC 48 #[kindV, tpV 0 1 N M, x] #[b0, b1, b2, b3] (((List.range N).flatMap fun i => [yes true, vAns (.int .i64 (u i)), pAnsT (p i), vAns (.float .f64 (f i))]) ++ [yes false])
    [some ⟨.exit 0, tmE x (rvE M) M M j, (hpE [b0, b1, b2, b3] N M M F g).toArray⟩, none]) =
  some (.slice (some ⟨6 + 3 * M, 0, none⟩) N N, (hpE [b0, b1, b2, b3] N M M F g ++ [outBt N N f]).toArray, lgO (hpE [b0, b1, b2, b3] N M M F g) (rvE M) N u p f,
    [(bodyE, tmE x (rvE 0) M 0 (j0E N M), (hpE [b0, b1, b2, b3] N M 0 F g).toArray, (.exit 0, tmE x (rvE M) M M j, (hpE [b0, b1, b2, b3] N M M F g).toArray))])
def RdEnd (k : Nat) : Prop := ∀ (b0 b1 b2 b3 : Option ABlk) (N M : Nat) (x : Value) (F : Nat → Nat) (g : Nat → Option ABlk) (j : Nat → Value),
  (rndT askTe lssC bodyE (tmE x (rvE k) M k j) (hpE [b0, b1, b2, b3] N M k F g).toArray [yes false] []).map (fun r => (r.1, ((r.2.1.length, [getT r.2.1 2, getT r.2.1 3, getT r.2.1 4, getT r.2.1 7, getT r.2.1 13, getT r.2.1 14, getT r.2.1 15]), r.2.2.1), r.2.2.2)) =
  some (.exit 0, ((135, [x, .pointer (some ⟨4, 0, none⟩), .pointer (some ⟨5, 0, none⟩), rvE k, .slice (some ⟨0, 0, none⟩) M M, .int .i64 M, .int .i64 (Int.ofNat k)]), (hpE [b0, b1, b2, b3] N M k F g).toArray), [.cmp .lss 3 (.int .i64 k) (.int .i64 M) false], [])
theorem rdEnd_2 : RdEnd 2 := fun _ _ _ _ _ _ _ _ _ _ => by kernel_rfl
theorem rdEnd_3 : RdEnd 3 := fun _ _ _ _ _ _ _ _ _ _ => by kernel_rfl
theorem rdEnd_4 : RdEnd 4 := fun _ _ _ _ _ _ _ _ _ _ => by kernel_rfl
theorem rdEnd_5 : RdEnd 5 := fun _ _ _ _ _ _ _ _ _ _ => by kernel_rfl
theorem rdEnd_6 : RdEnd 6 := fun _ _ _ _ _ _ _ _ _ _ => by kernel_rfl
theorem rdEnd_7 : RdEnd 7 := fun _ _ _ _ _ _ _ _ _ _ => by kernel_rfl
theorem rdEnd_8 : RdEnd 8 := fun _ _ _ _ _ _ _ _ _ _ => by kernel_rfl
theorem rdEnd_9 : RdEnd 9 := fun _ _ _ _ _ _ _ _ _ _ => by kernel_rfl
theorem rdEnd_10 : RdEnd 10 := fun _ _ _ _ _ _ _ _ _ _ => by kernel_rfl
theorem rdEnd_11 : RdEnd 11 := fun _ _ _ _ _ _ _ _ _ _ => by kernel_rfl
theorem rdEnd_12 : RdEnd 12 := fun _ _ _ _ _ _ _ _ _ _ => by kernel_rfl
theorem rdEnd_13 : RdEnd 13 := fun _ _ _ _ _ _ _ _ _ _ => by kernel_rfl
theorem rdEnd_14 : RdEnd 14 := fun _ _ _ _ _ _ _ _ _ _ => by kernel_rfl
theorem rdEnd_15 : RdEnd 15 := fun _ _ _ _ _ _ _ _ _ _ => by kernel_rfl
theorem rdEnd_16 : RdEnd 16 := fun _ _ _ _ _ _ _ _ _ _ => by kernel_rfl
theorem rdEnd_17 : RdEnd 17 := fun _ _ _ _ _ _ _ _ _ _ => by kernel_rfl
theorem rdEnd_18 : RdEnd 18 := fun _ _ _ _ _ _ _ _ _ _ => by kernel_rfl
theorem rdEnd_19 : RdEnd 19 := fun _ _ _ _ _ _ _ _ _ _ => by kernel_rfl
theorem rdEnd_20 : RdEnd 20 := fun _ _ _ _ _ _ _ _ _ _ => by kernel_rfl
theorem finE_1_2 : FinE 1 2 := fun _ _ _ _ _ _ _ _ _ _ _ => by kernel_rfl
theorem finE_1_3 : FinE 1 3 := fun _ _ _ _ _ _ _ _ _ _ _ => by kernel_rfl
theorem finE_1_4 : FinE 1 4 := fun _ _ _ _ _ _ _ _ _ _ _ => by kernel_rfl
theorem finE_1_5 : FinE 1 5 := fun _ _ _ _ _ _ _ _ _ _ _ => by kernel_rfl
theorem finE_1_6 : FinE 1 6 := fun _ _ _ _ _ _ _ _ _ _ _ => by kernel_rfl
theorem finE_1_7 : FinE 1 7 := fun _ _ _ _ _ _ _ _ _ _ _ => by kernel_rfl
theorem finE_1_8 : FinE 1 8 := fun _ _ _ _ _ _ _ _ _ _ _ => by kernel_rfl
theorem finE_1_9 : FinE 1 9 := fun _ _ _ _ _ _ _ _ _ _ _ => by kernel_rfl
theorem finE_1_10 : FinE 1 10 := fun _ _ _ _ _ _ _ _ _ _ _ => by kernel_rfl
theorem finE_1_11 : FinE 1 11 := fun _ _ _ _ _ _ _ _ _ _ _ => by kernel_rfl
theorem finE_1_12 : FinE 1 12 := fun _ _ _ _ _ _ _ _ _ _ _ => by kernel_rfl
theorem finE_1_13 : FinE 1 13 := fun _ _ _ _ _ _ _ _ _ _ _ => by kernel_rfl
theorem finE_1_14 : FinE 1 14 := fun _ _ _ _ _ _ _ _ _ _ _ => by kernel_rfl
theorem finE_1_15 : FinE 1 15 := fun _ _ _ _ _ _ _ _ _ _ _ => by kernel_rfl
theorem finE_1_16 : FinE 1 16 := fun _ _ _ _ _ _ _ _ _ _ _ => by kernel_rfl
theorem finE_1_17 : FinE 1 17 := fun _ _ _ _ _ _ _ _ _ _ _ => by kernel_rfl
theorem finE_1_18 : FinE 1 18 := fun _ _ _ _ _ _ _ _ _ _ _ => by kernel_rfl
theorem finE_1_19 : FinE 1 19 := fun _ _ _ _ _ _ _ _ _ _ _ => by kernel_rfl
theorem finE_1_20 : FinE 1 20 := fun _ _ _ _ _ _ _ _ _ _ _ => by kernel_rfl
theorem finE_2_2 : FinE 2 2 := fun _ _ _ _ _ _ _ _ _ _ _ => by kernel_rfl
theorem finE_2_3 : FinE 2 3 := fun _ _ _ _ _ _ _ _ _ _ _ => by kernel_rfl
theorem finE_2_4 : FinE 2 4 := fun _ _ _ _ _ _ _ _ _ _ _ => by kernel_rfl
theorem finE_2_5 : FinE 2 5 := fun _ _ _ _ _ _ _ _ _ _ _ => by kernel_rfl
theorem finE_2_6 : FinE 2 6 := fun _ _ _ _ _ _ _ _ _ _ _ => by kernel_rfl
theorem finE_2_7 : FinE 2 7 := fun _ _ _ _ _ _ _ _ _ _ _ => by kernel_rfl
theorem finE_2_8 : FinE 2 8 := fun _ _ _ _ _ _ _ _ _ _ _ => by kernel_rfl
theorem finE_2_9 : FinE 2 9 := fun _ _ _ _ _ _ _ _ _ _ _ => by kernel_rfl
theorem finE_2_10 : FinE 2 10 := fun _ _ _ _ _ _ _ _ _ _ _ => by kernel_rfl
theorem finE_2_11 : FinE 2 11 := fun _ _ _ _ _ _ _ _ _ _ _ => by kernel_rfl
theorem finE_2_12 : FinE 2 12 := fun _ _ _ _ _ _ _ _ _ _ _ => by kernel_rfl
theorem finE_2_13 : FinE 2 13 := fun _ _ _ _ _ _ _ _ _ _ _ => by kernel_rfl
theorem finE_2_14 : FinE 2 14 := fun _ _ _ _ _ _ _ _ _ _ _ => by kernel_rfl
theorem finE_2_15 : FinE 2 15 := fun _ _ _ _ _ _ _ _ _ _ _ => by kernel_rfl
theorem finE_2_16 : FinE 2 16 := fun _ _ _ _ _ _ _ _ _ _ _ => by kernel_rfl
theorem finE_2_17 : FinE 2 17 := fun _ _ _ _ _ _ _ _ _ _ _ => by kernel_rfl
theorem finE_2_18 : FinE 2 18 := fun _ _ _ _ _ _ _ _ _ _ _ => by kernel_rfl
theorem finE_2_19 : FinE 2 19 := fun _ _ _ _ _ _ _ _ _ _ _ => by kernel_rfl
theorem finE_2_20 : FinE 2 20 := fun _ _ _ _ _ _ _ _ _ _ _ => by kernel_rfl
theorem finE_3_2 : FinE 3 2 := fun _ _ _ _ _ _ _ _ _ _ _ => by kernel_rfl
theorem finE_3_3 : FinE 3 3 := fun _ _ _ _ _ _ _ _ _ _ _ => by kernel_rfl
theorem finE_3_4 : FinE 3 4 := fun _ _ _ _ _ _ _ _ _ _ _ => by kernel_rfl
theorem finE_3_5 : FinE 3 5 := fun _ _ _ _ _ _ _ _ _ _ _ => by kernel_rfl
theorem finE_3_6 : FinE 3 6 := fun _ _ _ _ _ _ _ _ _ _ _ => by kernel_rfl
theorem finE_3_7 : FinE 3 7 := fun _ _ _ _ _ _ _ _ _ _ _ => by kernel_rfl
theorem finE_3_8 : FinE 3 8 := fun _ _ _ _ _ _ _ _ _ _ _ => by kernel_rfl
theorem finE_3_9 : FinE 3 9 := fun _ _ _ _ _ _ _ _ _ _ _ => by kernel_rfl
theorem finE_3_10 : FinE 3 10 := fun _ _ _ _ _ _ _ _ _ _ _ => by kernel_rfl
theorem finE_3_11 : FinE 3 11 := fun _ _ _ _ _ _ _ _ _ _ _ => by kernel_rfl
theorem finE_3_12 : FinE 3 12 := fun _ _ _ _ _ _ _ _ _ _ _ => by kernel_rfl
theorem finE_3_13 : FinE 3 13 := fun _ _ _ _ _ _ _ _ _ _ _ => by kernel_rfl
theorem finE_3_14 : FinE 3 14 := fun _ _ _ _ _ _ _ _ _ _ _ => by kernel_rfl
theorem finE_3_15 : FinE 3 15 := fun _ _ _ _ _ _ _ _ _ _ _ => by kernel_rfl
theorem finE_3_16 : FinE 3 16 := fun _ _ _ _ _ _ _ _ _ _ _ => by kernel_rfl
theorem finE_3_17 : FinE 3 17 := fun _ _ _ _ _ _ _ _ _ _ _ => by kernel_rfl
theorem finE_3_18 : FinE 3 18 := fun _ _ _ _ _ _ _ _ _ _ _ => by kernel_rfl
theorem finE_3_19 : FinE 3 19 := fun _ _ _ _ _ _ _ _ _ _ _ => by kernel_rfl
theorem finE_3_20 : FinE 3 20 := fun _ _ _ _ _ _ _ _ _ _ _ => by kernel_rfl

theorem rdCon : ∀ k, k < 21 → RdCon k
  | 0, _ => rdCon_0
  | 1, _ => rdCon_1
  | 2, _ => rdCon_2
  | 3, _ => rdCon_3
  | 4, _ => rdCon_4
  | 5, _ => rdCon_5
  | 6, _ => rdCon_6
  | 7, _ => rdCon_7
  | 8, _ => rdCon_8
  | 9, _ => rdCon_9
  | 10, _ => rdCon_10
  | 11, _ => rdCon_11
  | 12, _ => rdCon_12
  | 13, _ => rdCon_13
  | 14, _ => rdCon_14
  | 15, _ => rdCon_15
  | 16, _ => rdCon_16
  | 17, _ => rdCon_17
  | 18, _ => rdCon_18
  | 19, _ => rdCon_19
  | 20, _ => rdCon_20
  | n + 21, h => absurd h (by omega)
theorem rdVar : ∀ k, k < 21 → RdVar k
  | 0, _ => rdVar_0
  | 1, _ => rdVar_1
  | 2, _ => rdVar_2
  | 3, _ => rdVar_3
  | 4, _ => rdVar_4
  | 5, _ => rdVar_5
  | 6, _ => rdVar_6
  | 7, _ => rdVar_7
  | 8, _ => rdVar_8
  | 9, _ => rdVar_9
  | 10, _ => rdVar_10
  | 11, _ => rdVar_11
  | 12, _ => rdVar_12
  | 13, _ => rdVar_13
  | 14, _ => rdVar_14
  | 15, _ => rdVar_15
  | 16, _ => rdVar_16
  | 17, _ => rdVar_17
  | 18, _ => rdVar_18
  | 19, _ => rdVar_19
  | 20, _ => rdVar_20
  | n + 21, h => absurd h (by omega)
theorem rdEnd : ∀ k, 2 ≤ k → k < 21 → RdEnd k
  | 0, h, _ => absurd h (by omega)
  | 1, h, _ => absurd h (by omega)
  | 2, _, _ => rdEnd_2
  | 3, _, _ => rdEnd_3
  | 4, _, _ => rdEnd_4
  | 5, _, _ => rdEnd_5
  | 6, _, _ => rdEnd_6
  | 7, _, _ => rdEnd_7
  | 8, _, _ => rdEnd_8
  | 9, _, _ => rdEnd_9
  | 10, _, _ => rdEnd_10
  | 11, _, _ => rdEnd_11
  | 12, _, _ => rdEnd_12
  | 13, _, _ => rdEnd_13
  | 14, _, _ => rdEnd_14
  | 15, _, _ => rdEnd_15
  | 16, _, _ => rdEnd_16
  | 17, _, _ => rdEnd_17
  | 18, _, _ => rdEnd_18
  | 19, _, _ => rdEnd_19
  | 20, _, _ => rdEnd_20
  | n + 21, _, h => absurd h (by omega)
theorem rdBinA_2 : ∀ k, 1 ≤ k → k < 21 → RdBin k 2
  | 0, h, _ => absurd h (by omega)
  | 1, _, _ => rdBin_1_2
  | 2, _, _ => rdBin_2_2
  | 3, _, _ => rdBin_3_2
  | 4, _, _ => rdBin_4_2
  | 5, _, _ => rdBin_5_2
  | 6, _, _ => rdBin_6_2
  | 7, _, _ => rdBin_7_2
  | 8, _, _ => rdBin_8_2
  | 9, _, _ => rdBin_9_2
  | 10, _, _ => rdBin_10_2
  | 11, _, _ => rdBin_11_2
  | 12, _, _ => rdBin_12_2
  | 13, _, _ => rdBin_13_2
  | 14, _, _ => rdBin_14_2
  | 15, _, _ => rdBin_15_2
  | 16, _, _ => rdBin_16_2
  | 17, _, _ => rdBin_17_2
  | 18, _, _ => rdBin_18_2
  | 19, _, _ => rdBin_19_2
  | 20, _, _ => rdBin_20_2
  | n + 21, _, h => absurd h (by omega)
theorem rdBinA_3 : ∀ k, 1 ≤ k → k < 21 → RdBin k 3
  | 0, h, _ => absurd h (by omega)
  | 1, _, _ => rdBin_1_3
  | 2, _, _ => rdBin_2_3
  | 3, _, _ => rdBin_3_3
  | 4, _, _ => rdBin_4_3
  | 5, _, _ => rdBin_5_3
  | 6, _, _ => rdBin_6_3
  | 7, _, _ => rdBin_7_3
  | 8, _, _ => rdBin_8_3
  | 9, _, _ => rdBin_9_3
  | 10, _, _ => rdBin_10_3
  | 11, _, _ => rdBin_11_3
  | 12, _, _ => rdBin_12_3
  | 13, _, _ => rdBin_13_3
  | 14, _, _ => rdBin_14_3
  | 15, _, _ => rdBin_15_3
  | 16, _, _ => rdBin_16_3
  | 17, _, _ => rdBin_17_3
  | 18, _, _ => rdBin_18_3
  | 19, _, _ => rdBin_19_3
  | 20, _, _ => rdBin_20_3
  | n + 21, _, h => absurd h (by omega)
theorem rdBinA_4 : ∀ k, 1 ≤ k → k < 21 → RdBin k 4
  | 0, h, _ => absurd h (by omega)
  | 1, _, _ => rdBin_1_4
  | 2, _, _ => rdBin_2_4
  | 3, _, _ => rdBin_3_4
  | 4, _, _ => rdBin_4_4
  | 5, _, _ => rdBin_5_4
  | 6, _, _ => rdBin_6_4
  | 7, _, _ => rdBin_7_4
  | 8, _, _ => rdBin_8_4
  | 9, _, _ => rdBin_9_4
  | 10, _, _ => rdBin_10_4
  | 11, _, _ => rdBin_11_4
  | 12, _, _ => rdBin_12_4
  | 13, _, _ => rdBin_13_4
  | 14, _, _ => rdBin_14_4
  | 15, _, _ => rdBin_15_4
  | 16, _, _ => rdBin_16_4
  | 17, _, _ => rdBin_17_4
  | 18, _, _ => rdBin_18_4
  | 19, _, _ => rdBin_19_4
  | 20, _, _ => rdBin_20_4
  | n + 21, _, h => absurd h (by omega)
theorem rdBinA_5 : ∀ k, 1 ≤ k → k < 21 → RdBin k 5
  | 0, h, _ => absurd h (by omega)
  | 1, _, _ => rdBin_1_5
  | 2, _, _ => rdBin_2_5
  | 3, _, _ => rdBin_3_5
  | 4, _, _ => rdBin_4_5
  | 5, _, _ => rdBin_5_5
  | 6, _, _ => rdBin_6_5
  | 7, _, _ => rdBin_7_5
  | 8, _, _ => rdBin_8_5
  | 9, _, _ => rdBin_9_5
  | 10, _, _ => rdBin_10_5
  | 11, _, _ => rdBin_11_5
  | 12, _, _ => rdBin_12_5
  | 13, _, _ => rdBin_13_5
  | 14, _, _ => rdBin_14_5
  | 15, _, _ => rdBin_15_5
  | 16, _, _ => rdBin_16_5
  | 17, _, _ => rdBin_17_5
  | 18, _, _ => rdBin_18_5
  | 19, _, _ => rdBin_19_5
  | 20, _, _ => rdBin_20_5
  | n + 21, _, h => absurd h (by omega)
theorem rdBin (k : Nat) (K : Int) (h1 : 1 ≤ k) (h2 : k < 21) (h3 : 2 ≤ K) (h4 : K ≤ 5) : RdBin k K := by
  have : K = 2 ∨ K = 3 ∨ K = 4 ∨ K = 5 := by omega
  rcases this with rfl | rfl | rfl | rfl
  · exact rdBinA_2 k h1 h2
  · exact rdBinA_3 k h1 h2
  · exact rdBinA_4 k h1 h2
  · exact rdBinA_5 k h1 h2
theorem finEA_1 : ∀ m, 2 ≤ m → m < 21 → FinE 1 m
  | 0, h, _ => absurd h (by omega)
  | 1, h, _ => absurd h (by omega)
  | 2, _, _ => finE_1_2
  | 3, _, _ => finE_1_3
  | 4, _, _ => finE_1_4
  | 5, _, _ => finE_1_5
  | 6, _, _ => finE_1_6
  | 7, _, _ => finE_1_7
  | 8, _, _ => finE_1_8
  | 9, _, _ => finE_1_9
  | 10, _, _ => finE_1_10
  | 11, _, _ => finE_1_11
  | 12, _, _ => finE_1_12
  | 13, _, _ => finE_1_13
  | 14, _, _ => finE_1_14
  | 15, _, _ => finE_1_15
  | 16, _, _ => finE_1_16
  | 17, _, _ => finE_1_17
  | 18, _, _ => finE_1_18
  | 19, _, _ => finE_1_19
  | 20, _, _ => finE_1_20
  | m + 21, _, h => absurd h (by omega)
theorem finEA_2 : ∀ m, 2 ≤ m → m < 21 → FinE 2 m
  | 0, h, _ => absurd h (by omega)
  | 1, h, _ => absurd h (by omega)
  | 2, _, _ => finE_2_2
  | 3, _, _ => finE_2_3
  | 4, _, _ => finE_2_4
  | 5, _, _ => finE_2_5
  | 6, _, _ => finE_2_6
  | 7, _, _ => finE_2_7
  | 8, _, _ => finE_2_8
  | 9, _, _ => finE_2_9
  | 10, _, _ => finE_2_10
  | 11, _, _ => finE_2_11
  | 12, _, _ => finE_2_12
  | 13, _, _ => finE_2_13
  | 14, _, _ => finE_2_14
  | 15, _, _ => finE_2_15
  | 16, _, _ => finE_2_16
  | 17, _, _ => finE_2_17
  | 18, _, _ => finE_2_18
  | 19, _, _ => finE_2_19
  | 20, _, _ => finE_2_20
  | m + 21, _, h => absurd h (by omega)
theorem finEA_3 : ∀ m, 2 ≤ m → m < 21 → FinE 3 m
  | 0, h, _ => absurd h (by omega)
  | 1, h, _ => absurd h (by omega)
  | 2, _, _ => finE_3_2
  | 3, _, _ => finE_3_3
  | 4, _, _ => finE_3_4
  | 5, _, _ => finE_3_5
  | 6, _, _ => finE_3_6
  | 7, _, _ => finE_3_7
  | 8, _, _ => finE_3_8
  | 9, _, _ => finE_3_9
  | 10, _, _ => finE_3_10
  | 11, _, _ => finE_3_11
  | 12, _, _ => finE_3_12
  | 13, _, _ => finE_3_13
  | 14, _, _ => finE_3_14
  | 15, _, _ => finE_3_15
  | 16, _, _ => finE_3_16
  | 17, _, _ => finE_3_17
  | 18, _, _ => finE_3_18
  | 19, _, _ => finE_3_19
  | 20, _, _ => finE_3_20
  | m + 21, _, h => absurd h (by omega)
theorem finE (n m : Nat) (h1 : 1 ≤ n) (h2 : n ≤ 3) (h3 : 2 ≤ m) (h4 : m < 21) : FinE n m := by
  have : n = 1 ∨ n = 2 ∨ n = 3 := by omega
  rcases this with rfl | rfl | rfl
  · exact finEA_1 m h3 h4
  · exact finEA_2 m h3 h4
  · exact finEA_3 m h3 h4

end Go.Proofs.Ytpmdpbljgidllaa
