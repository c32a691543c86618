/- The document's Eval: the run about its rounds. -/
import Derived.Test.YtpmdpbljgidllaaTpRf
namespace Go.Proofs.Ytpmdpbljgidllaa
open Go
set_option linter.unusedVariables false
set_option linter.unusedSimpArgs false
set_option maxRecDepth 100000

noncomputable def lgORf (H : List (Option ABlk)) (M N : Nat) (u : Nat → Int) (p : Nat → Addr) (f : Nat → Nat) : List Obl :=
  ((List.range N).flatMap fun i => [.cmp .lss 3 (.int .i64 (Int.ofNat i)) (.int .i64 (Int.ofNat N)) true, .ex (readVar Try.prog (H ++ grRf i f).toArray 3 ⟨1, i, none⟩ = some (.int .i64 (u i))),
    .ex (indexAddrV Try.prog 35 (.slice (some ⟨4, 0, none⟩) M M) (.int .i64 (u i)) = some (.pointer (some (p i)))), .ex (readVar Try.prog (H ++ grRf i f).toArray 30 (p i) = some (.float .f64 (f i)))]) ++ [.cmp .lss 3 (.int .i64 (Int.ofNat N)) (.int .i64 (Int.ofNat N)) false]
def j0Rf (N M : Nat) (i : Nat) : Value := if i = 0 then tpV 0 1 N M else if i = 10 then .pointer (some ⟨3, 1, none⟩) else if i = 11 then .slice (some ⟨0, 0, none⟩) M M else if i = 12 then .int .i64 M else if i = 13 then .slice (some ⟨4, 0, none⟩) M M else undef
def FinRf (N M : Nat) : Prop := ∀ (b0 b1 b2 : Option ABlk) (x : Value) (rb0 rb : Option ABlk) (g : Nat → Option ABlk) (j : Nat → Value) (u : Nat → Int) (p : Nat → Addr) (f : Nat → Nat),
  askT askRf lssC 35 #[tpV 0 1 N M, x] #[b0, b1, b2] (mAnsT (.slice (some ⟨4, 0, none⟩) M M) [b0, b1, b2, tbE N M, rb0] :: (((List.range N).flatMap fun i => [yes true, vAns (.int .i64 (u i)), pAnsT (p i), vAns (.float .f64 (f i))]) ++ [yes false]))
    [some ⟨.exit 0, tmRf x M M j, (hpR b0 b1 b2 N M rb M g).toArray⟩, none] =
  some (.slice (some ⟨5 + M + (2 * N - 1), 0, none⟩) N N, (hpR b0 b1 b2 N M rb M g ++ grRf N f).toArray,
    .ex (makeSliceV Try.prog #[b0, b1, b2, tbE N M] 35 (.int .i64 M) (.int .i64 M) = some (.slice (some ⟨4, 0, none⟩) M M, #[b0, b1, b2, tbE N M, rb0])) :: lgORf (hpR b0 b1 b2 N M rb M g) M N u p f,
    [(bodyRf, tmRf x M 0 (j0Rf N M), (hpR b0 b1 b2 N M rb0 0 g).toArray, (.exit 0, tmRf x M M j, (hpR b0 b1 b2 N M rb M g).toArray))])
theorem finRf_1_2 : FinRf 1 2 := fun _ _ _ _ _ _ _ _ _ _ _ => by kernel_rfl
theorem finRf_1_3 : FinRf 1 3 := fun _ _ _ _ _ _ _ _ _ _ _ => by kernel_rfl
theorem finRf_1_4 : FinRf 1 4 := fun _ _ _ _ _ _ _ _ _ _ _ => by kernel_rfl
theorem finRf_1_5 : FinRf 1 5 := fun _ _ _ _ _ _ _ _ _ _ _ => by kernel_rfl
theorem finRf_1_6 : FinRf 1 6 := fun _ _ _ _ _ _ _ _ _ _ _ => by kernel_rfl
theorem finRf_1_7 : FinRf 1 7 := fun _ _ _ _ _ _ _ _ _ _ _ => by kernel_rfl
theorem finRf_1_8 : FinRf 1 8 := fun _ _ _ _ _ _ _ _ _ _ _ => by kernel_rfl
theorem finRf_1_9 : FinRf 1 9 := fun _ _ _ _ _ _ _ _ _ _ _ => by kernel_rfl
theorem finRf_1_10 : FinRf 1 10 := fun _ _ _ _ _ _ _ _ _ _ _ => by kernel_rfl
theorem finRf_1_11 : FinRf 1 11 := fun _ _ _ _ _ _ _ _ _ _ _ => by kernel_rfl
theorem finRf_1_12 : FinRf 1 12 := fun _ _ _ _ _ _ _ _ _ _ _ => by kernel_rfl
theorem finRf_1_13 : FinRf 1 13 := fun _ _ _ _ _ _ _ _ _ _ _ => by kernel_rfl
theorem finRf_1_14 : FinRf 1 14 := fun _ _ _ _ _ _ _ _ _ _ _ => by kernel_rfl
theorem finRf_1_15 : FinRf 1 15 := fun _ _ _ _ _ _ _ _ _ _ _ => by kernel_rfl
theorem finRf_1_16 : FinRf 1 16 := fun _ _ _ _ _ _ _ _ _ _ _ => by kernel_rfl
theorem finRf_1_17 : FinRf 1 17 := fun _ _ _ _ _ _ _ _ _ _ _ => by kernel_rfl
theorem finRf_1_18 : FinRf 1 18 := fun _ _ _ _ _ _ _ _ _ _ _ => by kernel_rfl
theorem finRf_1_19 : FinRf 1 19 := fun _ _ _ _ _ _ _ _ _ _ _ => by kernel_rfl
theorem finRf_1_20 : FinRf 1 20 := fun _ _ _ _ _ _ _ _ _ _ _ => by kernel_rfl
theorem finRf_2_2 : FinRf 2 2 := fun _ _ _ _ _ _ _ _ _ _ _ => by kernel_rfl
theorem finRf_2_3 : FinRf 2 3 := fun _ _ _ _ _ _ _ _ _ _ _ => by kernel_rfl
theorem finRf_2_4 : FinRf 2 4 := fun _ _ _ _ _ _ _ _ _ _ _ => by kernel_rfl
theorem finRf_2_5 : FinRf 2 5 := fun _ _ _ _ _ _ _ _ _ _ _ => by kernel_rfl
theorem finRf_2_6 : FinRf 2 6 := fun _ _ _ _ _ _ _ _ _ _ _ => by kernel_rfl
theorem finRf_2_7 : FinRf 2 7 := fun _ _ _ _ _ _ _ _ _ _ _ => by kernel_rfl
theorem finRf_2_8 : FinRf 2 8 := fun _ _ _ _ _ _ _ _ _ _ _ => by kernel_rfl
theorem finRf_2_9 : FinRf 2 9 := fun _ _ _ _ _ _ _ _ _ _ _ => by kernel_rfl
theorem finRf_2_10 : FinRf 2 10 := fun _ _ _ _ _ _ _ _ _ _ _ => by kernel_rfl
theorem finRf_2_11 : FinRf 2 11 := fun _ _ _ _ _ _ _ _ _ _ _ => by kernel_rfl
theorem finRf_2_12 : FinRf 2 12 := fun _ _ _ _ _ _ _ _ _ _ _ => by kernel_rfl
theorem finRf_2_13 : FinRf 2 13 := fun _ _ _ _ _ _ _ _ _ _ _ => by kernel_rfl
theorem finRf_2_14 : FinRf 2 14 := fun _ _ _ _ _ _ _ _ _ _ _ => by kernel_rfl
theorem finRf_2_15 : FinRf 2 15 := fun _ _ _ _ _ _ _ _ _ _ _ => by kernel_rfl
theorem finRf_2_16 : FinRf 2 16 := fun _ _ _ _ _ _ _ _ _ _ _ => by kernel_rfl
theorem finRf_2_17 : FinRf 2 17 := fun _ _ _ _ _ _ _ _ _ _ _ => by kernel_rfl
theorem finRf_2_18 : FinRf 2 18 := fun _ _ _ _ _ _ _ _ _ _ _ => by kernel_rfl
theorem finRf_2_19 : FinRf 2 19 := fun _ _ _ _ _ _ _ _ _ _ _ => by kernel_rfl
theorem finRf_2_20 : FinRf 2 20 := fun _ _ _ _ _ _ _ _ _ _ _ => by kernel_rfl
theorem finRf_3_2 : FinRf 3 2 := fun _ _ _ _ _ _ _ _ _ _ _ => by kernel_rfl
theorem finRf_3_3 : FinRf 3 3 := fun _ _ _ _ _ _ _ _ _ _ _ => by kernel_rfl
theorem finRf_3_4 : FinRf 3 4 := fun _ _ _ _ _ _ _ _ _ _ _ => by kernel_rfl
theorem finRf_3_5 : FinRf 3 5 := fun _ _ _ _ _ _ _ _ _ _ _ => by kernel_rfl
theorem finRf_3_6 : FinRf 3 6 := fun _ _ _ _ _ _ _ _ _ _ _ => by kernel_rfl
theorem finRf_3_7 : FinRf 3 7 := fun _ _ _ _ _ _ _ _ _ _ _ => by kernel_rfl
theorem finRf_3_8 : FinRf 3 8 := fun _ _ _ _ _ _ _ _ _ _ _ => by kernel_rfl
theorem finRf_3_9 : FinRf 3 9 := fun _ _ _ _ _ _ _ _ _ _ _ => by kernel_rfl
theorem finRf_3_10 : FinRf 3 10 := fun _ _ _ _ _ _ _ _ _ _ _ => by kernel_rfl
theorem finRf_3_11 : FinRf 3 11 := fun _ _ _ _ _ _ _ _ _ _ _ => by kernel_rfl
theorem finRf_3_12 : FinRf 3 12 := fun _ _ _ _ _ _ _ _ _ _ _ => by kernel_rfl
theorem finRf_3_13 : FinRf 3 13 := fun _ _ _ _ _ _ _ _ _ _ _ => by kernel_rfl
theorem finRf_3_14 : FinRf 3 14 := fun _ _ _ _ _ _ _ _ _ _ _ => by kernel_rfl
theorem finRf_3_15 : FinRf 3 15 := fun _ _ _ _ _ _ _ _ _ _ _ => by kernel_rfl
theorem finRf_3_16 : FinRf 3 16 := fun _ _ _ _ _ _ _ _ _ _ _ => by kernel_rfl
theorem finRf_3_17 : FinRf 3 17 := fun _ _ _ _ _ _ _ _ _ _ _ => by kernel_rfl
theorem finRf_3_18 : FinRf 3 18 := fun _ _ _ _ _ _ _ _ _ _ _ => by kernel_rfl
theorem finRf_3_19 : FinRf 3 19 := fun _ _ _ _ _ _ _ _ _ _ _ => by kernel_rfl
theorem finRf_3_20 : FinRf 3 20 := fun _ _ _ _ _ _ _ _ _ _ _ => by kernel_rfl

theorem rdConRf : ∀ k, k < 21 → RdConRf k
  | 0, _ => rdConRf_0
  | 1, _ => rdConRf_1
  | 2, _ => rdConRf_2
  | 3, _ => rdConRf_3
  | 4, _ => rdConRf_4
  | 5, _ => rdConRf_5
  | 6, _ => rdConRf_6
  | 7, _ => rdConRf_7
  | 8, _ => rdConRf_8
  | 9, _ => rdConRf_9
  | 10, _ => rdConRf_10
  | 11, _ => rdConRf_11
  | 12, _ => rdConRf_12
  | 13, _ => rdConRf_13
  | 14, _ => rdConRf_14
  | 15, _ => rdConRf_15
  | 16, _ => rdConRf_16
  | 17, _ => rdConRf_17
  | 18, _ => rdConRf_18
  | 19, _ => rdConRf_19
  | 20, _ => rdConRf_20
  | n + 21, h => absurd h (by omega)
theorem rdVarRf : ∀ k, k < 21 → RdVarRf k
  | 0, _ => rdVarRf_0
  | 1, _ => rdVarRf_1
  | 2, _ => rdVarRf_2
  | 3, _ => rdVarRf_3
  | 4, _ => rdVarRf_4
  | 5, _ => rdVarRf_5
  | 6, _ => rdVarRf_6
  | 7, _ => rdVarRf_7
  | 8, _ => rdVarRf_8
  | 9, _ => rdVarRf_9
  | 10, _ => rdVarRf_10
  | 11, _ => rdVarRf_11
  | 12, _ => rdVarRf_12
  | 13, _ => rdVarRf_13
  | 14, _ => rdVarRf_14
  | 15, _ => rdVarRf_15
  | 16, _ => rdVarRf_16
  | 17, _ => rdVarRf_17
  | 18, _ => rdVarRf_18
  | 19, _ => rdVarRf_19
  | 20, _ => rdVarRf_20
  | n + 21, h => absurd h (by omega)
theorem rdEndRf : ∀ k, 2 ≤ k → k < 21 → RdEndRf k
  | 0, h, _ => absurd h (by omega)
  | 1, h, _ => absurd h (by omega)
  | 2, _, _ => rdEndRf_2
  | 3, _, _ => rdEndRf_3
  | 4, _, _ => rdEndRf_4
  | 5, _, _ => rdEndRf_5
  | 6, _, _ => rdEndRf_6
  | 7, _, _ => rdEndRf_7
  | 8, _, _ => rdEndRf_8
  | 9, _, _ => rdEndRf_9
  | 10, _, _ => rdEndRf_10
  | 11, _, _ => rdEndRf_11
  | 12, _, _ => rdEndRf_12
  | 13, _, _ => rdEndRf_13
  | 14, _, _ => rdEndRf_14
  | 15, _, _ => rdEndRf_15
  | 16, _, _ => rdEndRf_16
  | 17, _, _ => rdEndRf_17
  | 18, _, _ => rdEndRf_18
  | 19, _, _ => rdEndRf_19
  | 20, _, _ => rdEndRf_20
  | n + 21, _, h => absurd h (by omega)
theorem rdBinRfA_2 : ∀ k, 1 ≤ k → k < 21 → RdBinRf k 2
  | 0, h, _ => absurd h (by omega)
  | 1, _, _ => rdBinRf_1_2
  | 2, _, _ => rdBinRf_2_2
  | 3, _, _ => rdBinRf_3_2
  | 4, _, _ => rdBinRf_4_2
  | 5, _, _ => rdBinRf_5_2
  | 6, _, _ => rdBinRf_6_2
  | 7, _, _ => rdBinRf_7_2
  | 8, _, _ => rdBinRf_8_2
  | 9, _, _ => rdBinRf_9_2
  | 10, _, _ => rdBinRf_10_2
  | 11, _, _ => rdBinRf_11_2
  | 12, _, _ => rdBinRf_12_2
  | 13, _, _ => rdBinRf_13_2
  | 14, _, _ => rdBinRf_14_2
  | 15, _, _ => rdBinRf_15_2
  | 16, _, _ => rdBinRf_16_2
  | 17, _, _ => rdBinRf_17_2
  | 18, _, _ => rdBinRf_18_2
  | 19, _, _ => rdBinRf_19_2
  | 20, _, _ => rdBinRf_20_2
  | n + 21, _, h => absurd h (by omega)
theorem rdBinRfA_3 : ∀ k, 1 ≤ k → k < 21 → RdBinRf k 3
  | 0, h, _ => absurd h (by omega)
  | 1, _, _ => rdBinRf_1_3
  | 2, _, _ => rdBinRf_2_3
  | 3, _, _ => rdBinRf_3_3
  | 4, _, _ => rdBinRf_4_3
  | 5, _, _ => rdBinRf_5_3
  | 6, _, _ => rdBinRf_6_3
  | 7, _, _ => rdBinRf_7_3
  | 8, _, _ => rdBinRf_8_3
  | 9, _, _ => rdBinRf_9_3
  | 10, _, _ => rdBinRf_10_3
  | 11, _, _ => rdBinRf_11_3
  | 12, _, _ => rdBinRf_12_3
  | 13, _, _ => rdBinRf_13_3
  | 14, _, _ => rdBinRf_14_3
  | 15, _, _ => rdBinRf_15_3
  | 16, _, _ => rdBinRf_16_3
  | 17, _, _ => rdBinRf_17_3
  | 18, _, _ => rdBinRf_18_3
  | 19, _, _ => rdBinRf_19_3
  | 20, _, _ => rdBinRf_20_3
  | n + 21, _, h => absurd h (by omega)
theorem rdBinRfA_4 : ∀ k, 1 ≤ k → k < 21 → RdBinRf k 4
  | 0, h, _ => absurd h (by omega)
  | 1, _, _ => rdBinRf_1_4
  | 2, _, _ => rdBinRf_2_4
  | 3, _, _ => rdBinRf_3_4
  | 4, _, _ => rdBinRf_4_4
  | 5, _, _ => rdBinRf_5_4
  | 6, _, _ => rdBinRf_6_4
  | 7, _, _ => rdBinRf_7_4
  | 8, _, _ => rdBinRf_8_4
  | 9, _, _ => rdBinRf_9_4
  | 10, _, _ => rdBinRf_10_4
  | 11, _, _ => rdBinRf_11_4
  | 12, _, _ => rdBinRf_12_4
  | 13, _, _ => rdBinRf_13_4
  | 14, _, _ => rdBinRf_14_4
  | 15, _, _ => rdBinRf_15_4
  | 16, _, _ => rdBinRf_16_4
  | 17, _, _ => rdBinRf_17_4
  | 18, _, _ => rdBinRf_18_4
  | 19, _, _ => rdBinRf_19_4
  | 20, _, _ => rdBinRf_20_4
  | n + 21, _, h => absurd h (by omega)
theorem rdBinRfA_5 : ∀ k, 1 ≤ k → k < 21 → RdBinRf k 5
  | 0, h, _ => absurd h (by omega)
  | 1, _, _ => rdBinRf_1_5
  | 2, _, _ => rdBinRf_2_5
  | 3, _, _ => rdBinRf_3_5
  | 4, _, _ => rdBinRf_4_5
  | 5, _, _ => rdBinRf_5_5
  | 6, _, _ => rdBinRf_6_5
  | 7, _, _ => rdBinRf_7_5
  | 8, _, _ => rdBinRf_8_5
  | 9, _, _ => rdBinRf_9_5
  | 10, _, _ => rdBinRf_10_5
  | 11, _, _ => rdBinRf_11_5
  | 12, _, _ => rdBinRf_12_5
  | 13, _, _ => rdBinRf_13_5
  | 14, _, _ => rdBinRf_14_5
  | 15, _, _ => rdBinRf_15_5
  | 16, _, _ => rdBinRf_16_5
  | 17, _, _ => rdBinRf_17_5
  | 18, _, _ => rdBinRf_18_5
  | 19, _, _ => rdBinRf_19_5
  | 20, _, _ => rdBinRf_20_5
  | n + 21, _, h => absurd h (by omega)
theorem rdBinRf (k : Nat) (K : Int) (h1 : 1 ≤ k) (h2 : k < 21) (h3 : 2 ≤ K) (h4 : K ≤ 5) : RdBinRf k K := by
  have : K = 2 ∨ K = 3 ∨ K = 4 ∨ K = 5 := by omega
  rcases this with rfl | rfl | rfl | rfl
  · exact rdBinRfA_2 k h1 h2
  · exact rdBinRfA_3 k h1 h2
  · exact rdBinRfA_4 k h1 h2
  · exact rdBinRfA_5 k h1 h2
theorem finRfA_1 : ∀ m, 2 ≤ m → m < 21 → FinRf 1 m
  | 0, h, _ => absurd h (by omega)
  | 1, h, _ => absurd h (by omega)
  | 2, _, _ => finRf_1_2
  | 3, _, _ => finRf_1_3
  | 4, _, _ => finRf_1_4
  | 5, _, _ => finRf_1_5
  | 6, _, _ => finRf_1_6
  | 7, _, _ => finRf_1_7
  | 8, _, _ => finRf_1_8
  | 9, _, _ => finRf_1_9
  | 10, _, _ => finRf_1_10
  | 11, _, _ => finRf_1_11
  | 12, _, _ => finRf_1_12
  | 13, _, _ => finRf_1_13
  | 14, _, _ => finRf_1_14
  | 15, _, _ => finRf_1_15
  | 16, _, _ => finRf_1_16
  | 17, _, _ => finRf_1_17
  | 18, _, _ => finRf_1_18
  | 19, _, _ => finRf_1_19
  | 20, _, _ => finRf_1_20
  | m + 21, _, h => absurd h (by omega)
theorem finRfA_2 : ∀ m, 2 ≤ m → m < 21 → FinRf 2 m
  | 0, h, _ => absurd h (by omega)
  | 1, h, _ => absurd h (by omega)
  | 2, _, _ => finRf_2_2
  | 3, _, _ => finRf_2_3
  | 4, _, _ => finRf_2_4
  | 5, _, _ => finRf_2_5
  | 6, _, _ => finRf_2_6
  | 7, _, _ => finRf_2_7
  | 8, _, _ => finRf_2_8
  | 9, _, _ => finRf_2_9
  | 10, _, _ => finRf_2_10
  | 11, _, _ => finRf_2_11
  | 12, _, _ => finRf_2_12
  | 13, _, _ => finRf_2_13
  | 14, _, _ => finRf_2_14
  | 15, _, _ => finRf_2_15
  | 16, _, _ => finRf_2_16
  | 17, _, _ => finRf_2_17
  | 18, _, _ => finRf_2_18
  | 19, _, _ => finRf_2_19
  | 20, _, _ => finRf_2_20
  | m + 21, _, h => absurd h (by omega)
theorem finRfA_3 : ∀ m, 2 ≤ m → m < 21 → FinRf 3 m
  | 0, h, _ => absurd h (by omega)
  | 1, h, _ => absurd h (by omega)
  | 2, _, _ => finRf_3_2
  | 3, _, _ => finRf_3_3
  | 4, _, _ => finRf_3_4
  | 5, _, _ => finRf_3_5
  | 6, _, _ => finRf_3_6
  | 7, _, _ => finRf_3_7
  | 8, _, _ => finRf_3_8
  | 9, _, _ => finRf_3_9
  | 10, _, _ => finRf_3_10
  | 11, _, _ => finRf_3_11
  | 12, _, _ => finRf_3_12
  | 13, _, _ => finRf_3_13
  | 14, _, _ => finRf_3_14
  | 15, _, _ => finRf_3_15
  | 16, _, _ => finRf_3_16
  | 17, _, _ => finRf_3_17
  | 18, _, _ => finRf_3_18
  | 19, _, _ => finRf_3_19
  | 20, _, _ => finRf_3_20
  | m + 21, _, h => absurd h (by omega)
theorem finRf (n m : Nat) (h1 : 1 ≤ n) (h2 : n ≤ 3) (h3 : 2 ≤ m) (h4 : m < 21) : FinRf n m := by
  have : n = 1 ∨ n = 2 ∨ n = 3 := by omega
  rcases this with rfl | rfl | rfl
  · exact finRfA_1 m h3 h4
  · exact finRfA_2 m h3 h4
  · exact finRfA_3 m h3 h4

end Go.Proofs.Ytpmdpbljgidllaa
