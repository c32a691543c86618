/- The document's EvalIv: the run about its rounds. -/
import Derived.Test.YtpmdpbljgidllaaTpRi
import Derived.Test.YtpmdpbljgidllaaTpRfF
namespace Go.Proofs.Ytpmdpbljgidllaa
open Go
set_option linter.unusedVariables false
set_option linter.unusedSimpArgs false
set_option maxRecDepth 100000

noncomputable def lgORi (H : List (Option ABlk)) (M N : Nat) (u : Nat → Int) (p : Nat → Addr) (f : Nat → (Nat × Nat)) : List Obl :=
  ((List.range N).flatMap fun i => [.cmp .lss 3 (.int .i64 (Int.ofNat i)) (.int .i64 (Int.ofNat N)) true, .ex (readVar Try.prog (H ++ grRi i f).toArray 3 ⟨1, i, none⟩ = some (.int .i64 (u i))),
    .ex (indexAddrV Try.prog 37 (.slice (some ⟨4, 0, none⟩) M M) (.int .i64 (u i)) = some (.pointer (some (p i)))), .ex (readVar Try.prog (H ++ grRi i f).toArray 39 (p i) = some (vI (f i)))]) ++ [.cmp .lss 3 (.int .i64 (Int.ofNat N)) (.int .i64 (Int.ofNat N)) false]
def j0Ri (N M : Nat) (i : Nat) : Value := if i = 0 then tpV 0 1 N M else if i = 10 then .pointer (some ⟨3, 1, none⟩) else if i = 11 then .slice (some ⟨0, 0, none⟩) M M else if i = 12 then .int .i64 M else if i = 13 then .slice (some ⟨4, 0, none⟩) M M else undef
def FinRi (N M : Nat) : Prop := ∀ (b0 b1 b2 : Option ABlk) (x : Value) (rb0 rb : Option ABlk) (g : Nat → Option ABlk) (j : Nat → Value) (u : Nat → Int) (p : Nat → Addr) (f : Nat → (Nat × Nat)),
  askT askRi lssC 38 #[tpV 0 1 N M, x] #[b0, b1, b2] (mAnsT (.slice (some ⟨4, 0, none⟩) M M) [b0, b1, b2, tbE N M, rb0] :: (((List.range N).flatMap fun i => [yes true, vAns (.int .i64 (u i)), pAnsT (p i), vAns (vI (f i))]) ++ [yes false]))
    [some ⟨.exit 0, tmRi x M M j, (hpR b0 b1 b2 N M rb M g).toArray⟩, none] =
  some (.slice (some ⟨5 + M + (2 * N - 1), 0, none⟩) N N, (hpR b0 b1 b2 N M rb M g ++ grRi N f).toArray,
    .ex (makeSliceV Try.prog #[b0, b1, b2, tbE N M] 37 (.int .i64 M) (.int .i64 M) = some (.slice (some ⟨4, 0, none⟩) M M, #[b0, b1, b2, tbE N M, rb0])) :: lgORi (hpR b0 b1 b2 N M rb M g) M N u p f,
    [(bodyRi, tmRi x M 0 (j0Ri N M), (hpR b0 b1 b2 N M rb0 0 g).toArray, (.exit 0, tmRi x M M j, (hpR b0 b1 b2 N M rb M g).toArray))])
theorem finRi_1_2 : FinRi 1 2 := fun _ _ _ _ _ _ _ _ _ _ _ => by kernel_rfl
theorem finRi_1_3 : FinRi 1 3 := fun _ _ _ _ _ _ _ _ _ _ _ => by kernel_rfl
theorem finRi_1_4 : FinRi 1 4 := fun _ _ _ _ _ _ _ _ _ _ _ => by kernel_rfl
theorem finRi_1_5 : FinRi 1 5 := fun _ _ _ _ _ _ _ _ _ _ _ => by kernel_rfl
theorem finRi_1_6 : FinRi 1 6 := fun _ _ _ _ _ _ _ _ _ _ _ => by kernel_rfl
theorem finRi_1_7 : FinRi 1 7 := fun _ _ _ _ _ _ _ _ _ _ _ => by kernel_rfl
theorem finRi_1_8 : FinRi 1 8 := fun _ _ _ _ _ _ _ _ _ _ _ => by kernel_rfl
theorem finRi_1_9 : FinRi 1 9 := fun _ _ _ _ _ _ _ _ _ _ _ => by kernel_rfl
theorem finRi_1_10 : FinRi 1 10 := fun _ _ _ _ _ _ _ _ _ _ _ => by kernel_rfl
theorem finRi_1_11 : FinRi 1 11 := fun _ _ _ _ _ _ _ _ _ _ _ => by kernel_rfl
theorem finRi_1_12 : FinRi 1 12 := fun _ _ _ _ _ _ _ _ _ _ _ => by kernel_rfl
theorem finRi_1_13 : FinRi 1 13 := fun _ _ _ _ _ _ _ _ _ _ _ => by kernel_rfl
theorem finRi_1_14 : FinRi 1 14 := fun _ _ _ _ _ _ _ _ _ _ _ => by kernel_rfl
theorem finRi_1_15 : FinRi 1 15 := fun _ _ _ _ _ _ _ _ _ _ _ => by kernel_rfl
theorem finRi_1_16 : FinRi 1 16 := fun _ _ _ _ _ _ _ _ _ _ _ => by kernel_rfl
theorem finRi_1_17 : FinRi 1 17 := fun _ _ _ _ _ _ _ _ _ _ _ => by kernel_rfl
theorem finRi_1_18 : FinRi 1 18 := fun _ _ _ _ _ _ _ _ _ _ _ => by kernel_rfl
theorem finRi_1_19 : FinRi 1 19 := fun _ _ _ _ _ _ _ _ _ _ _ => by kernel_rfl
theorem finRi_1_20 : FinRi 1 20 := fun _ _ _ _ _ _ _ _ _ _ _ => by kernel_rfl
theorem finRi_2_2 : FinRi 2 2 := fun _ _ _ _ _ _ _ _ _ _ _ => by kernel_rfl
theorem finRi_2_3 : FinRi 2 3 := fun _ _ _ _ _ _ _ _ _ _ _ => by kernel_rfl
theorem finRi_2_4 : FinRi 2 4 := fun _ _ _ _ _ _ _ _ _ _ _ => by kernel_rfl
theorem finRi_2_5 : FinRi 2 5 := fun _ _ _ _ _ _ _ _ _ _ _ => by kernel_rfl
theorem finRi_2_6 : FinRi 2 6 := fun _ _ _ _ _ _ _ _ _ _ _ => by kernel_rfl
theorem finRi_2_7 : FinRi 2 7 := fun _ _ _ _ _ _ _ _ _ _ _ => by kernel_rfl
theorem finRi_2_8 : FinRi 2 8 := fun _ _ _ _ _ _ _ _ _ _ _ => by kernel_rfl
theorem finRi_2_9 : FinRi 2 9 := fun _ _ _ _ _ _ _ _ _ _ _ => by kernel_rfl
theorem finRi_2_10 : FinRi 2 10 := fun _ _ _ _ _ _ _ _ _ _ _ => by kernel_rfl
theorem finRi_2_11 : FinRi 2 11 := fun _ _ _ _ _ _ _ _ _ _ _ => by kernel_rfl
theorem finRi_2_12 : FinRi 2 12 := fun _ _ _ _ _ _ _ _ _ _ _ => by kernel_rfl
theorem finRi_2_13 : FinRi 2 13 := fun _ _ _ _ _ _ _ _ _ _ _ => by kernel_rfl
theorem finRi_2_14 : FinRi 2 14 := fun _ _ _ _ _ _ _ _ _ _ _ => by kernel_rfl
theorem finRi_2_15 : FinRi 2 15 := fun _ _ _ _ _ _ _ _ _ _ _ => by kernel_rfl
theorem finRi_2_16 : FinRi 2 16 := fun _ _ _ _ _ _ _ _ _ _ _ => by kernel_rfl
theorem finRi_2_17 : FinRi 2 17 := fun _ _ _ _ _ _ _ _ _ _ _ => by kernel_rfl
theorem finRi_2_18 : FinRi 2 18 := fun _ _ _ _ _ _ _ _ _ _ _ => by kernel_rfl
theorem finRi_2_19 : FinRi 2 19 := fun _ _ _ _ _ _ _ _ _ _ _ => by kernel_rfl
theorem finRi_2_20 : FinRi 2 20 := fun _ _ _ _ _ _ _ _ _ _ _ => by kernel_rfl
theorem finRi_3_2 : FinRi 3 2 := fun _ _ _ _ _ _ _ _ _ _ _ => by kernel_rfl
theorem finRi_3_3 : FinRi 3 3 := fun _ _ _ _ _ _ _ _ _ _ _ => by kernel_rfl
theorem finRi_3_4 : FinRi 3 4 := fun _ _ _ _ _ _ _ _ _ _ _ => by kernel_rfl
theorem finRi_3_5 : FinRi 3 5 := fun _ _ _ _ _ _ _ _ _ _ _ => by kernel_rfl
theorem finRi_3_6 : FinRi 3 6 := fun _ _ _ _ _ _ _ _ _ _ _ => by kernel_rfl
theorem finRi_3_7 : FinRi 3 7 := fun _ _ _ _ _ _ _ _ _ _ _ => by kernel_rfl
theorem finRi_3_8 : FinRi 3 8 := fun _ _ _ _ _ _ _ _ _ _ _ => by kernel_rfl
theorem finRi_3_9 : FinRi 3 9 := fun _ _ _ _ _ _ _ _ _ _ _ => by kernel_rfl
theorem finRi_3_10 : FinRi 3 10 := fun _ _ _ _ _ _ _ _ _ _ _ => by kernel_rfl
theorem finRi_3_11 : FinRi 3 11 := fun _ _ _ _ _ _ _ _ _ _ _ => by kernel_rfl
theorem finRi_3_12 : FinRi 3 12 := fun _ _ _ _ _ _ _ _ _ _ _ => by kernel_rfl
theorem finRi_3_13 : FinRi 3 13 := fun _ _ _ _ _ _ _ _ _ _ _ => by kernel_rfl
theorem finRi_3_14 : FinRi 3 14 := fun _ _ _ _ _ _ _ _ _ _ _ => by kernel_rfl
theorem finRi_3_15 : FinRi 3 15 := fun _ _ _ _ _ _ _ _ _ _ _ => by kernel_rfl
theorem finRi_3_16 : FinRi 3 16 := fun _ _ _ _ _ _ _ _ _ _ _ => by kernel_rfl
theorem finRi_3_17 : FinRi 3 17 := fun _ _ _ _ _ _ _ _ _ _ _ => by kernel_rfl
theorem finRi_3_18 : FinRi 3 18 := fun _ _ _ _ _ _ _ _ _ _ _ => by kernel_rfl
theorem finRi_3_19 : FinRi 3 19 := fun _ _ _ _ _ _ _ _ _ _ _ => by kernel_rfl
theorem finRi_3_20 : FinRi 3 20 := fun _ _ _ _ _ _ _ _ _ _ _ => by kernel_rfl

theorem rdConRi : ∀ k, k < 21 → RdConRi k
  | 0, _ => rdConRi_0
  | 1, _ => rdConRi_1
  | 2, _ => rdConRi_2
  | 3, _ => rdConRi_3
  | 4, _ => rdConRi_4
  | 5, _ => rdConRi_5
  | 6, _ => rdConRi_6
  | 7, _ => rdConRi_7
  | 8, _ => rdConRi_8
  | 9, _ => rdConRi_9
  | 10, _ => rdConRi_10
  | 11, _ => rdConRi_11
  | 12, _ => rdConRi_12
  | 13, _ => rdConRi_13
  | 14, _ => rdConRi_14
  | 15, _ => rdConRi_15
  | 16, _ => rdConRi_16
  | 17, _ => rdConRi_17
  | 18, _ => rdConRi_18
  | 19, _ => rdConRi_19
  | 20, _ => rdConRi_20
  | n + 21, h => absurd h (by omega)
theorem rdVarRi : ∀ k, k < 21 → RdVarRi k
  | 0, _ => rdVarRi_0
  | 1, _ => rdVarRi_1
  | 2, _ => rdVarRi_2
  | 3, _ => rdVarRi_3
  | 4, _ => rdVarRi_4
  | 5, _ => rdVarRi_5
  | 6, _ => rdVarRi_6
  | 7, _ => rdVarRi_7
  | 8, _ => rdVarRi_8
  | 9, _ => rdVarRi_9
  | 10, _ => rdVarRi_10
  | 11, _ => rdVarRi_11
  | 12, _ => rdVarRi_12
  | 13, _ => rdVarRi_13
  | 14, _ => rdVarRi_14
  | 15, _ => rdVarRi_15
  | 16, _ => rdVarRi_16
  | 17, _ => rdVarRi_17
  | 18, _ => rdVarRi_18
  | 19, _ => rdVarRi_19
  | 20, _ => rdVarRi_20
  | n + 21, h => absurd h (by omega)
theorem rdEndRi : ∀ k, 2 ≤ k → k < 21 → RdEndRi k
  | 0, h, _ => absurd h (by omega)
  | 1, h, _ => absurd h (by omega)
  | 2, _, _ => rdEndRi_2
  | 3, _, _ => rdEndRi_3
  | 4, _, _ => rdEndRi_4
  | 5, _, _ => rdEndRi_5
  | 6, _, _ => rdEndRi_6
  | 7, _, _ => rdEndRi_7
  | 8, _, _ => rdEndRi_8
  | 9, _, _ => rdEndRi_9
  | 10, _, _ => rdEndRi_10
  | 11, _, _ => rdEndRi_11
  | 12, _, _ => rdEndRi_12
  | 13, _, _ => rdEndRi_13
  | 14, _, _ => rdEndRi_14
  | 15, _, _ => rdEndRi_15
  | 16, _, _ => rdEndRi_16
  | 17, _, _ => rdEndRi_17
  | 18, _, _ => rdEndRi_18
  | 19, _, _ => rdEndRi_19
  | 20, _, _ => rdEndRi_20
  | n + 21, _, h => absurd h (by omega)
theorem rdBinRiA_2 : ∀ k, 1 ≤ k → k < 21 → RdBinRi k 2
  | 0, h, _ => absurd h (by omega)
  | 1, _, _ => rdBinRi_1_2
  | 2, _, _ => rdBinRi_2_2
  | 3, _, _ => rdBinRi_3_2
  | 4, _, _ => rdBinRi_4_2
  | 5, _, _ => rdBinRi_5_2
  | 6, _, _ => rdBinRi_6_2
  | 7, _, _ => rdBinRi_7_2
  | 8, _, _ => rdBinRi_8_2
  | 9, _, _ => rdBinRi_9_2
  | 10, _, _ => rdBinRi_10_2
  | 11, _, _ => rdBinRi_11_2
  | 12, _, _ => rdBinRi_12_2
  | 13, _, _ => rdBinRi_13_2
  | 14, _, _ => rdBinRi_14_2
  | 15, _, _ => rdBinRi_15_2
  | 16, _, _ => rdBinRi_16_2
  | 17, _, _ => rdBinRi_17_2
  | 18, _, _ => rdBinRi_18_2
  | 19, _, _ => rdBinRi_19_2
  | 20, _, _ => rdBinRi_20_2
  | n + 21, _, h => absurd h (by omega)
theorem rdBinRiA_3 : ∀ k, 1 ≤ k → k < 21 → RdBinRi k 3
  | 0, h, _ => absurd h (by omega)
  | 1, _, _ => rdBinRi_1_3
  | 2, _, _ => rdBinRi_2_3
  | 3, _, _ => rdBinRi_3_3
  | 4, _, _ => rdBinRi_4_3
  | 5, _, _ => rdBinRi_5_3
  | 6, _, _ => rdBinRi_6_3
  | 7, _, _ => rdBinRi_7_3
  | 8, _, _ => rdBinRi_8_3
  | 9, _, _ => rdBinRi_9_3
  | 10, _, _ => rdBinRi_10_3
  | 11, _, _ => rdBinRi_11_3
  | 12, _, _ => rdBinRi_12_3
  | 13, _, _ => rdBinRi_13_3
  | 14, _, _ => rdBinRi_14_3
  | 15, _, _ => rdBinRi_15_3
  | 16, _, _ => rdBinRi_16_3
  | 17, _, _ => rdBinRi_17_3
  | 18, _, _ => rdBinRi_18_3
  | 19, _, _ => rdBinRi_19_3
  | 20, _, _ => rdBinRi_20_3
  | n + 21, _, h => absurd h (by omega)
theorem rdBinRiA_4 : ∀ k, 1 ≤ k → k < 21 → RdBinRi k 4
  | 0, h, _ => absurd h (by omega)
  | 1, _, _ => rdBinRi_1_4
  | 2, _, _ => rdBinRi_2_4
  | 3, _, _ => rdBinRi_3_4
  | 4, _, _ => rdBinRi_4_4
  | 5, _, _ => rdBinRi_5_4
  | 6, _, _ => rdBinRi_6_4
  | 7, _, _ => rdBinRi_7_4
  | 8, _, _ => rdBinRi_8_4
  | 9, _, _ => rdBinRi_9_4
  | 10, _, _ => rdBinRi_10_4
  | 11, _, _ => rdBinRi_11_4
  | 12, _, _ => rdBinRi_12_4
  | 13, _, _ => rdBinRi_13_4
  | 14, _, _ => rdBinRi_14_4
  | 15, _, _ => rdBinRi_15_4
  | 16, _, _ => rdBinRi_16_4
  | 17, _, _ => rdBinRi_17_4
  | 18, _, _ => rdBinRi_18_4
  | 19, _, _ => rdBinRi_19_4
  | 20, _, _ => rdBinRi_20_4
  | n + 21, _, h => absurd h (by omega)
theorem rdBinRiA_5 : ∀ k, 1 ≤ k → k < 21 → RdBinRi k 5
  | 0, h, _ => absurd h (by omega)
  | 1, _, _ => rdBinRi_1_5
  | 2, _, _ => rdBinRi_2_5
  | 3, _, _ => rdBinRi_3_5
  | 4, _, _ => rdBinRi_4_5
  | 5, _, _ => rdBinRi_5_5
  | 6, _, _ => rdBinRi_6_5
  | 7, _, _ => rdBinRi_7_5
  | 8, _, _ => rdBinRi_8_5
  | 9, _, _ => rdBinRi_9_5
  | 10, _, _ => rdBinRi_10_5
  | 11, _, _ => rdBinRi_11_5
  | 12, _, _ => rdBinRi_12_5
  | 13, _, _ => rdBinRi_13_5
  | 14, _, _ => rdBinRi_14_5
  | 15, _, _ => rdBinRi_15_5
  | 16, _, _ => rdBinRi_16_5
  | 17, _, _ => rdBinRi_17_5
  | 18, _, _ => rdBinRi_18_5
  | 19, _, _ => rdBinRi_19_5
  | 20, _, _ => rdBinRi_20_5
  | n + 21, _, h => absurd h (by omega)
theorem rdBinRi (k : Nat) (K : Int) (h1 : 1 ≤ k) (h2 : k < 21) (h3 : 2 ≤ K) (h4 : K ≤ 5) : RdBinRi k K := by
  have : K = 2 ∨ K = 3 ∨ K = 4 ∨ K = 5 := by omega
  rcases this with rfl | rfl | rfl | rfl
  · exact rdBinRiA_2 k h1 h2
  · exact rdBinRiA_3 k h1 h2
  · exact rdBinRiA_4 k h1 h2
  · exact rdBinRiA_5 k h1 h2
theorem finRiA_1 : ∀ m, 2 ≤ m → m < 21 → FinRi 1 m
  | 0, h, _ => absurd h (by omega)
  | 1, h, _ => absurd h (by omega)
  | 2, _, _ => finRi_1_2
  | 3, _, _ => finRi_1_3
  | 4, _, _ => finRi_1_4
  | 5, _, _ => finRi_1_5
  | 6, _, _ => finRi_1_6
  | 7, _, _ => finRi_1_7
  | 8, _, _ => finRi_1_8
  | 9, _, _ => finRi_1_9
  | 10, _, _ => finRi_1_10
  | 11, _, _ => finRi_1_11
  | 12, _, _ => finRi_1_12
  | 13, _, _ => finRi_1_13
  | 14, _, _ => finRi_1_14
  | 15, _, _ => finRi_1_15
  | 16, _, _ => finRi_1_16
  | 17, _, _ => finRi_1_17
  | 18, _, _ => finRi_1_18
  | 19, _, _ => finRi_1_19
  | 20, _, _ => finRi_1_20
  | m + 21, _, h => absurd h (by omega)
theorem finRiA_2 : ∀ m, 2 ≤ m → m < 21 → FinRi 2 m
  | 0, h, _ => absurd h (by omega)
  | 1, h, _ => absurd h (by omega)
  | 2, _, _ => finRi_2_2
  | 3, _, _ => finRi_2_3
  | 4, _, _ => finRi_2_4
  | 5, _, _ => finRi_2_5
  | 6, _, _ => finRi_2_6
  | 7, _, _ => finRi_2_7
  | 8, _, _ => finRi_2_8
  | 9, _, _ => finRi_2_9
  | 10, _, _ => finRi_2_10
  | 11, _, _ => finRi_2_11
  | 12, _, _ => finRi_2_12
  | 13, _, _ => finRi_2_13
  | 14, _, _ => finRi_2_14
  | 15, _, _ => finRi_2_15
  | 16, _, _ => finRi_2_16
  | 17, _, _ => finRi_2_17
  | 18, _, _ => finRi_2_18
  | 19, _, _ => finRi_2_19
  | 20, _, _ => finRi_2_20
  | m + 21, _, h => absurd h (by omega)
theorem finRiA_3 : ∀ m, 2 ≤ m → m < 21 → FinRi 3 m
  | 0, h, _ => absurd h (by omega)
  | 1, h, _ => absurd h (by omega)
  | 2, _, _ => finRi_3_2
  | 3, _, _ => finRi_3_3
  | 4, _, _ => finRi_3_4
  | 5, _, _ => finRi_3_5
  | 6, _, _ => finRi_3_6
  | 7, _, _ => finRi_3_7
  | 8, _, _ => finRi_3_8
  | 9, _, _ => finRi_3_9
  | 10, _, _ => finRi_3_10
  | 11, _, _ => finRi_3_11
  | 12, _, _ => finRi_3_12
  | 13, _, _ => finRi_3_13
  | 14, _, _ => finRi_3_14
  | 15, _, _ => finRi_3_15
  | 16, _, _ => finRi_3_16
  | 17, _, _ => finRi_3_17
  | 18, _, _ => finRi_3_18
  | 19, _, _ => finRi_3_19
  | 20, _, _ => finRi_3_20
  | m + 21, _, h => absurd h (by omega)
theorem finRi (n m : Nat) (h1 : 1 ≤ n) (h2 : n ≤ 3) (h3 : 2 ≤ m) (h4 : m < 21) : FinRi n m := by
  have : n = 1 ∨ n = 2 ∨ n = 3 := by omega
  rcases this with rfl | rfl | rfl
  · exact finRiA_1 m h3 h4
  · exact finRiA_2 m h3 h4
  · exact finRiA_3 m h3 h4

end Go.Proofs.Ytpmdpbljgidllaa
