/- tape.EvalIv: the run about its rounds, at each number of variables, of operations. -/
import Derived.Test.YtpmdpbljgidllaaTpEi
import Derived.Test.YtpmdpbljgidllaaTpF
namespace Go.Proofs.Ytpmdpbljgidllaa
open Go
set_option linter.unusedVariables false
set_option linter.unusedSimpArgs false
set_option maxRecDepth 100000

def kindVi : Value := .agg #[.func (.func 59) #[] #[], .func (.func 60) #[] #[], .func (.func 61) #[] #[], .func (.func 62) #[] #[], .func (.func 63) #[] #[]]
def outBti (N i : Nat) (f : Nat → Nat × Nat) : Option ABlk := some ⟨((List.range N).flatMap fun n => pC (if n < i then f n else (0, 0))).toArray, 39, 2, true⟩
noncomputable def lgOi (H : List (Option ABlk)) (rv : Value) (N : Nat) (u : Nat → Int) (p : Nat → Addr) (f : Nat → Nat × Nat) : List Obl :=
  ((List.range N).flatMap fun i => [.cmp .lss 3 (.int .i64 (Int.ofNat i)) (.int .i64 (Int.ofNat N)) true, .ex (readVar Try.prog (H ++ [outBti N i f]).toArray 3 ⟨1, i, none⟩ = some (.int .i64 (u i))),
    .ex (indexAddrV Try.prog 37 rv (.int .i64 (u i)) = some (.pointer (some (p i)))), .ex (readVar Try.prog (H ++ [outBti N i f]).toArray 39 (p i) = some (vI (f i)))]) ++ [.cmp .lss 3 (.int .i64 (Int.ofNat N)) (.int .i64 (Int.ofNat N)) false]
def j0Ei (N M : Nat) (i : Nat) : Value := if i = 0 then kindVi else if i = 1 then tpV 0 1 N M else if i = 6 then .slice none 0 0 else if i = 12 then .pointer (some ⟨5, 1, none⟩) else undef
def FinEi (N M : Nat) : Prop := ∀ (b0 b1 b2 b3 : Option ABlk) (x : Value) (F : Nat → Nat × Nat) (g : Nat → Option ABlk) (j : Nat → Value) (u : Nat → Int) (p : Nat → Addr) (f : Nat → Nat × Nat),
  (askT askTei lssC 45 #[kindVi, tpV 0 1 N M, x] #[b0, b1, b2, b3] (((List.range N).flatMap fun i => [yes true, vAns (.int .i64 (u i)), pAnsT (p i), vAns (vI (f i))]) ++ [yes false])
    [some ⟨.exit 0, tmE x (rvE M) M M j, (hpEi [b0, b1, b2, b3] N M M F g).toArray⟩, none]) =
  some (.slice (some ⟨6 + 3 * M, 0, none⟩) N N, (hpEi [b0, b1, b2, b3] N M M F g ++ [outBti N N f]).toArray, lgOi (hpEi [b0, b1, b2, b3] N M M F g) (rvE M) N u p f,
    [(bodyEi, tmE x (rvE 0) M 0 (j0Ei N M), (hpEi [b0, b1, b2, b3] N M 0 F g).toArray, (.exit 0, tmE x (rvE M) M M j, (hpEi [b0, b1, b2, b3] N M M F g).toArray))])
def RdEndEi (k : Nat) : Prop := ∀ (b0 b1 b2 b3 : Option ABlk) (N M : Nat) (x : Value) (F : Nat → Nat × Nat) (g : Nat → Option ABlk) (j : Nat → Value),
  (rndT askTei lssC bodyEi (tmE x (rvE k) M k j) (hpEi [b0, b1, b2, b3] N M k F g).toArray [yes false] []).map (fun r => (r.1, ((r.2.1.length, [getT r.2.1 2, getT r.2.1 3, getT r.2.1 4, getT r.2.1 7, getT r.2.1 13, getT r.2.1 14, getT r.2.1 15]), r.2.2.1), r.2.2.2)) =
  some (.exit 0, ((135, [x, .pointer (some ⟨4, 0, none⟩), .pointer (some ⟨5, 0, none⟩), rvE k, .slice (some ⟨0, 0, none⟩) M M, .int .i64 M, .int .i64 (Int.ofNat k)]), (hpEi [b0, b1, b2, b3] N M k F g).toArray), [.cmp .lss 3 (.int .i64 k) (.int .i64 M) false], [])
theorem rdEndEi_2 : RdEndEi 2 := fun _ _ _ _ _ _ _ _ _ _ => by kernel_rfl
theorem rdEndEi_3 : RdEndEi 3 := fun _ _ _ _ _ _ _ _ _ _ => by kernel_rfl
theorem rdEndEi_4 : RdEndEi 4 := fun _ _ _ _ _ _ _ _ _ _ => by kernel_rfl
theorem rdEndEi_5 : RdEndEi 5 := fun _ _ _ _ _ _ _ _ _ _ => by kernel_rfl
theorem rdEndEi_6 : RdEndEi 6 := fun _ _ _ _ _ _ _ _ _ _ => by kernel_rfl
theorem rdEndEi_7 : RdEndEi 7 := fun _ _ _ _ _ _ _ _ _ _ => by kernel_rfl
theorem rdEndEi_8 : RdEndEi 8 := fun _ _ _ _ _ _ _ _ _ _ => by kernel_rfl
theorem rdEndEi_9 : RdEndEi 9 := fun _ _ _ _ _ _ _ _ _ _ => by kernel_rfl
theorem rdEndEi_10 : RdEndEi 10 := fun _ _ _ _ _ _ _ _ _ _ => by kernel_rfl
theorem rdEndEi_11 : RdEndEi 11 := fun _ _ _ _ _ _ _ _ _ _ => by kernel_rfl
theorem rdEndEi_12 : RdEndEi 12 := fun _ _ _ _ _ _ _ _ _ _ => by kernel_rfl
theorem rdEndEi_13 : RdEndEi 13 := fun _ _ _ _ _ _ _ _ _ _ => by kernel_rfl
theorem rdEndEi_14 : RdEndEi 14 := fun _ _ _ _ _ _ _ _ _ _ => by kernel_rfl
theorem rdEndEi_15 : RdEndEi 15 := fun _ _ _ _ _ _ _ _ _ _ => by kernel_rfl
theorem rdEndEi_16 : RdEndEi 16 := fun _ _ _ _ _ _ _ _ _ _ => by kernel_rfl
theorem rdEndEi_17 : RdEndEi 17 := fun _ _ _ _ _ _ _ _ _ _ => by kernel_rfl
theorem rdEndEi_18 : RdEndEi 18 := fun _ _ _ _ _ _ _ _ _ _ => by kernel_rfl
theorem rdEndEi_19 : RdEndEi 19 := fun _ _ _ _ _ _ _ _ _ _ => by kernel_rfl
theorem rdEndEi_20 : RdEndEi 20 := fun _ _ _ _ _ _ _ _ _ _ => by kernel_rfl
theorem finEi_1_2 : FinEi 1 2 := fun _ _ _ _ _ _ _ _ _ _ _ => by kernel_rfl
theorem finEi_1_3 : FinEi 1 3 := fun _ _ _ _ _ _ _ _ _ _ _ => by kernel_rfl
theorem finEi_1_4 : FinEi 1 4 := fun _ _ _ _ _ _ _ _ _ _ _ => by kernel_rfl
theorem finEi_1_5 : FinEi 1 5 := fun _ _ _ _ _ _ _ _ _ _ _ => by kernel_rfl
theorem finEi_1_6 : FinEi 1 6 := fun _ _ _ _ _ _ _ _ _ _ _ => by kernel_rfl
theorem finEi_1_7 : FinEi 1 7 := fun _ _ _ _ _ _ _ _ _ _ _ => by kernel_rfl
theorem finEi_1_8 : FinEi 1 8 := fun _ _ _ _ _ _ _ _ _ _ _ => by kernel_rfl
theorem finEi_1_9 : FinEi 1 9 := fun _ _ _ _ _ _ _ _ _ _ _ => by kernel_rfl
theorem finEi_1_10 : FinEi 1 10 := fun _ _ _ _ _ _ _ _ _ _ _ => by kernel_rfl
theorem finEi_1_11 : FinEi 1 11 := fun _ _ _ _ _ _ _ _ _ _ _ => by kernel_rfl
theorem finEi_1_12 : FinEi 1 12 := fun _ _ _ _ _ _ _ _ _ _ _ => by kernel_rfl
theorem finEi_1_13 : FinEi 1 13 := fun _ _ _ _ _ _ _ _ _ _ _ => by kernel_rfl
theorem finEi_1_14 : FinEi 1 14 := fun _ _ _ _ _ _ _ _ _ _ _ => by kernel_rfl
theorem finEi_1_15 : FinEi 1 15 := fun _ _ _ _ _ _ _ _ _ _ _ => by kernel_rfl
theorem finEi_1_16 : FinEi 1 16 := fun _ _ _ _ _ _ _ _ _ _ _ => by kernel_rfl
theorem finEi_1_17 : FinEi 1 17 := fun _ _ _ _ _ _ _ _ _ _ _ => by kernel_rfl
theorem finEi_1_18 : FinEi 1 18 := fun _ _ _ _ _ _ _ _ _ _ _ => by kernel_rfl
theorem finEi_1_19 : FinEi 1 19 := fun _ _ _ _ _ _ _ _ _ _ _ => by kernel_rfl
theorem finEi_1_20 : FinEi 1 20 := fun _ _ _ _ _ _ _ _ _ _ _ => by kernel_rfl
theorem finEi_2_2 : FinEi 2 2 := fun _ _ _ _ _ _ _ _ _ _ _ => by kernel_rfl
theorem finEi_2_3 : FinEi 2 3 := fun _ _ _ _ _ _ _ _ _ _ _ => by kernel_rfl
theorem finEi_2_4 : FinEi 2 4 := fun _ _ _ _ _ _ _ _ _ _ _ => by kernel_rfl
theorem finEi_2_5 : FinEi 2 5 := fun _ _ _ _ _ _ _ _ _ _ _ => by kernel_rfl
theorem finEi_2_6 : FinEi 2 6 := fun _ _ _ _ _ _ _ _ _ _ _ => by kernel_rfl
theorem finEi_2_7 : FinEi 2 7 := fun _ _ _ _ _ _ _ _ _ _ _ => by kernel_rfl
theorem finEi_2_8 : FinEi 2 8 := fun _ _ _ _ _ _ _ _ _ _ _ => by kernel_rfl
theorem finEi_2_9 : FinEi 2 9 := fun _ _ _ _ _ _ _ _ _ _ _ => by kernel_rfl
theorem finEi_2_10 : FinEi 2 10 := fun _ _ _ _ _ _ _ _ _ _ _ => by kernel_rfl
theorem finEi_2_11 : FinEi 2 11 := fun _ _ _ _ _ _ _ _ _ _ _ => by kernel_rfl
theorem finEi_2_12 : FinEi 2 12 := fun _ _ _ _ _ _ _ _ _ _ _ => by kernel_rfl
theorem finEi_2_13 : FinEi 2 13 := fun _ _ _ _ _ _ _ _ _ _ _ => by kernel_rfl
theorem finEi_2_14 : FinEi 2 14 := fun _ _ _ _ _ _ _ _ _ _ _ => by kernel_rfl
theorem finEi_2_15 : FinEi 2 15 := fun _ _ _ _ _ _ _ _ _ _ _ => by kernel_rfl
theorem finEi_2_16 : FinEi 2 16 := fun _ _ _ _ _ _ _ _ _ _ _ => by kernel_rfl
theorem finEi_2_17 : FinEi 2 17 := fun _ _ _ _ _ _ _ _ _ _ _ => by kernel_rfl
theorem finEi_2_18 : FinEi 2 18 := fun _ _ _ _ _ _ _ _ _ _ _ => by kernel_rfl
theorem finEi_2_19 : FinEi 2 19 := fun _ _ _ _ _ _ _ _ _ _ _ => by kernel_rfl
theorem finEi_2_20 : FinEi 2 20 := fun _ _ _ _ _ _ _ _ _ _ _ => by kernel_rfl
theorem finEi_3_2 : FinEi 3 2 := fun _ _ _ _ _ _ _ _ _ _ _ => by kernel_rfl
theorem finEi_3_3 : FinEi 3 3 := fun _ _ _ _ _ _ _ _ _ _ _ => by kernel_rfl
theorem finEi_3_4 : FinEi 3 4 := fun _ _ _ _ _ _ _ _ _ _ _ => by kernel_rfl
theorem finEi_3_5 : FinEi 3 5 := fun _ _ _ _ _ _ _ _ _ _ _ => by kernel_rfl
theorem finEi_3_6 : FinEi 3 6 := fun _ _ _ _ _ _ _ _ _ _ _ => by kernel_rfl
theorem finEi_3_7 : FinEi 3 7 := fun _ _ _ _ _ _ _ _ _ _ _ => by kernel_rfl
theorem finEi_3_8 : FinEi 3 8 := fun _ _ _ _ _ _ _ _ _ _ _ => by kernel_rfl
theorem finEi_3_9 : FinEi 3 9 := fun _ _ _ _ _ _ _ _ _ _ _ => by kernel_rfl
theorem finEi_3_10 : FinEi 3 10 := fun _ _ _ _ _ _ _ _ _ _ _ => by kernel_rfl
theorem finEi_3_11 : FinEi 3 11 := fun _ _ _ _ _ _ _ _ _ _ _ => by kernel_rfl
theorem finEi_3_12 : FinEi 3 12 := fun _ _ _ _ _ _ _ _ _ _ _ => by kernel_rfl
theorem finEi_3_13 : FinEi 3 13 := fun _ _ _ _ _ _ _ _ _ _ _ => by kernel_rfl
theorem finEi_3_14 : FinEi 3 14 := fun _ _ _ _ _ _ _ _ _ _ _ => by kernel_rfl
theorem finEi_3_15 : FinEi 3 15 := fun _ _ _ _ _ _ _ _ _ _ _ => by kernel_rfl
theorem finEi_3_16 : FinEi 3 16 := fun _ _ _ _ _ _ _ _ _ _ _ => by kernel_rfl
theorem finEi_3_17 : FinEi 3 17 := fun _ _ _ _ _ _ _ _ _ _ _ => by kernel_rfl
theorem finEi_3_18 : FinEi 3 18 := fun _ _ _ _ _ _ _ _ _ _ _ => by kernel_rfl
theorem finEi_3_19 : FinEi 3 19 := fun _ _ _ _ _ _ _ _ _ _ _ => by kernel_rfl
theorem finEi_3_20 : FinEi 3 20 := fun _ _ _ _ _ _ _ _ _ _ _ => by kernel_rfl

theorem rdConEi : ∀ k, k < 21 → RdConEi k
  | 0, _ => rdConEi_0
  | 1, _ => rdConEi_1
  | 2, _ => rdConEi_2
  | 3, _ => rdConEi_3
  | 4, _ => rdConEi_4
  | 5, _ => rdConEi_5
  | 6, _ => rdConEi_6
  | 7, _ => rdConEi_7
  | 8, _ => rdConEi_8
  | 9, _ => rdConEi_9
  | 10, _ => rdConEi_10
  | 11, _ => rdConEi_11
  | 12, _ => rdConEi_12
  | 13, _ => rdConEi_13
  | 14, _ => rdConEi_14
  | 15, _ => rdConEi_15
  | 16, _ => rdConEi_16
  | 17, _ => rdConEi_17
  | 18, _ => rdConEi_18
  | 19, _ => rdConEi_19
  | 20, _ => rdConEi_20
  | n + 21, h => absurd h (by omega)
theorem rdVarEi : ∀ k, k < 21 → RdVarEi k
  | 0, _ => rdVarEi_0
  | 1, _ => rdVarEi_1
  | 2, _ => rdVarEi_2
  | 3, _ => rdVarEi_3
  | 4, _ => rdVarEi_4
  | 5, _ => rdVarEi_5
  | 6, _ => rdVarEi_6
  | 7, _ => rdVarEi_7
  | 8, _ => rdVarEi_8
  | 9, _ => rdVarEi_9
  | 10, _ => rdVarEi_10
  | 11, _ => rdVarEi_11
  | 12, _ => rdVarEi_12
  | 13, _ => rdVarEi_13
  | 14, _ => rdVarEi_14
  | 15, _ => rdVarEi_15
  | 16, _ => rdVarEi_16
  | 17, _ => rdVarEi_17
  | 18, _ => rdVarEi_18
  | 19, _ => rdVarEi_19
  | 20, _ => rdVarEi_20
  | n + 21, h => absurd h (by omega)
theorem rdEndEi : ∀ k, 2 ≤ k → k < 21 → RdEndEi k
  | 0, h, _ => absurd h (by omega)
  | 1, h, _ => absurd h (by omega)
  | 2, _, _ => rdEndEi_2
  | 3, _, _ => rdEndEi_3
  | 4, _, _ => rdEndEi_4
  | 5, _, _ => rdEndEi_5
  | 6, _, _ => rdEndEi_6
  | 7, _, _ => rdEndEi_7
  | 8, _, _ => rdEndEi_8
  | 9, _, _ => rdEndEi_9
  | 10, _, _ => rdEndEi_10
  | 11, _, _ => rdEndEi_11
  | 12, _, _ => rdEndEi_12
  | 13, _, _ => rdEndEi_13
  | 14, _, _ => rdEndEi_14
  | 15, _, _ => rdEndEi_15
  | 16, _, _ => rdEndEi_16
  | 17, _, _ => rdEndEi_17
  | 18, _, _ => rdEndEi_18
  | 19, _, _ => rdEndEi_19
  | 20, _, _ => rdEndEi_20
  | n + 21, _, h => absurd h (by omega)
theorem rdBinAEi_2 : ∀ k, 1 ≤ k → k < 21 → RdBinEi k 2
  | 0, h, _ => absurd h (by omega)
  | 1, _, _ => rdBinEi_1_2
  | 2, _, _ => rdBinEi_2_2
  | 3, _, _ => rdBinEi_3_2
  | 4, _, _ => rdBinEi_4_2
  | 5, _, _ => rdBinEi_5_2
  | 6, _, _ => rdBinEi_6_2
  | 7, _, _ => rdBinEi_7_2
  | 8, _, _ => rdBinEi_8_2
  | 9, _, _ => rdBinEi_9_2
  | 10, _, _ => rdBinEi_10_2
  | 11, _, _ => rdBinEi_11_2
  | 12, _, _ => rdBinEi_12_2
  | 13, _, _ => rdBinEi_13_2
  | 14, _, _ => rdBinEi_14_2
  | 15, _, _ => rdBinEi_15_2
  | 16, _, _ => rdBinEi_16_2
  | 17, _, _ => rdBinEi_17_2
  | 18, _, _ => rdBinEi_18_2
  | 19, _, _ => rdBinEi_19_2
  | 20, _, _ => rdBinEi_20_2
  | n + 21, _, h => absurd h (by omega)
theorem rdBinAEi_3 : ∀ k, 1 ≤ k → k < 21 → RdBinEi k 3
  | 0, h, _ => absurd h (by omega)
  | 1, _, _ => rdBinEi_1_3
  | 2, _, _ => rdBinEi_2_3
  | 3, _, _ => rdBinEi_3_3
  | 4, _, _ => rdBinEi_4_3
  | 5, _, _ => rdBinEi_5_3
  | 6, _, _ => rdBinEi_6_3
  | 7, _, _ => rdBinEi_7_3
  | 8, _, _ => rdBinEi_8_3
  | 9, _, _ => rdBinEi_9_3
  | 10, _, _ => rdBinEi_10_3
  | 11, _, _ => rdBinEi_11_3
  | 12, _, _ => rdBinEi_12_3
  | 13, _, _ => rdBinEi_13_3
  | 14, _, _ => rdBinEi_14_3
  | 15, _, _ => rdBinEi_15_3
  | 16, _, _ => rdBinEi_16_3
  | 17, _, _ => rdBinEi_17_3
  | 18, _, _ => rdBinEi_18_3
  | 19, _, _ => rdBinEi_19_3
  | 20, _, _ => rdBinEi_20_3
  | n + 21, _, h => absurd h (by omega)
theorem rdBinAEi_4 : ∀ k, 1 ≤ k → k < 21 → RdBinEi k 4
  | 0, h, _ => absurd h (by omega)
  | 1, _, _ => rdBinEi_1_4
  | 2, _, _ => rdBinEi_2_4
  | 3, _, _ => rdBinEi_3_4
  | 4, _, _ => rdBinEi_4_4
  | 5, _, _ => rdBinEi_5_4
  | 6, _, _ => rdBinEi_6_4
  | 7, _, _ => rdBinEi_7_4
  | 8, _, _ => rdBinEi_8_4
  | 9, _, _ => rdBinEi_9_4
  | 10, _, _ => rdBinEi_10_4
  | 11, _, _ => rdBinEi_11_4
  | 12, _, _ => rdBinEi_12_4
  | 13, _, _ => rdBinEi_13_4
  | 14, _, _ => rdBinEi_14_4
  | 15, _, _ => rdBinEi_15_4
  | 16, _, _ => rdBinEi_16_4
  | 17, _, _ => rdBinEi_17_4
  | 18, _, _ => rdBinEi_18_4
  | 19, _, _ => rdBinEi_19_4
  | 20, _, _ => rdBinEi_20_4
  | n + 21, _, h => absurd h (by omega)
theorem rdBinAEi_5 : ∀ k, 1 ≤ k → k < 21 → RdBinEi k 5
  | 0, h, _ => absurd h (by omega)
  | 1, _, _ => rdBinEi_1_5
  | 2, _, _ => rdBinEi_2_5
  | 3, _, _ => rdBinEi_3_5
  | 4, _, _ => rdBinEi_4_5
  | 5, _, _ => rdBinEi_5_5
  | 6, _, _ => rdBinEi_6_5
  | 7, _, _ => rdBinEi_7_5
  | 8, _, _ => rdBinEi_8_5
  | 9, _, _ => rdBinEi_9_5
  | 10, _, _ => rdBinEi_10_5
  | 11, _, _ => rdBinEi_11_5
  | 12, _, _ => rdBinEi_12_5
  | 13, _, _ => rdBinEi_13_5
  | 14, _, _ => rdBinEi_14_5
  | 15, _, _ => rdBinEi_15_5
  | 16, _, _ => rdBinEi_16_5
  | 17, _, _ => rdBinEi_17_5
  | 18, _, _ => rdBinEi_18_5
  | 19, _, _ => rdBinEi_19_5
  | 20, _, _ => rdBinEi_20_5
  | n + 21, _, h => absurd h (by omega)
theorem rdBinEi (k : Nat) (K : Int) (h1 : 1 ≤ k) (h2 : k < 21) (h3 : 2 ≤ K) (h4 : K ≤ 5) : RdBinEi k K := by
  have : K = 2 ∨ K = 3 ∨ K = 4 ∨ K = 5 := by omega
  rcases this with rfl | rfl | rfl | rfl
  · exact rdBinAEi_2 k h1 h2
  · exact rdBinAEi_3 k h1 h2
  · exact rdBinAEi_4 k h1 h2
  · exact rdBinAEi_5 k h1 h2
theorem finEiA_1 : ∀ m, 2 ≤ m → m < 21 → FinEi 1 m
  | 0, h, _ => absurd h (by omega)
  | 1, h, _ => absurd h (by omega)
  | 2, _, _ => finEi_1_2
  | 3, _, _ => finEi_1_3
  | 4, _, _ => finEi_1_4
  | 5, _, _ => finEi_1_5
  | 6, _, _ => finEi_1_6
  | 7, _, _ => finEi_1_7
  | 8, _, _ => finEi_1_8
  | 9, _, _ => finEi_1_9
  | 10, _, _ => finEi_1_10
  | 11, _, _ => finEi_1_11
  | 12, _, _ => finEi_1_12
  | 13, _, _ => finEi_1_13
  | 14, _, _ => finEi_1_14
  | 15, _, _ => finEi_1_15
  | 16, _, _ => finEi_1_16
  | 17, _, _ => finEi_1_17
  | 18, _, _ => finEi_1_18
  | 19, _, _ => finEi_1_19
  | 20, _, _ => finEi_1_20
  | m + 21, _, h => absurd h (by omega)
theorem finEiA_2 : ∀ m, 2 ≤ m → m < 21 → FinEi 2 m
  | 0, h, _ => absurd h (by omega)
  | 1, h, _ => absurd h (by omega)
  | 2, _, _ => finEi_2_2
  | 3, _, _ => finEi_2_3
  | 4, _, _ => finEi_2_4
  | 5, _, _ => finEi_2_5
  | 6, _, _ => finEi_2_6
  | 7, _, _ => finEi_2_7
  | 8, _, _ => finEi_2_8
  | 9, _, _ => finEi_2_9
  | 10, _, _ => finEi_2_10
  | 11, _, _ => finEi_2_11
  | 12, _, _ => finEi_2_12
  | 13, _, _ => finEi_2_13
  | 14, _, _ => finEi_2_14
  | 15, _, _ => finEi_2_15
  | 16, _, _ => finEi_2_16
  | 17, _, _ => finEi_2_17
  | 18, _, _ => finEi_2_18
  | 19, _, _ => finEi_2_19
  | 20, _, _ => finEi_2_20
  | m + 21, _, h => absurd h (by omega)
theorem finEiA_3 : ∀ m, 2 ≤ m → m < 21 → FinEi 3 m
  | 0, h, _ => absurd h (by omega)
  | 1, h, _ => absurd h (by omega)
  | 2, _, _ => finEi_3_2
  | 3, _, _ => finEi_3_3
  | 4, _, _ => finEi_3_4
  | 5, _, _ => finEi_3_5
  | 6, _, _ => finEi_3_6
  | 7, _, _ => finEi_3_7
  | 8, _, _ => finEi_3_8
  | 9, _, _ => finEi_3_9
  | 10, _, _ => finEi_3_10
  | 11, _, _ => finEi_3_11
  | 12, _, _ => finEi_3_12
  | 13, _, _ => finEi_3_13
  | 14, _, _ => finEi_3_14
  | 15, _, _ => finEi_3_15
  | 16, _, _ => finEi_3_16
  | 17, _, _ => finEi_3_17
  | 18, _, _ => finEi_3_18
  | 19, _, _ => finEi_3_19
  | 20, _, _ => finEi_3_20
  | m + 21, _, h => absurd h (by omega)
theorem finEi (n m : Nat) (h1 : 1 ≤ n) (h2 : n ≤ 3) (h3 : 2 ≤ m) (h4 : m < 21) : FinEi n m := by
  have : n = 1 ∨ n = 2 ∨ n = 3 := by omega
  rcases this with rfl | rfl | rfl
  · exact finEiA_1 m h3 h4
  · exact finEiA_2 m h3 h4
  · exact finEiA_3 m h3 h4

end Go.Proofs.Ytpmdpbljgidllaa
