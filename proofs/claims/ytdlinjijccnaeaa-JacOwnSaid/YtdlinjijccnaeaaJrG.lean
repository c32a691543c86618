/- The document's Jac of numbers about its rounds. -/
import Derived.Test.YtdlinjijccnaeaaJrF
namespace Go.Proofs.Ytdlinjijccnaeaa
open Go
set_option linter.unusedVariables false
set_option linter.unusedSimpArgs false
set_option maxRecDepth 100000

/-- What is left behind, as far as the i-th row: an empty row, the row, its slice, the rows' slices. -/
def lfJ (c N : Nat) (R : Nat → Nat → Nat) (i : Nat) : List (Option ABlk) := (List.range i).flatMap fun j => [none, nwF ((List.range N).map (R j)), some ⟨#[slV (c + 1 + 4 * j) N], 37, 1, true⟩, if j + 1 = i then some ⟨((List.range i).map fun j => slV (c + 1 + 4 * j) N).toArray, 37, 1, true⟩ else none]
noncomputable def lgH (H : List (Option ABlk)) (c N M : Nat) (u : Nat → Int) (p : Nat → Addr) (d : Nat → Nat) (R : Nat → Nat → Nat) : List Obl :=
  (List.range N).flatMap (fun i => [.cmp .lss 3 (.int .i64 (Int.ofNat i)) (.int .i64 (Int.ofNat N)) true, .ex (readVar Try.prog (H ++ lfJ c N R i ++ [nwF []]).toArray 3 ⟨1, i, none⟩ = some (.int .i64 (u i))),
    .ex (indexAddrV Try.prog 38 (slV 5 M) (.int .i64 (u i)) = some (.pointer (some (p i)))), .ex (readVar Try.prog (H ++ lfJ c N R i ++ [nwF []]).toArray 37 (p i) = some (slV (d i) N)),
    .ex (appendV Try.prog (H ++ lfJ c N R i ++ [nwF []]).toArray 37 37 (slV (c + 4 * i) 0) (slV (d i) N) = some (slV (c + 1 + 4 * i) N, (H ++ lfJ c N R i ++ [none, nwF ((List.range N).map (R i))]).toArray))]) ++
  [.cmp .lss 3 (.int .i64 (Int.ofNat N)) (.int .i64 (Int.ofNat N)) false]
def FinRj (N M : Nat) : Prop := ∀ (b0 b1 b2 : Option ABlk) (rl0 rl : List Nat) (S : Nat → Nat → Nat) (u : Nat → Int) (p : Nat → Addr) (d : Nat → Nat) (R : Nat → Nat → Nat),
  (askTB askRj lssC 25 #[tpV 0 1 N M, slV 2 N] #[b0, b1, b2] ([mAnsT (slV 4 M) [b0, b1, b2, tbE N M, nwF rl0], mAnsT (slV 5 M) (HQ b0 b1 b2 N M rl0 (dlB N M 0) 0 S)] ++ (List.range N).flatMap (fun i => [yes true, vAns (.int .i64 (u i)), pAnsT (p i), vAns (slV (d i) N), mAnsT (slV (6 + M + 1 + 4 * i) N) (HQ b0 b1 b2 N M rl (dlB N M M) M S ++ lfJ (6 + M) N R i ++ [none, nwF ((List.range N).map (R i))])]) ++ [yes false])
    [some ⟨.exit 0, tmA 191 (LRj N M M), (HQ b0 b1 b2 N M rl (dlB N M M) M S).toArray⟩, none]).map (fun r => (r.1, r.2.1, r.2.2.1, slL [([1, 2, 5, 6, 7], RRe 0)] r.2.2.2)) =
  some (slV (6 + M + 4 * N - 1) N, (HQ b0 b1 b2 N M rl (dlB N M M) M S ++ lfJ (6 + M) N R N).toArray,
    [.ex (makeSliceV Try.prog [b0, b1, b2, tbE N M].toArray 37 (.int .i64 M) (.int .i64 M) = some (slV 4 M, [b0, b1, b2, tbE N M, nwF rl0].toArray)), .ex (makeSliceV Try.prog [b0, b1, b2, tbE N M, nwF rl0].toArray 38 (.int .i64 M) (.int .i64 M) = some (slV 5 M, (HQ b0 b1 b2 N M rl0 (dlB N M 0) 0 S).toArray))] ++
      lgH (HQ b0 b1 b2 N M rl (dlB N M M) M S) (6 + M) N M u p d R,
    [(bodyRj, (191, (LRj N M 0).map (·.2), (HQ b0 b1 b2 N M rl0 (dlB N M 0) 0 S).map some), (.exit 0, tmA 191 (LRj N M M), (HQ b0 b1 b2 N M rl (dlB N M M) M S).toArray))])
theorem finRj_1_2 : FinRj 1 2 := fun _ _ _ _ _ _ _ _ _ _ => by kernel_rfl
theorem finRj_1_3 : FinRj 1 3 := fun _ _ _ _ _ _ _ _ _ _ => by kernel_rfl
theorem finRj_1_4 : FinRj 1 4 := fun _ _ _ _ _ _ _ _ _ _ => by kernel_rfl
theorem finRj_1_5 : FinRj 1 5 := fun _ _ _ _ _ _ _ _ _ _ => by kernel_rfl
theorem finRj_1_6 : FinRj 1 6 := fun _ _ _ _ _ _ _ _ _ _ => by kernel_rfl
theorem finRj_1_7 : FinRj 1 7 := fun _ _ _ _ _ _ _ _ _ _ => by kernel_rfl
theorem finRj_1_8 : FinRj 1 8 := fun _ _ _ _ _ _ _ _ _ _ => by kernel_rfl
theorem finRj_1_9 : FinRj 1 9 := fun _ _ _ _ _ _ _ _ _ _ => by kernel_rfl
theorem finRj_1_10 : FinRj 1 10 := fun _ _ _ _ _ _ _ _ _ _ => by kernel_rfl
theorem finRj_1_11 : FinRj 1 11 := fun _ _ _ _ _ _ _ _ _ _ => by kernel_rfl
theorem finRj_1_12 : FinRj 1 12 := fun _ _ _ _ _ _ _ _ _ _ => by kernel_rfl
theorem finRj_2_2 : FinRj 2 2 := fun _ _ _ _ _ _ _ _ _ _ => by kernel_rfl
theorem finRj_2_3 : FinRj 2 3 := fun _ _ _ _ _ _ _ _ _ _ => by kernel_rfl
theorem finRj_2_4 : FinRj 2 4 := fun _ _ _ _ _ _ _ _ _ _ => by kernel_rfl
theorem finRj_2_5 : FinRj 2 5 := fun _ _ _ _ _ _ _ _ _ _ => by kernel_rfl
theorem finRj_2_6 : FinRj 2 6 := fun _ _ _ _ _ _ _ _ _ _ => by kernel_rfl
theorem finRj_2_7 : FinRj 2 7 := fun _ _ _ _ _ _ _ _ _ _ => by kernel_rfl
theorem finRj_2_8 : FinRj 2 8 := fun _ _ _ _ _ _ _ _ _ _ => by kernel_rfl
theorem finRj_2_9 : FinRj 2 9 := fun _ _ _ _ _ _ _ _ _ _ => by kernel_rfl
theorem finRj_2_10 : FinRj 2 10 := fun _ _ _ _ _ _ _ _ _ _ => by kernel_rfl
theorem finRj_2_11 : FinRj 2 11 := fun _ _ _ _ _ _ _ _ _ _ => by kernel_rfl
theorem finRj_2_12 : FinRj 2 12 := fun _ _ _ _ _ _ _ _ _ _ => by kernel_rfl
theorem finRj_3_2 : FinRj 3 2 := fun _ _ _ _ _ _ _ _ _ _ => by kernel_rfl
theorem finRj_3_3 : FinRj 3 3 := fun _ _ _ _ _ _ _ _ _ _ => by kernel_rfl
theorem finRj_3_4 : FinRj 3 4 := fun _ _ _ _ _ _ _ _ _ _ => by kernel_rfl
theorem finRj_3_5 : FinRj 3 5 := fun _ _ _ _ _ _ _ _ _ _ => by kernel_rfl
theorem finRj_3_6 : FinRj 3 6 := fun _ _ _ _ _ _ _ _ _ _ => by kernel_rfl
theorem finRj_3_7 : FinRj 3 7 := fun _ _ _ _ _ _ _ _ _ _ => by kernel_rfl
theorem finRj_3_8 : FinRj 3 8 := fun _ _ _ _ _ _ _ _ _ _ => by kernel_rfl
theorem finRj_3_9 : FinRj 3 9 := fun _ _ _ _ _ _ _ _ _ _ => by kernel_rfl
theorem finRj_3_10 : FinRj 3 10 := fun _ _ _ _ _ _ _ _ _ _ => by kernel_rfl
theorem finRj_3_11 : FinRj 3 11 := fun _ _ _ _ _ _ _ _ _ _ => by kernel_rfl
theorem finRj_3_12 : FinRj 3 12 := fun _ _ _ _ _ _ _ _ _ _ => by kernel_rfl
theorem finRj_1 : ∀ M, 2 ≤ M → M < 13 → FinRj 1 M
  | 0, h, _ => absurd h (by omega)
  | 1, h, _ => absurd h (by omega)
  | 2, _, _ => finRj_1_2
  | 3, _, _ => finRj_1_3
  | 4, _, _ => finRj_1_4
  | 5, _, _ => finRj_1_5
  | 6, _, _ => finRj_1_6
  | 7, _, _ => finRj_1_7
  | 8, _, _ => finRj_1_8
  | 9, _, _ => finRj_1_9
  | 10, _, _ => finRj_1_10
  | 11, _, _ => finRj_1_11
  | 12, _, _ => finRj_1_12
  | n + 13, _, h => absurd h (by omega)
theorem finRj_2 : ∀ M, 2 ≤ M → M < 13 → FinRj 2 M
  | 0, h, _ => absurd h (by omega)
  | 1, h, _ => absurd h (by omega)
  | 2, _, _ => finRj_2_2
  | 3, _, _ => finRj_2_3
  | 4, _, _ => finRj_2_4
  | 5, _, _ => finRj_2_5
  | 6, _, _ => finRj_2_6
  | 7, _, _ => finRj_2_7
  | 8, _, _ => finRj_2_8
  | 9, _, _ => finRj_2_9
  | 10, _, _ => finRj_2_10
  | 11, _, _ => finRj_2_11
  | 12, _, _ => finRj_2_12
  | n + 13, _, h => absurd h (by omega)
theorem finRj_3 : ∀ M, 2 ≤ M → M < 13 → FinRj 3 M
  | 0, h, _ => absurd h (by omega)
  | 1, h, _ => absurd h (by omega)
  | 2, _, _ => finRj_3_2
  | 3, _, _ => finRj_3_3
  | 4, _, _ => finRj_3_4
  | 5, _, _ => finRj_3_5
  | 6, _, _ => finRj_3_6
  | 7, _, _ => finRj_3_7
  | 8, _, _ => finRj_3_8
  | 9, _, _ => finRj_3_9
  | 10, _, _ => finRj_3_10
  | 11, _, _ => finRj_3_11
  | 12, _, _ => finRj_3_12
  | n + 13, _, h => absurd h (by omega)
theorem finRj {N M : Nat} (h1 : 1 ≤ N) (h2 : N ≤ 3) (h3 : 2 ≤ M) (h4 : M < 13) : FinRj N M := by
  have : N = 1 ∨ N = 2 ∨ N = 3 := by omega
  rcases this with rfl | rfl | rfl
  · exact finRj_1 M h3 h4
  · exact finRj_2 M h3 h4
  · exact finRj_3 M h3 h4

end Go.Proofs.Ytdlinjijccnaeaa
