/- jac's run of numbers about its rounds. -/
import Derived.Test.YtdlinjijccnaeaaJcF
namespace Go.Proofs.Ytdlinjijccnaeaa
open Go
set_option linter.unusedVariables false
set_option linter.unusedSimpArgs false
set_option maxRecDepth 100000

/-- Rows' slices, the first row at c, as far as i. -/
def otJ (c N i : Nat) : Option ABlk := some ⟨((List.range N).map fun j => if j < i then slV (c + j) N else .slice none 0 0).toArray, 37, 1, true⟩
def rowsJ (N : Nat) (R : Nat → Nat → Nat) (i : Nat) : List (Option ABlk) := (List.range i).map fun j => nwF ((List.range N).map (R j))
noncomputable def lgG (H : List (Option ABlk)) (N M : Nat) (u : Nat → Int) (p p' : Nat → Addr) (d : Nat → Nat) (R : Nat → Nat → Nat) : List Obl :=
  (List.range N).flatMap (fun i => [.cmp .lss 3 (.int .i64 (Int.ofNat i)) (.int .i64 (Int.ofNat N)) true, .ex (readVar Try.prog (H ++ [otJ (7 + M) N i] ++ rowsJ N R i).toArray 3 ⟨1, i, none⟩ = some (.int .i64 (u i))),
    .ex (indexAddrV Try.prog 80 (rvJ 5 M) (.int .i64 (u i)) = some (.pointer (some (p i)))), .ex (fieldAddrV Try.prog 83 (.pointer (some (p i))) 1 = some (.pointer (some (p' i)))), .ex (readVar Try.prog (H ++ [otJ (7 + M) N i] ++ rowsJ N R i).toArray 37 (p' i) = some (slV (d i) N)),
    .ex (appendV Try.prog (H ++ [otJ (7 + M) N i] ++ rowsJ N R i).toArray 37 37 (.slice none 0 0) (slV (d i) N) = some (slV (7 + M + i) N, (H ++ [otJ (7 + M) N i] ++ rowsJ N R (i + 1)).toArray))]) ++
  [.cmp .lss 3 (.int .i64 (Int.ofNat N)) (.int .i64 (Int.ofNat N)) false]
def FinJ (N M : Nat) : Prop := ∀ (b0 b1 b2 : Option ABlk) (V : Nat → Nat) (S : Nat → Nat → Nat) (u : Nat → Int) (p p' : Nat → Addr) (d : Nat → Nat) (R : Nat → Nat → Nat),
  (askTB askJr lssC 39 #[kdF, tpV 0 1 N M, slV 2 N] #[b0, b1, b2] ((List.range N).flatMap (fun i => [yes true, vAns (.int .i64 (u i)), pAnsT (p i), pAnsT (p' i), vAns (slV (d i) N), mAnsT (slV (7 + M + i) N) (HJ b0 b1 b2 N M M V S ++ [otJ (7 + M) N i] ++ rowsJ N R (i + 1))]) ++ [yes false])
    [some ⟨.exit 0, tmA 73 (LJ N M M), (HJ b0 b1 b2 N M M V S).toArray⟩, none]).map (fun r => (r.1, r.2.1, r.2.2.1, slL [([2, 3, 4, 7, 16, 17, 18], RJe 0)] r.2.2.2)) =
  some (slV (6 + M) N, (HJ b0 b1 b2 N M M V S ++ [otJ (7 + M) N N] ++ rowsJ N R N).toArray, lgG (HJ b0 b1 b2 N M M V S) N M u p p' d R,
    [(bodyJr, (73, (LJ N M 0).map (·.2), (HJ b0 b1 b2 N M 0 V S).map some), (.exit 0, tmA 73 (LJ N M M), (HJ b0 b1 b2 N M M V S).toArray))])
theorem finJ_1_2 : FinJ 1 2 := fun _ _ _ _ _ _ _ _ _ _ => by kernel_rfl
theorem finJ_1_3 : FinJ 1 3 := fun _ _ _ _ _ _ _ _ _ _ => by kernel_rfl
theorem finJ_1_4 : FinJ 1 4 := fun _ _ _ _ _ _ _ _ _ _ => by kernel_rfl
theorem finJ_1_5 : FinJ 1 5 := fun _ _ _ _ _ _ _ _ _ _ => by kernel_rfl
theorem finJ_1_6 : FinJ 1 6 := fun _ _ _ _ _ _ _ _ _ _ => by kernel_rfl
theorem finJ_1_7 : FinJ 1 7 := fun _ _ _ _ _ _ _ _ _ _ => by kernel_rfl
theorem finJ_1_8 : FinJ 1 8 := fun _ _ _ _ _ _ _ _ _ _ => by kernel_rfl
theorem finJ_1_9 : FinJ 1 9 := fun _ _ _ _ _ _ _ _ _ _ => by kernel_rfl
theorem finJ_1_10 : FinJ 1 10 := fun _ _ _ _ _ _ _ _ _ _ => by kernel_rfl
theorem finJ_1_11 : FinJ 1 11 := fun _ _ _ _ _ _ _ _ _ _ => by kernel_rfl
theorem finJ_1_12 : FinJ 1 12 := fun _ _ _ _ _ _ _ _ _ _ => by kernel_rfl
theorem finJ_2_2 : FinJ 2 2 := fun _ _ _ _ _ _ _ _ _ _ => by kernel_rfl
theorem finJ_2_3 : FinJ 2 3 := fun _ _ _ _ _ _ _ _ _ _ => by kernel_rfl
theorem finJ_2_4 : FinJ 2 4 := fun _ _ _ _ _ _ _ _ _ _ => by kernel_rfl
theorem finJ_2_5 : FinJ 2 5 := fun _ _ _ _ _ _ _ _ _ _ => by kernel_rfl
theorem finJ_2_6 : FinJ 2 6 := fun _ _ _ _ _ _ _ _ _ _ => by kernel_rfl
theorem finJ_2_7 : FinJ 2 7 := fun _ _ _ _ _ _ _ _ _ _ => by kernel_rfl
theorem finJ_2_8 : FinJ 2 8 := fun _ _ _ _ _ _ _ _ _ _ => by kernel_rfl
theorem finJ_2_9 : FinJ 2 9 := fun _ _ _ _ _ _ _ _ _ _ => by kernel_rfl
theorem finJ_2_10 : FinJ 2 10 := fun _ _ _ _ _ _ _ _ _ _ => by kernel_rfl
theorem finJ_2_11 : FinJ 2 11 := fun _ _ _ _ _ _ _ _ _ _ => by kernel_rfl
theorem finJ_2_12 : FinJ 2 12 := fun _ _ _ _ _ _ _ _ _ _ => by kernel_rfl
theorem finJ_3_2 : FinJ 3 2 := fun _ _ _ _ _ _ _ _ _ _ => by kernel_rfl
theorem finJ_3_3 : FinJ 3 3 := fun _ _ _ _ _ _ _ _ _ _ => by kernel_rfl
theorem finJ_3_4 : FinJ 3 4 := fun _ _ _ _ _ _ _ _ _ _ => by kernel_rfl
theorem finJ_3_5 : FinJ 3 5 := fun _ _ _ _ _ _ _ _ _ _ => by kernel_rfl
theorem finJ_3_6 : FinJ 3 6 := fun _ _ _ _ _ _ _ _ _ _ => by kernel_rfl
theorem finJ_3_7 : FinJ 3 7 := fun _ _ _ _ _ _ _ _ _ _ => by kernel_rfl
theorem finJ_3_8 : FinJ 3 8 := fun _ _ _ _ _ _ _ _ _ _ => by kernel_rfl
theorem finJ_3_9 : FinJ 3 9 := fun _ _ _ _ _ _ _ _ _ _ => by kernel_rfl
theorem finJ_3_10 : FinJ 3 10 := fun _ _ _ _ _ _ _ _ _ _ => by kernel_rfl
theorem finJ_3_11 : FinJ 3 11 := fun _ _ _ _ _ _ _ _ _ _ => by kernel_rfl
theorem finJ_3_12 : FinJ 3 12 := fun _ _ _ _ _ _ _ _ _ _ => by kernel_rfl
theorem finJ_1 : ∀ M, 2 ≤ M → M < 13 → FinJ 1 M
  | 0, h, _ => absurd h (by omega)
  | 1, h, _ => absurd h (by omega)
  | 2, _, _ => finJ_1_2
  | 3, _, _ => finJ_1_3
  | 4, _, _ => finJ_1_4
  | 5, _, _ => finJ_1_5
  | 6, _, _ => finJ_1_6
  | 7, _, _ => finJ_1_7
  | 8, _, _ => finJ_1_8
  | 9, _, _ => finJ_1_9
  | 10, _, _ => finJ_1_10
  | 11, _, _ => finJ_1_11
  | 12, _, _ => finJ_1_12
  | n + 13, _, h => absurd h (by omega)
theorem finJ_2 : ∀ M, 2 ≤ M → M < 13 → FinJ 2 M
  | 0, h, _ => absurd h (by omega)
  | 1, h, _ => absurd h (by omega)
  | 2, _, _ => finJ_2_2
  | 3, _, _ => finJ_2_3
  | 4, _, _ => finJ_2_4
  | 5, _, _ => finJ_2_5
  | 6, _, _ => finJ_2_6
  | 7, _, _ => finJ_2_7
  | 8, _, _ => finJ_2_8
  | 9, _, _ => finJ_2_9
  | 10, _, _ => finJ_2_10
  | 11, _, _ => finJ_2_11
  | 12, _, _ => finJ_2_12
  | n + 13, _, h => absurd h (by omega)
theorem finJ_3 : ∀ M, 2 ≤ M → M < 13 → FinJ 3 M
  | 0, h, _ => absurd h (by omega)
  | 1, h, _ => absurd h (by omega)
  | 2, _, _ => finJ_3_2
  | 3, _, _ => finJ_3_3
  | 4, _, _ => finJ_3_4
  | 5, _, _ => finJ_3_5
  | 6, _, _ => finJ_3_6
  | 7, _, _ => finJ_3_7
  | 8, _, _ => finJ_3_8
  | 9, _, _ => finJ_3_9
  | 10, _, _ => finJ_3_10
  | 11, _, _ => finJ_3_11
  | 12, _, _ => finJ_3_12
  | n + 13, _, h => absurd h (by omega)
theorem finJ {N M : Nat} (h1 : 1 ≤ N) (h2 : N ≤ 3) (h3 : 2 ≤ M) (h4 : M < 13) : FinJ N M := by
  have : N = 1 ∨ N = 2 ∨ N = 3 := by omega
  rcases this with rfl | rfl | rfl
  · exact finJ_1 M h3 h4
  · exact finJ_2 M h3 h4
  · exact finJ_3 M h3 h4

end Go.Proofs.Ytdlinjijccnaeaa
