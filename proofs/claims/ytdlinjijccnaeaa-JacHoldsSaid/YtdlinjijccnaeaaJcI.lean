/- JcR / JcF / JcG / JcM / JcH / JcI: several texts in one. -/
import Derived.Test.YtdlinjijccnaeaaJcW
/-!  jac's run of numbers: its rounds. -/
namespace Go.Proofs.Ytdlinjijccnaeaa
open Go
set_option linter.unusedVariables false
set_option linter.unusedSimpArgs false
set_option maxRecDepth 100000

noncomputable def askJr (g : FuncId) : Nat := if [69, 70].contains g then 1 else if [20, 21, 61, 66, 67, 68, 69].contains (g - 1000000) && Nat.ble 1000000 g then 7 else 0
noncomputable def bodyJr : Code := bodyG Try.prog 39 0
theorem okJr : codeOk q1 bodyJr = true := by kernel_rfl
def ptJ (b : Nat) : Value := .pointer (some ⟨b, 0, none⟩)
def LJ (N M k : Nat) : List (Nat × Value) := [(2, slV 2 N), (3, ptJ 3), (4, ptJ 4), (7, rvJ 5 k), (16, slV 0 M), (17, .int .i64 M), (18, .int .i64 (Int.ofNat k))]
def dJ (N : Nat) (S : Nat → Nat → Nat) (j : Nat) : Option ABlk := nwF ((List.range N).map (S j))
def HJ (b0 b1 b2 : Option ABlk) (N M k : Nat) (V : Nat → Nat) (S : Nat → Nat → Nat) : List (Option ABlk) :=
  [b0, b1, b2, kdB, tbE N M] ++ (if k = 0 then [] else rgBo true (rgs V (fun j => slV (6 + j) N) k) :: (List.range k).map (dJ N S))
def baseJ (k : Nat) : Nat := 5 + (if k = 0 then 0 else k + 1)
def oneJ (b : Nat) (v i : Nat) : Option ABlk := some ⟨#[.float .f64 v, if i = 0 then .slice none 0 0 else .slice (some ⟨b + 1 + 2 * i, 0, none⟩) i i], 83, 0, true⟩
def RJ (N k : Nat) : List Nat := [0, 1, 2, 3, 4, baseJ k + 3 + 2 * N] ++ (List.range k).map (fun j => 6 + j) ++ [baseJ k + 1 + 2 * N]
abbrev SlJ := Nat × List Value × List (Option (Option ABlk))
def outJ (b0 b1 b2 : Option ABlk) (N M k : Nat) (V : Nat → Nat) (S : Nat → Nat → Nat) (v : Nat) (s : Nat → Nat) : SlJ :=
  (73, [slV 2 N, ptJ 3, ptJ 4, slV (baseJ k + 3 + 2 * N) (k + 1), slV 0 M, .int .i64 M, .int .i64 (Int.ofNat (k + 1))],
    [some b0, some b1, some b2, some kdB, some (tbE N M), some (rgBo true (rgs V (fun j => slV (6 + j) N) k ++ [(v, slV (baseJ k + 1 + 2 * N) N)]))] ++ (List.range k).map (fun j => some (dJ N S j)) ++ [some (nwF ((List.range N).map s))])
noncomputable def lgJ (H : List (Option ABlk)) (N M k : Nat) (po : Addr) (K A B : Int) (C v : Nat) (s : Nat → Nat) : List Obl :=
  [.cmp .lss 3 (.int .i64 (Int.ofNat k)) (.int .i64 M) true, .ex (indexAddrV Try.prog 34 (slV 0 M) (.int .i64 (Int.ofNat k)) = some (.pointer (some po))), .ex (readVar Try.prog H.toArray 33 po = some (opV K A B C)),
    rnO 69 #[kdF, opV K A B C, slV 2 N, rvJ 5 k] (H ++ [obE K A B C]) (.float .f64 v) []] ++
  (List.range N).flatMap (fun i => [.cmp .lss 3 (.int .i64 (Int.ofNat i)) (.int .i64 (Int.ofNat N)) true, rnO 70 #[kdF, opV K A B C, .int .i64 (Int.ofNat i), .float .f64 v, rvJ 5 k] (H ++ ([obE K A B C, oneJ (baseJ k) v i] ++ grRf i s)) (.float .f64 (s i)) []]) ++
  [.cmp .lss 3 (.int .i64 (Int.ofNat N)) (.int .i64 (Int.ofNat N)) false]
def RdJ (N k : Nat) : Prop := ∀ (b0 b1 b2 : Option ABlk) (M : Nat) (po : Addr) (K A B : Int) (C v : Nat) (V : Nat → Nat) (S : Nat → Nat → Nat) (s : Nat → Nat),
  (rndB askJr lssC bodyJr (tmA 73 (LJ N M k)) (HJ b0 b1 b2 N M k V S).toArray ([yes true, pAnsT po, vAns (opV K A B C), vAns (.float .f64 v)] ++ (List.range N).flatMap (fun i => [yes true, vAns (.float .f64 (s i))]) ++ [yes false]) [none]).map (fun r => (r.1, slG [2, 3, 4, 7, 16, 17, 18] (RJ N k) r.2.1 r.2.2.1, r.2.2.2)) =
  some (.normal, outJ b0 b1 b2 N M k V S v s, lgJ (HJ b0 b1 b2 N M k V S) N M k po K A B C v s, [])
def RJe (k : Nat) : List Nat := [0, 1, 2, 3, 4] ++ (if k = 0 then [] else 5 :: (List.range k).map (fun j => 6 + j))
def RdJe (N k : Nat) : Prop := ∀ (b0 b1 b2 : Option ABlk) (M : Nat) (V : Nat → Nat) (S : Nat → Nat → Nat),
  (rndB askJr lssC bodyJr (tmA 73 (LJ N M k)) (HJ b0 b1 b2 N M k V S).toArray [yes false] []).map (fun r => (r.1, slG [2, 3, 4, 7, 16, 17, 18] (RJe k) r.2.1 r.2.2.1, r.2.2.2)) =
  some (.exit 0, (73, (LJ N M k).map (·.2), (HJ b0 b1 b2 N M k V S).map some), [.cmp .lss 3 (.int .i64 (Int.ofNat k)) (.int .i64 M) false], [])
theorem rdJ_1_0 : RdJ 1 0 := fun _ _ _ _ _ _ _ _ _ _ _ _ _ => by kernel_rfl
theorem rdJ_1_1 : RdJ 1 1 := fun _ _ _ _ _ _ _ _ _ _ _ _ _ => by kernel_rfl
theorem rdJ_1_2 : RdJ 1 2 := fun _ _ _ _ _ _ _ _ _ _ _ _ _ => by kernel_rfl
theorem rdJ_1_3 : RdJ 1 3 := fun _ _ _ _ _ _ _ _ _ _ _ _ _ => by kernel_rfl
theorem rdJ_1_4 : RdJ 1 4 := fun _ _ _ _ _ _ _ _ _ _ _ _ _ => by kernel_rfl
theorem rdJ_1_5 : RdJ 1 5 := fun _ _ _ _ _ _ _ _ _ _ _ _ _ => by kernel_rfl
theorem rdJ_1_6 : RdJ 1 6 := fun _ _ _ _ _ _ _ _ _ _ _ _ _ => by kernel_rfl
theorem rdJ_1_7 : RdJ 1 7 := fun _ _ _ _ _ _ _ _ _ _ _ _ _ => by kernel_rfl
theorem rdJ_1_8 : RdJ 1 8 := fun _ _ _ _ _ _ _ _ _ _ _ _ _ => by kernel_rfl
theorem rdJ_1_9 : RdJ 1 9 := fun _ _ _ _ _ _ _ _ _ _ _ _ _ => by kernel_rfl
theorem rdJ_1_10 : RdJ 1 10 := fun _ _ _ _ _ _ _ _ _ _ _ _ _ => by kernel_rfl
theorem rdJ_1_11 : RdJ 1 11 := fun _ _ _ _ _ _ _ _ _ _ _ _ _ => by kernel_rfl
theorem rdJ_1_12 : RdJ 1 12 := fun _ _ _ _ _ _ _ _ _ _ _ _ _ => by kernel_rfl
theorem rdJe_1_2 : RdJe 1 2 := fun _ _ _ _ _ _ => by kernel_rfl
theorem rdJe_1_3 : RdJe 1 3 := fun _ _ _ _ _ _ => by kernel_rfl
theorem rdJe_1_4 : RdJe 1 4 := fun _ _ _ _ _ _ => by kernel_rfl
theorem rdJe_1_5 : RdJe 1 5 := fun _ _ _ _ _ _ => by kernel_rfl
theorem rdJe_1_6 : RdJe 1 6 := fun _ _ _ _ _ _ => by kernel_rfl
theorem rdJe_1_7 : RdJe 1 7 := fun _ _ _ _ _ _ => by kernel_rfl
theorem rdJe_1_8 : RdJe 1 8 := fun _ _ _ _ _ _ => by kernel_rfl
theorem rdJe_1_9 : RdJe 1 9 := fun _ _ _ _ _ _ => by kernel_rfl
theorem rdJe_1_10 : RdJe 1 10 := fun _ _ _ _ _ _ => by kernel_rfl
theorem rdJe_1_11 : RdJe 1 11 := fun _ _ _ _ _ _ => by kernel_rfl
theorem rdJe_1_12 : RdJe 1 12 := fun _ _ _ _ _ _ => by kernel_rfl
theorem rdJe_1_13 : RdJe 1 13 := fun _ _ _ _ _ _ => by kernel_rfl
theorem rdJ_2_0 : RdJ 2 0 := fun _ _ _ _ _ _ _ _ _ _ _ _ _ => by kernel_rfl
theorem rdJ_2_1 : RdJ 2 1 := fun _ _ _ _ _ _ _ _ _ _ _ _ _ => by kernel_rfl
theorem rdJ_2_2 : RdJ 2 2 := fun _ _ _ _ _ _ _ _ _ _ _ _ _ => by kernel_rfl
theorem rdJ_2_3 : RdJ 2 3 := fun _ _ _ _ _ _ _ _ _ _ _ _ _ => by kernel_rfl
theorem rdJ_2_4 : RdJ 2 4 := fun _ _ _ _ _ _ _ _ _ _ _ _ _ => by kernel_rfl
theorem rdJ_2_5 : RdJ 2 5 := fun _ _ _ _ _ _ _ _ _ _ _ _ _ => by kernel_rfl
theorem rdJ_2_6 : RdJ 2 6 := fun _ _ _ _ _ _ _ _ _ _ _ _ _ => by kernel_rfl
theorem rdJ_2_7 : RdJ 2 7 := fun _ _ _ _ _ _ _ _ _ _ _ _ _ => by kernel_rfl
theorem rdJ_2_8 : RdJ 2 8 := fun _ _ _ _ _ _ _ _ _ _ _ _ _ => by kernel_rfl
theorem rdJ_2_9 : RdJ 2 9 := fun _ _ _ _ _ _ _ _ _ _ _ _ _ => by kernel_rfl
theorem rdJ_2_10 : RdJ 2 10 := fun _ _ _ _ _ _ _ _ _ _ _ _ _ => by kernel_rfl
theorem rdJ_2_11 : RdJ 2 11 := fun _ _ _ _ _ _ _ _ _ _ _ _ _ => by kernel_rfl
theorem rdJ_2_12 : RdJ 2 12 := fun _ _ _ _ _ _ _ _ _ _ _ _ _ => by kernel_rfl
theorem rdJe_2_2 : RdJe 2 2 := fun _ _ _ _ _ _ => by kernel_rfl
theorem rdJe_2_3 : RdJe 2 3 := fun _ _ _ _ _ _ => by kernel_rfl
theorem rdJe_2_4 : RdJe 2 4 := fun _ _ _ _ _ _ => by kernel_rfl
theorem rdJe_2_5 : RdJe 2 5 := fun _ _ _ _ _ _ => by kernel_rfl
theorem rdJe_2_6 : RdJe 2 6 := fun _ _ _ _ _ _ => by kernel_rfl
theorem rdJe_2_7 : RdJe 2 7 := fun _ _ _ _ _ _ => by kernel_rfl
theorem rdJe_2_8 : RdJe 2 8 := fun _ _ _ _ _ _ => by kernel_rfl
theorem rdJe_2_9 : RdJe 2 9 := fun _ _ _ _ _ _ => by kernel_rfl
theorem rdJe_2_10 : RdJe 2 10 := fun _ _ _ _ _ _ => by kernel_rfl
theorem rdJe_2_11 : RdJe 2 11 := fun _ _ _ _ _ _ => by kernel_rfl
theorem rdJe_2_12 : RdJe 2 12 := fun _ _ _ _ _ _ => by kernel_rfl
theorem rdJe_2_13 : RdJe 2 13 := fun _ _ _ _ _ _ => by kernel_rfl
theorem rdJ_3_0 : RdJ 3 0 := fun _ _ _ _ _ _ _ _ _ _ _ _ _ => by kernel_rfl
theorem rdJ_3_1 : RdJ 3 1 := fun _ _ _ _ _ _ _ _ _ _ _ _ _ => by kernel_rfl
theorem rdJ_3_2 : RdJ 3 2 := fun _ _ _ _ _ _ _ _ _ _ _ _ _ => by kernel_rfl
theorem rdJ_3_3 : RdJ 3 3 := fun _ _ _ _ _ _ _ _ _ _ _ _ _ => by kernel_rfl
theorem rdJ_3_4 : RdJ 3 4 := fun _ _ _ _ _ _ _ _ _ _ _ _ _ => by kernel_rfl
theorem rdJ_3_5 : RdJ 3 5 := fun _ _ _ _ _ _ _ _ _ _ _ _ _ => by kernel_rfl
theorem rdJ_3_6 : RdJ 3 6 := fun _ _ _ _ _ _ _ _ _ _ _ _ _ => by kernel_rfl
theorem rdJ_3_7 : RdJ 3 7 := fun _ _ _ _ _ _ _ _ _ _ _ _ _ => by kernel_rfl
theorem rdJ_3_8 : RdJ 3 8 := fun _ _ _ _ _ _ _ _ _ _ _ _ _ => by kernel_rfl
theorem rdJ_3_9 : RdJ 3 9 := fun _ _ _ _ _ _ _ _ _ _ _ _ _ => by kernel_rfl
theorem rdJ_3_10 : RdJ 3 10 := fun _ _ _ _ _ _ _ _ _ _ _ _ _ => by kernel_rfl
theorem rdJ_3_11 : RdJ 3 11 := fun _ _ _ _ _ _ _ _ _ _ _ _ _ => by kernel_rfl
theorem rdJ_3_12 : RdJ 3 12 := fun _ _ _ _ _ _ _ _ _ _ _ _ _ => by kernel_rfl
theorem rdJe_3_2 : RdJe 3 2 := fun _ _ _ _ _ _ => by kernel_rfl
theorem rdJe_3_3 : RdJe 3 3 := fun _ _ _ _ _ _ => by kernel_rfl
theorem rdJe_3_4 : RdJe 3 4 := fun _ _ _ _ _ _ => by kernel_rfl
theorem rdJe_3_5 : RdJe 3 5 := fun _ _ _ _ _ _ => by kernel_rfl
theorem rdJe_3_6 : RdJe 3 6 := fun _ _ _ _ _ _ => by kernel_rfl
theorem rdJe_3_7 : RdJe 3 7 := fun _ _ _ _ _ _ => by kernel_rfl
theorem rdJe_3_8 : RdJe 3 8 := fun _ _ _ _ _ _ => by kernel_rfl
theorem rdJe_3_9 : RdJe 3 9 := fun _ _ _ _ _ _ => by kernel_rfl
theorem rdJe_3_10 : RdJe 3 10 := fun _ _ _ _ _ _ => by kernel_rfl
theorem rdJe_3_11 : RdJe 3 11 := fun _ _ _ _ _ _ => by kernel_rfl
theorem rdJe_3_12 : RdJe 3 12 := fun _ _ _ _ _ _ => by kernel_rfl
theorem rdJe_3_13 : RdJe 3 13 := fun _ _ _ _ _ _ => by kernel_rfl
theorem rdJ_4_0 : RdJ 4 0 := fun _ _ _ _ _ _ _ _ _ _ _ _ _ => by kernel_rfl
theorem rdJ_4_1 : RdJ 4 1 := fun _ _ _ _ _ _ _ _ _ _ _ _ _ => by kernel_rfl
theorem rdJ_4_2 : RdJ 4 2 := fun _ _ _ _ _ _ _ _ _ _ _ _ _ => by kernel_rfl
theorem rdJ_4_3 : RdJ 4 3 := fun _ _ _ _ _ _ _ _ _ _ _ _ _ => by kernel_rfl
theorem rdJ_4_4 : RdJ 4 4 := fun _ _ _ _ _ _ _ _ _ _ _ _ _ => by kernel_rfl
theorem rdJ_4_5 : RdJ 4 5 := fun _ _ _ _ _ _ _ _ _ _ _ _ _ => by kernel_rfl
theorem rdJ_4_6 : RdJ 4 6 := fun _ _ _ _ _ _ _ _ _ _ _ _ _ => by kernel_rfl
theorem rdJ_4_7 : RdJ 4 7 := fun _ _ _ _ _ _ _ _ _ _ _ _ _ => by kernel_rfl
theorem rdJ_4_8 : RdJ 4 8 := fun _ _ _ _ _ _ _ _ _ _ _ _ _ => by kernel_rfl
theorem rdJ_4_9 : RdJ 4 9 := fun _ _ _ _ _ _ _ _ _ _ _ _ _ => by kernel_rfl
theorem rdJ_4_10 : RdJ 4 10 := fun _ _ _ _ _ _ _ _ _ _ _ _ _ => by kernel_rfl
theorem rdJ_4_11 : RdJ 4 11 := fun _ _ _ _ _ _ _ _ _ _ _ _ _ => by kernel_rfl
theorem rdJ_4_12 : RdJ 4 12 := fun _ _ _ _ _ _ _ _ _ _ _ _ _ => by kernel_rfl
theorem rdJe_4_2 : RdJe 4 2 := fun _ _ _ _ _ _ => by kernel_rfl
theorem rdJe_4_3 : RdJe 4 3 := fun _ _ _ _ _ _ => by kernel_rfl
theorem rdJe_4_4 : RdJe 4 4 := fun _ _ _ _ _ _ => by kernel_rfl
theorem rdJe_4_5 : RdJe 4 5 := fun _ _ _ _ _ _ => by kernel_rfl
theorem rdJe_4_6 : RdJe 4 6 := fun _ _ _ _ _ _ => by kernel_rfl
theorem rdJe_4_7 : RdJe 4 7 := fun _ _ _ _ _ _ => by kernel_rfl
theorem rdJe_4_8 : RdJe 4 8 := fun _ _ _ _ _ _ => by kernel_rfl
theorem rdJe_4_9 : RdJe 4 9 := fun _ _ _ _ _ _ => by kernel_rfl
theorem rdJe_4_10 : RdJe 4 10 := fun _ _ _ _ _ _ => by kernel_rfl
theorem rdJe_4_11 : RdJe 4 11 := fun _ _ _ _ _ _ => by kernel_rfl
theorem rdJe_4_12 : RdJe 4 12 := fun _ _ _ _ _ _ => by kernel_rfl
theorem rdJe_4_13 : RdJe 4 13 := fun _ _ _ _ _ _ => by kernel_rfl
theorem rdJ_1 : ∀ k, k < 13 → RdJ 1 k
  | 0, _ => rdJ_1_0
  | 1, _ => rdJ_1_1
  | 2, _ => rdJ_1_2
  | 3, _ => rdJ_1_3
  | 4, _ => rdJ_1_4
  | 5, _ => rdJ_1_5
  | 6, _ => rdJ_1_6
  | 7, _ => rdJ_1_7
  | 8, _ => rdJ_1_8
  | 9, _ => rdJ_1_9
  | 10, _ => rdJ_1_10
  | 11, _ => rdJ_1_11
  | 12, _ => rdJ_1_12
  | n + 13, h => absurd h (by omega)
theorem rdJe_1 : ∀ k, 2 ≤ k → k < 14 → RdJe 1 k
  | 0, h, _ => absurd h (by omega)
  | 1, h, _ => absurd h (by omega)
  | 2, _, _ => rdJe_1_2
  | 3, _, _ => rdJe_1_3
  | 4, _, _ => rdJe_1_4
  | 5, _, _ => rdJe_1_5
  | 6, _, _ => rdJe_1_6
  | 7, _, _ => rdJe_1_7
  | 8, _, _ => rdJe_1_8
  | 9, _, _ => rdJe_1_9
  | 10, _, _ => rdJe_1_10
  | 11, _, _ => rdJe_1_11
  | 12, _, _ => rdJe_1_12
  | 13, _, _ => rdJe_1_13
  | n + 14, _, h => absurd h (by omega)
theorem rdJ_2 : ∀ k, k < 13 → RdJ 2 k
  | 0, _ => rdJ_2_0
  | 1, _ => rdJ_2_1
  | 2, _ => rdJ_2_2
  | 3, _ => rdJ_2_3
  | 4, _ => rdJ_2_4
  | 5, _ => rdJ_2_5
  | 6, _ => rdJ_2_6
  | 7, _ => rdJ_2_7
  | 8, _ => rdJ_2_8
  | 9, _ => rdJ_2_9
  | 10, _ => rdJ_2_10
  | 11, _ => rdJ_2_11
  | 12, _ => rdJ_2_12
  | n + 13, h => absurd h (by omega)
theorem rdJe_2 : ∀ k, 2 ≤ k → k < 14 → RdJe 2 k
  | 0, h, _ => absurd h (by omega)
  | 1, h, _ => absurd h (by omega)
  | 2, _, _ => rdJe_2_2
  | 3, _, _ => rdJe_2_3
  | 4, _, _ => rdJe_2_4
  | 5, _, _ => rdJe_2_5
  | 6, _, _ => rdJe_2_6
  | 7, _, _ => rdJe_2_7
  | 8, _, _ => rdJe_2_8
  | 9, _, _ => rdJe_2_9
  | 10, _, _ => rdJe_2_10
  | 11, _, _ => rdJe_2_11
  | 12, _, _ => rdJe_2_12
  | 13, _, _ => rdJe_2_13
  | n + 14, _, h => absurd h (by omega)
theorem rdJ_3 : ∀ k, k < 13 → RdJ 3 k
  | 0, _ => rdJ_3_0
  | 1, _ => rdJ_3_1
  | 2, _ => rdJ_3_2
  | 3, _ => rdJ_3_3
  | 4, _ => rdJ_3_4
  | 5, _ => rdJ_3_5
  | 6, _ => rdJ_3_6
  | 7, _ => rdJ_3_7
  | 8, _ => rdJ_3_8
  | 9, _ => rdJ_3_9
  | 10, _ => rdJ_3_10
  | 11, _ => rdJ_3_11
  | 12, _ => rdJ_3_12
  | n + 13, h => absurd h (by omega)
theorem rdJe_3 : ∀ k, 2 ≤ k → k < 14 → RdJe 3 k
  | 0, h, _ => absurd h (by omega)
  | 1, h, _ => absurd h (by omega)
  | 2, _, _ => rdJe_3_2
  | 3, _, _ => rdJe_3_3
  | 4, _, _ => rdJe_3_4
  | 5, _, _ => rdJe_3_5
  | 6, _, _ => rdJe_3_6
  | 7, _, _ => rdJe_3_7
  | 8, _, _ => rdJe_3_8
  | 9, _, _ => rdJe_3_9
  | 10, _, _ => rdJe_3_10
  | 11, _, _ => rdJe_3_11
  | 12, _, _ => rdJe_3_12
  | 13, _, _ => rdJe_3_13
  | n + 14, _, h => absurd h (by omega)
theorem rdJ_4 : ∀ k, k < 13 → RdJ 4 k
  | 0, _ => rdJ_4_0
  | 1, _ => rdJ_4_1
  | 2, _ => rdJ_4_2
  | 3, _ => rdJ_4_3
  | 4, _ => rdJ_4_4
  | 5, _ => rdJ_4_5
  | 6, _ => rdJ_4_6
  | 7, _ => rdJ_4_7
  | 8, _ => rdJ_4_8
  | 9, _ => rdJ_4_9
  | 10, _ => rdJ_4_10
  | 11, _ => rdJ_4_11
  | 12, _ => rdJ_4_12
  | n + 13, h => absurd h (by omega)
theorem rdJe_4 : ∀ k, 2 ≤ k → k < 14 → RdJe 4 k
  | 0, h, _ => absurd h (by omega)
  | 1, h, _ => absurd h (by omega)
  | 2, _, _ => rdJe_4_2
  | 3, _, _ => rdJe_4_3
  | 4, _, _ => rdJe_4_4
  | 5, _, _ => rdJe_4_5
  | 6, _, _ => rdJe_4_6
  | 7, _, _ => rdJe_4_7
  | 8, _, _ => rdJe_4_8
  | 9, _, _ => rdJe_4_9
  | 10, _, _ => rdJe_4_10
  | 11, _, _ => rdJe_4_11
  | 12, _, _ => rdJe_4_12
  | 13, _, _ => rdJe_4_13
  | n + 14, _, h => absurd h (by omega)
theorem rdJ {N k : Nat} (h1 : 1 ≤ N) (h2 : N ≤ 4) (hk : k < 13) : RdJ N k := by
  have : N = 1 ∨ N = 2 ∨ N = 3 ∨ N = 4 := by omega
  rcases this with rfl | rfl | rfl | rfl
  · exact rdJ_1 k hk
  · exact rdJ_2 k hk
  · exact rdJ_3 k hk
  · exact rdJ_4 k hk
theorem rdJe {N k : Nat} (h1 : 1 ≤ N) (h2 : N ≤ 4) (hk : 2 ≤ k) (hk2 : k < 14) : RdJe N k := by
  have : N = 1 ∨ N = 2 ∨ N = 3 ∨ N = 4 := by omega
  rcases this with rfl | rfl | rfl | rfl
  · exact rdJe_1 k hk hk2
  · exact rdJe_2 k hk hk2
  · exact rdJe_3 k hk hk2
  · exact rdJe_4 k hk hk2

end Go.Proofs.Ytdlinjijccnaeaa

/-!  jac's run of numbers: its rounds in a row. -/
namespace Go.Proofs.Ytdlinjijccnaeaa
open Go
set_option linter.unusedVariables false
set_option linter.unusedSimpArgs false
set_option maxRecDepth 100000

theorem rndB_toL {n0 : Nat} {ask : FuncId → Nat} {askC : BinOp → Value → Value → Bool} {c : Code} {tm tm2 : List Value} {H H2 : AHeap} {s : List Ans} {ls : List (Option LpA)} {e : AExit} {l : List Obl} {K R : List Nat} {sl : Nat × List Value × List (Option (Option ABlk))}
    (h : (rndB ask askC c tm H s ls).map (fun r => (r.1, slG K R r.2.1 r.2.2.1, r.2.2.2)) = some (e, sl, l, [])) (hc : codeOk q1 c = true) (hl : okAll Try.prog l) (hE : EntOK n0 K R sl tm2 H2) : CodeB Try.prog n0 c tm H (e, tm2, H2) := by
  obtain ⟨tm1, H1, h1, h2⟩ := rndB_B (n0 := n0) (g := slG K R) h hc hl (fun y h => by cases h)
  obtain ⟨ρ, hρ⟩ := hE tm1 H1 h1
  exact h2.ren hρ
theorem relBs_app {z : Nat} {ρ : Nat → Nat} {a : List (Option ABlk)} {a' : List (Option (Option ABlk))} {b : List (Option ABlk)} {b' : List (Option (Option ABlk))} (h : RelBs z ρ a a') (t : RelBs z ρ b b') : RelBs z ρ (a ++ b) (a' ++ b') := by
  induction h with
  | nil => exact t
  | none x _ ih => exact .none x ih
  | some h _ ih => exact .some h ih
theorem relAs_app {z : Nat} {ρ : Nat → Nat} {a a' b b' : List Value} (h : RelAs z ρ a a') (t : RelAs z ρ b b') : RelAs z ρ (a ++ b) (a' ++ b') := by
  induction h with
  | nil => exact t
  | cons h _ ih => exact .cons h ih
theorem relBs_map {z : Nat} {ρ : Nat → Nat} (f : Nat → ABlk) (hf : ∀ j (i : Nat) (v : Value), (f j).cells[i]? = some v → closN 4 v = true) : ∀ l : List Nat, RelBs z ρ (l.map fun j => some (f j)) (l.map fun j => some (some (f j)))
  | [] => .nil
  | j :: l => relBs_own (hf j) (relBs_map f hf l)
theorem rvJ_pos {br k : Nat} (h : k ≠ 0) : rvJ br k = .slice (some ⟨br, 0, none⟩) k k := if_neg h
theorem HJ_pos {b0 b1 b2 : Option ABlk} {N M k : Nat} {V : Nat → Nat} {S : Nat → Nat → Nat} (h : k ≠ 0) : HJ b0 b1 b2 N M k V S = b0 :: b1 :: b2 :: kdB :: tbE N M :: rgBo true (rgs V (fun j => slV (6 + j) N) k) :: (List.range k).map (dJ N S) := by
  unfold HJ
  rw [if_neg h]
  rfl
theorem rgs_succ (V : Nat → Nat) (W : Nat → Value) (k : Nat) : rgs V W (k + 1) = rgs V W k ++ [(V k, W k)] := by
  unfold rgs
  rw [List.range_succ, List.map_append]
  rfl
theorem RJ_nodup : ∀ k, k < 13 → ∀ N, N < 5 → 1 ≤ N → (RJ N k).Nodup := by decide +kernel
theorem RJ_old : ∀ k, k < 13 → ∀ N, N < 5 → ∀ j, j < k → (RJ N k).getD (6 + j) 0 = 6 + j := by decide +kernel
theorem RJ_new : ∀ k, k < 13 → ∀ N, N < 5 → (RJ N k).getD (6 + k) 0 = baseJ k + 1 + 2 * N := by decide +kernel
theorem RJe_nodup : ∀ k, k < 14 → (RJe k).Nodup := by decide +kernel
theorem RJe_at : ∀ k, k < 14 → 0 < k → ∀ j, j < k → (RJe k).getD (6 + j) 0 = 6 + j := by decide +kernel
theorem kdB_own {z : Nat} {ρ : Nat → Nat} {l : List (Option ABlk)} {l' : List (Option (Option ABlk))} (t : RelBs z ρ l l') : RelBs z ρ (kdB :: l) (some kdB :: l') := by
  refine relBs_own (fun i v hv => ?_) t
  match i, hv with
  | 0, hv => injection hv with hv; subst hv; rfl
  | 1, hv => injection hv with hv; subst hv; rfl
  | 2, hv => injection hv with hv; subst hv; rfl
  | 3, hv => injection hv with hv; subst hv; rfl
  | 4, hv => injection hv with hv; subst hv; rfl
  | n + 5, hv => simp [kdF, Value.cells] at hv
theorem tbE_relJ {z : Nat} (hz : 3 ≤ z) {ρ : Nat → Nat} (h0 : ρ 0 = 0) (h1 : ρ 1 = 1) (N M : Nat) {l : List (Option ABlk)} {l' : List (Option (Option ABlk))} (t : RelBs z ρ l l') : RelBs z ρ (tbE N M :: l) (some (tbE N M) :: l') := by
  refine .some (RelK.list (.cons (.clos rfl) (.cons (.slice 0 0 0 none _ _ _ (by omega) h0) (.cons (.slice 1 1 0 none _ _ _ (by omega) h1) .nil)))) t
def dJb (N : Nat) (S : Nat → Nat → Nat) (j : Nat) : ABlk := ⟨(((List.range N).map (S j)).flatMap fC).toArray, 27, 1, true⟩
theorem dJ_cl (N : Nat) (S : Nat → Nat → Nat) (j : Nat) (i : Nat) (v : Value) (h : (dJb N S j).cells[i]? = some v) : closN 4 v = true := plain_flat fC_cl ((List.range N).map (S j)) 27 1 true i v h
section
variable {b0 b1 b2 : Option ABlk} {N : Nat} {ops : List OpD} {out : List Int} {xs : List Nat} {V : Nat → Nat} {S : Nat → Nat → Nat}
theorem entJ (p0 : PlO b0) (p1 : PlO b1) (p2 : PlO b2) (M k : Nat) (hk : k < 13) (h1 : 1 ≤ N) (h3 : N ≤ 4) :
    EntOK 3 [2, 3, 4, 7, 16, 17, 18] (RJ N k) (outJ b0 b1 b2 N M k V S (V k) (S k)) (tmA 73 (LJ N M (k + 1))) (HJ b0 b1 b2 N M (k + 1) V S).toArray := by
  have hl : (HJ b0 b1 b2 N M (k + 1) V S).length = 7 + k := by
    rw [HJ_pos (by omega)]; simp; omega
  refine entOK (H2 := HJ b0 b1 b2 N M (k + 1) V S) rfl rfl (RJ_nodup k hk N (by omega) h1) ?_ ?_
  · rw [hl]
    refine .cons (.slice 2 2 0 none _ _ _ (by omega) rfl) (.cons (.ptr 3 3 0 none (by omega) rfl) (.cons (.ptr 4 4 0 none (by omega) rfl) (.cons ?_ (.cons (.slice 0 0 0 none _ _ _ (by omega) rfl) (.cons (.clos rfl) (.cons (.clos rfl) .nil))))))
    show RelA _ _ (rvJ 5 (k + 1)) _
    rw [rvJ_pos (by omega)]
    exact .slice 5 _ 0 none _ _ _ (by omega) rfl
  · rw [hl, HJ_pos (by omega)]
    refine relBs_pl p0 (relBs_pl p1 (relBs_pl p2 (kdB_own (tbE_relJ (by omega) rfl rfl N M ?_))))
    refine .some (RelK.list ?_) ?_
    · rw [rgs_succ, List.flatMap_append, List.flatMap_append]
      refine relAs_app (relRgs V _ _ (List.range k) fun j hj => ?_) (.cons (.clos rfl) (.cons ?_ .nil))
      · have hj := List.mem_range.1 hj
        exact .slice (6 + j) (6 + j) 0 none _ _ _ (by omega) (RJ_old k hk N (by omega) j hj)
      · exact .slice (6 + k) _ 0 none _ _ _ (by omega) (RJ_new k hk N (by omega))
    · rw [List.range_succ, List.map_append]
      exact relBs_app (relBs_map (dJb N S) (dJ_cl N S) (List.range k)) (relBs_own (dJ_cl N S k) .nil)
theorem entJe (p0 : PlO b0) (p1 : PlO b1) (p2 : PlO b2) (M k : Nat) (hk : k < 14) :
    EntOK 3 [2, 3, 4, 7, 16, 17, 18] (RJe k) (73, (LJ N M k).map (·.2), (HJ b0 b1 b2 N M k V S).map some) (tmA 73 (LJ N M k)) (HJ b0 b1 b2 N M k V S).toArray := by
  refine entOK (H2 := HJ b0 b1 b2 N M k V S) rfl rfl (RJe_nodup k hk) ?_ ?_
  · by_cases h : k = 0
    · subst h
      have hl : (HJ b0 b1 b2 N M 0 V S).length = 5 := rfl
      rw [hl]
      exact .cons (.slice 2 2 0 none _ _ _ (by omega) rfl) (.cons (.ptr 3 3 0 none (by omega) rfl) (.cons (.ptr 4 4 0 none (by omega) rfl) (.cons (.clos rfl) (.cons (.slice 0 0 0 none _ _ _ (by omega) rfl) (.cons (.clos rfl) (.cons (.clos rfl) .nil))))))
    · have hl : (HJ b0 b1 b2 N M k V S).length = 6 + k := by rw [HJ_pos h]; simp; omega
      rw [hl]
      refine .cons (.slice 2 2 0 none _ _ _ (by omega) rfl) (.cons (.ptr 3 3 0 none (by omega) rfl) (.cons (.ptr 4 4 0 none (by omega) rfl) (.cons ?_ (.cons (.slice 0 0 0 none _ _ _ (by omega) rfl) (.cons (.clos rfl) (.cons (.clos rfl) .nil))))))
      show RelA _ _ (rvJ 5 k) (rvJ 5 k)
      rw [rvJ_pos h]
      refine .slice 5 5 0 none _ _ _ (by omega) ?_
      unfold RJe
      rw [if_neg h]
      rfl
  · by_cases h : k = 0
    · subst h
      exact relBs_pl p0 (relBs_pl p1 (relBs_pl p2 (kdB_own (tbE_relJ (show 3 ≤ 5 by decide) rfl rfl N M .nil))))
    · have hl : (HJ b0 b1 b2 N M k V S).length = 6 + k := by rw [HJ_pos h]; simp; omega
      rw [hl, HJ_pos h]
      have e0 : (RJe k).getD 0 0 = 0 := by unfold RJe; rfl
      have e1 : (RJe k).getD 1 0 = 1 := by unfold RJe; rfl
      refine relBs_pl p0 (relBs_pl p1 (relBs_pl p2 (kdB_own (tbE_relJ (ρ := fun b => (RJe k).getD b 0) (by omega) e0 e1 N M ?_))))
      refine .some (RelK.list (relRgs V _ _ (List.range k) fun j hj => ?_)) ?_
      · have hj := List.mem_range.1 hj
        exact .slice (6 + j) (6 + j) 0 none _ _ _ (by omega) (RJe_at k hk (by omega) j hj)
      · have := relBs_map (z := 6 + k) (ρ := fun b => (RJe k).getD b 0) (dJb N S) (dJ_cl N S) (List.range k)
        rw [List.map_map]
        exact this
theorem HJ_get {M k j : Nat} (h : j < k) (c : List (Option ABlk)) : (HJ b0 b1 b2 N M k V S ++ c)[6 + j]? = some (dJ N S j) := by
  rw [HJ_pos (by omega), List.getElem?_append_left (by simp; omega)]
  rw [show 6 + j = j + 1 + 1 + 1 + 1 + 1 + 1 by omega]
  simp only [List.getElem?_cons_succ, List.getElem?_map, List.getElem?_range h, Option.map_some]
theorem HJ_rg {M k : Nat} (h : k ≠ 0) (c : List (Option ABlk)) : (HJ b0 b1 b2 N M k V S ++ c)[5]? = some (rgBo true (rgs V (fun j => slV (6 + j) N) k)) := by
  rw [HJ_pos h]
  rfl
theorem roundJ (h : EvG fC b0 b1 b2 N ops out xs) (p0 : PlO b0) (p1 : PlO b1) (p2 : PlO b2) (hb2 : ∃ ow, b2 = some ⟨(xs.flatMap fC).toArray, 27, 1, ow⟩) (hV : ∀ k o, ops[k]? = some o → V k = vStep xs V o) (hS : ∀ k o, ops[k]? = some o → ∀ i, S k i = sStep V S (V k) o i)
    {k : Nat} {o : OpD} (ho : ops[k]? = some o) (hk : k < 13) (h1 : 1 ≤ N) (h3 : N ≤ 4) :
    CodeB Try.prog 3 bodyJr (tmA 73 (LJ N ops.length k)) (HJ b0 b1 b2 N ops.length k V S).toArray (.normal, tmA 73 (LJ N ops.length (k + 1)), (HJ b0 b1 b2 N ops.length (k + 1) V S).toArray) := by
  have hok := h.ok k o ho
  have hd := h.head ho (H := HJ b0 b1 b2 N ops.length k V S) rfl
  obtain ⟨ow, hb2⟩ := hb2
  refine rndB_toL (rdJ h1 h3 hk b0 b1 b2 ops.length ⟨0, k * 4, none⟩ o.K o.A o.B o.C (V k) V S (S k)) okJr ?_ (entJ p0 p1 p2 ops.length k hk h1 h3)
  have hv : (rnO 69 #[kdF, opV o.K o.A o.B o.C, slV 2 N, rvJ 5 k] (HJ b0 b1 b2 N ops.length k V S ++ [obE o.K o.A o.B o.C]) (.float .f64 (V k)) []).ok Try.prog := by
    rw [hV k o ho]
    exact jval_rn (W := fun j => slV (6 + j) N) (ow := ow) (ow2 := true) hok h.lx (by rw [hb2]; rfl) (fun hk0 => HJ_rg hk0 _)
  refine okApp' (okApp' ⟨hd.1, hd.2.1, hd.2.2.1, hv, trivial⟩ (each_ok _ _ fun i hi => ?_)) ⟨cmp_ok (decide_eq_false (by omega)), trivial⟩
  have hin := List.mem_range.1 hi
  refine ⟨cmp_ok (decide_eq_true hin), ?_, trivial⟩
  rw [hS k o ho i]
  exact slo_rn (D := fun j => 6 + j) (S := S) (ow2 := true) hok hin (fun hk0 => HJ_rg hk0 _) (fun j hj => HJ_get hj _) (fun a b _ _ e => by omega) (fun j _ => by omega)
theorem roundsJ (h : EvG fC b0 b1 b2 N ops out xs) (p0 : PlO b0) (p1 : PlO b1) (p2 : PlO b2) (hb2 : ∃ ow, b2 = some ⟨(xs.flatMap fC).toArray, 27, 1, ow⟩) (hV : ∀ k o, ops[k]? = some o → V k = vStep xs V o) (hS : ∀ k o, ops[k]? = some o → ∀ i, S k i = sStep V S (V k) o i)
    (h1 : 1 ≤ N) (h3 : N ≤ 4) (hM : ops.length ≤ 13) (hM2 : 2 ≤ ops.length) : ∀ (d k : Nat), k + d = ops.length →
    RdsB Try.prog 3 bodyJr (tmA 73 (LJ N ops.length k)) (HJ b0 b1 b2 N ops.length k V S).toArray (.exit 0, tmA 73 (LJ N ops.length ops.length), (HJ b0 b1 b2 N ops.length ops.length V S).toArray)
  | 0, k, hk => by
    have e : k = ops.length := by omega
    rw [e]
    exact .last (rndB_to (rdJe h1 h3 hM2 (by omega) b0 b1 b2 ops.length V S) okJr ⟨cmp_ok (decide_eq_false (by omega)), trivial⟩ (entJe p0 p1 p2 _ _ (by omega))) (by simp)
  | d + 1, k, hk => by
    have hlt : k < ops.length := by omega
    exact .next (roundJ h p0 p1 p2 hb2 hV hS (List.getElem?_eq_getElem hlt) (by omega) h1 h3) (roundsJ h p0 p1 p2 hb2 hV hS h1 h3 hM hM2 d (k + 1) (by omega))
end

end Go.Proofs.Ytdlinjijccnaeaa

/-!  jac's run of numbers about its rounds. -/
namespace Go.Proofs.Ytdlinjijccnaeaa
open Go
set_option linter.unusedVariables false
set_option linter.unusedSimpArgs false
set_option maxRecDepth 100000

/-- Rows' slices, the first row at c, as far as i. -/
def otJ (c N i : Nat) : Option ABlk := some ⟨((List.range N).map fun j => if j < i then slV (c + j) N else .slice none 0 0).toArray, 37, 1, true⟩
def rowsJ (N : Nat) (R : Nat → Nat → Nat) (i : Nat) : List (Option ABlk) := (List.range i).map fun j => nwF ((List.range N).map (R j))
noncomputable def lgG (H : List (Option ABlk)) (N M : Nat) (u : Nat → Int) (p p' : Nat → Addr) (d : Nat → Nat) (R : Nat → Nat → Nat) : List Obl :=
  (List.range N).flatMap (fun i => [.cmp .lss 3 (.int .i64 (Int.ofNat i)) (.int .i64 (Int.ofNat N)) true, .ex (readVar Try.prog (H ++ [otJ (7 + M) N i] ++ rowsJ N R i).toArray 3 ⟨1, i, none⟩ = some (.int .i64 (u i))),
    .ex (indexAddrV Try.prog 80 (rvJ 5 M) (.int .i64 (u i)) = some (.pointer (some (p i)))), .ex (fieldAddrV Try.prog 83 (.pointer (some (p i))) 1 = some (.pointer (some (p' i)))), .ex (readVar Try.prog (H ++ [otJ (7 + M) N i] ++ rowsJ N R i).toArray 37 (p' i) = some (slV (d i) N)),
    .ex (appendV Try.prog (H ++ [otJ (7 + M) N i] ++ rowsJ N R i).toArray 37 37 (.slice none 0 0) (slV (d i) N) = some (slV (7 + M + i) N, (H ++ [otJ (7 + M) N i] ++ rowsJ N R (i + 1)).toArray))]) ++
  [.cmp .lss 3 (.int .i64 (Int.ofNat N)) (.int .i64 (Int.ofNat N)) false]
def FinJ (N M : Nat) : Prop := ∀ (b0 b1 b2 : Option ABlk) (V : Nat → Nat) (S : Nat → Nat → Nat) (u : Nat → Int) (p p' : Nat → Addr) (d : Nat → Nat) (R : Nat → Nat → Nat),
  (askTB askJr lssC 39 #[kdF, tpV 0 1 N M, slV 2 N] #[b0, b1, b2] ((List.range N).flatMap (fun i => [yes true, vAns (.int .i64 (u i)), pAnsT (p i), pAnsT (p' i), vAns (slV (d i) N), mAnsT (slV (7 + M + i) N) (HJ b0 b1 b2 N M M V S ++ [otJ (7 + M) N i] ++ rowsJ N R (i + 1))]) ++ [yes false])
    [some ⟨.exit 0, tmA 73 (LJ N M M), (HJ b0 b1 b2 N M M V S).toArray⟩, none]).map (fun r => (r.1, r.2.1, r.2.2.1, slL [([2, 3, 4, 7, 16, 17, 18], RJe 0)] r.2.2.2)) =
  some (slV (6 + M) N, (HJ b0 b1 b2 N M M V S ++ [otJ (7 + M) N N] ++ rowsJ N R N).toArray, lgG (HJ b0 b1 b2 N M M V S) N M u p p' d R,
    [(bodyJr, (73, (LJ N M 0).map (·.2), (HJ b0 b1 b2 N M 0 V S).map some), (.exit 0, tmA 73 (LJ N M M), (HJ b0 b1 b2 N M M V S).toArray))])
theorem finJ_1_2 : FinJ 1 2 := fun _ _ _ _ _ _ _ _ _ _ => by kernel_rfl
theorem finJ_1_3 : FinJ 1 3 := fun _ _ _ _ _ _ _ _ _ _ => by kernel_rfl
theorem finJ_1_4 : FinJ 1 4 := fun _ _ _ _ _ _ _ _ _ _ => by kernel_rfl
theorem finJ_1_5 : FinJ 1 5 := fun _ _ _ _ _ _ _ _ _ _ => by kernel_rfl
theorem finJ_1_6 : FinJ 1 6 := fun _ _ _ _ _ _ _ _ _ _ => by kernel_rfl
theorem finJ_1_7 : FinJ 1 7 := fun _ _ _ _ _ _ _ _ _ _ => by kernel_rfl
theorem finJ_1_8 : FinJ 1 8 := fun _ _ _ _ _ _ _ _ _ _ => by kernel_rfl
theorem finJ_1_9 : FinJ 1 9 := fun _ _ _ _ _ _ _ _ _ _ => by kernel_rfl
theorem finJ_1_10 : FinJ 1 10 := fun _ _ _ _ _ _ _ _ _ _ => by kernel_rfl
theorem finJ_1_11 : FinJ 1 11 := fun _ _ _ _ _ _ _ _ _ _ => by kernel_rfl
theorem finJ_1_12 : FinJ 1 12 := fun _ _ _ _ _ _ _ _ _ _ => by kernel_rfl
theorem finJ_1_13 : FinJ 1 13 := fun _ _ _ _ _ _ _ _ _ _ => by kernel_rfl
theorem finJ_2_2 : FinJ 2 2 := fun _ _ _ _ _ _ _ _ _ _ => by kernel_rfl
theorem finJ_2_3 : FinJ 2 3 := fun _ _ _ _ _ _ _ _ _ _ => by kernel_rfl
theorem finJ_2_4 : FinJ 2 4 := fun _ _ _ _ _ _ _ _ _ _ => by kernel_rfl
theorem finJ_2_5 : FinJ 2 5 := fun _ _ _ _ _ _ _ _ _ _ => by kernel_rfl
theorem finJ_2_6 : FinJ 2 6 := fun _ _ _ _ _ _ _ _ _ _ => by kernel_rfl
theorem finJ_2_7 : FinJ 2 7 := fun _ _ _ _ _ _ _ _ _ _ => by kernel_rfl
theorem finJ_2_8 : FinJ 2 8 := fun _ _ _ _ _ _ _ _ _ _ => by kernel_rfl
theorem finJ_2_9 : FinJ 2 9 := fun _ _ _ _ _ _ _ _ _ _ => by kernel_rfl
theorem finJ_2_10 : FinJ 2 10 := fun _ _ _ _ _ _ _ _ _ _ => by kernel_rfl
theorem finJ_2_11 : FinJ 2 11 := fun _ _ _ _ _ _ _ _ _ _ => by kernel_rfl
theorem finJ_2_12 : FinJ 2 12 := fun _ _ _ _ _ _ _ _ _ _ => by kernel_rfl
theorem finJ_2_13 : FinJ 2 13 := fun _ _ _ _ _ _ _ _ _ _ => by kernel_rfl
theorem finJ_3_2 : FinJ 3 2 := fun _ _ _ _ _ _ _ _ _ _ => by kernel_rfl
theorem finJ_3_3 : FinJ 3 3 := fun _ _ _ _ _ _ _ _ _ _ => by kernel_rfl
theorem finJ_3_4 : FinJ 3 4 := fun _ _ _ _ _ _ _ _ _ _ => by kernel_rfl
theorem finJ_3_5 : FinJ 3 5 := fun _ _ _ _ _ _ _ _ _ _ => by kernel_rfl
theorem finJ_3_6 : FinJ 3 6 := fun _ _ _ _ _ _ _ _ _ _ => by kernel_rfl
theorem finJ_3_7 : FinJ 3 7 := fun _ _ _ _ _ _ _ _ _ _ => by kernel_rfl
theorem finJ_3_8 : FinJ 3 8 := fun _ _ _ _ _ _ _ _ _ _ => by kernel_rfl
theorem finJ_3_9 : FinJ 3 9 := fun _ _ _ _ _ _ _ _ _ _ => by kernel_rfl
theorem finJ_3_10 : FinJ 3 10 := fun _ _ _ _ _ _ _ _ _ _ => by kernel_rfl
theorem finJ_3_11 : FinJ 3 11 := fun _ _ _ _ _ _ _ _ _ _ => by kernel_rfl
theorem finJ_3_12 : FinJ 3 12 := fun _ _ _ _ _ _ _ _ _ _ => by kernel_rfl
theorem finJ_3_13 : FinJ 3 13 := fun _ _ _ _ _ _ _ _ _ _ => by kernel_rfl
theorem finJ_4_2 : FinJ 4 2 := fun _ _ _ _ _ _ _ _ _ _ => by kernel_rfl
theorem finJ_4_3 : FinJ 4 3 := fun _ _ _ _ _ _ _ _ _ _ => by kernel_rfl
theorem finJ_4_4 : FinJ 4 4 := fun _ _ _ _ _ _ _ _ _ _ => by kernel_rfl
theorem finJ_4_5 : FinJ 4 5 := fun _ _ _ _ _ _ _ _ _ _ => by kernel_rfl
theorem finJ_4_6 : FinJ 4 6 := fun _ _ _ _ _ _ _ _ _ _ => by kernel_rfl
theorem finJ_4_7 : FinJ 4 7 := fun _ _ _ _ _ _ _ _ _ _ => by kernel_rfl
theorem finJ_4_8 : FinJ 4 8 := fun _ _ _ _ _ _ _ _ _ _ => by kernel_rfl
theorem finJ_4_9 : FinJ 4 9 := fun _ _ _ _ _ _ _ _ _ _ => by kernel_rfl
theorem finJ_4_10 : FinJ 4 10 := fun _ _ _ _ _ _ _ _ _ _ => by kernel_rfl
theorem finJ_4_11 : FinJ 4 11 := fun _ _ _ _ _ _ _ _ _ _ => by kernel_rfl
theorem finJ_4_12 : FinJ 4 12 := fun _ _ _ _ _ _ _ _ _ _ => by kernel_rfl
theorem finJ_4_13 : FinJ 4 13 := fun _ _ _ _ _ _ _ _ _ _ => by kernel_rfl
theorem finJ_1 : ∀ M, 2 ≤ M → M < 14 → FinJ 1 M
  | 0, h, _ => absurd h (by omega)
  | 1, h, _ => absurd h (by omega)
  | 2, _, _ => finJ_1_2
  | 3, _, _ => finJ_1_3
  | 4, _, _ => finJ_1_4
  | 5, _, _ => finJ_1_5
  | 6, _, _ => finJ_1_6
  | 7, _, _ => finJ_1_7
  | 8, _, _ => finJ_1_8
  | 9, _, _ => finJ_1_9
  | 10, _, _ => finJ_1_10
  | 11, _, _ => finJ_1_11
  | 12, _, _ => finJ_1_12
  | 13, _, _ => finJ_1_13
  | n + 14, _, h => absurd h (by omega)
theorem finJ_2 : ∀ M, 2 ≤ M → M < 14 → FinJ 2 M
  | 0, h, _ => absurd h (by omega)
  | 1, h, _ => absurd h (by omega)
  | 2, _, _ => finJ_2_2
  | 3, _, _ => finJ_2_3
  | 4, _, _ => finJ_2_4
  | 5, _, _ => finJ_2_5
  | 6, _, _ => finJ_2_6
  | 7, _, _ => finJ_2_7
  | 8, _, _ => finJ_2_8
  | 9, _, _ => finJ_2_9
  | 10, _, _ => finJ_2_10
  | 11, _, _ => finJ_2_11
  | 12, _, _ => finJ_2_12
  | 13, _, _ => finJ_2_13
  | n + 14, _, h => absurd h (by omega)
theorem finJ_3 : ∀ M, 2 ≤ M → M < 14 → FinJ 3 M
  | 0, h, _ => absurd h (by omega)
  | 1, h, _ => absurd h (by omega)
  | 2, _, _ => finJ_3_2
  | 3, _, _ => finJ_3_3
  | 4, _, _ => finJ_3_4
  | 5, _, _ => finJ_3_5
  | 6, _, _ => finJ_3_6
  | 7, _, _ => finJ_3_7
  | 8, _, _ => finJ_3_8
  | 9, _, _ => finJ_3_9
  | 10, _, _ => finJ_3_10
  | 11, _, _ => finJ_3_11
  | 12, _, _ => finJ_3_12
  | 13, _, _ => finJ_3_13
  | n + 14, _, h => absurd h (by omega)
theorem finJ_4 : ∀ M, 2 ≤ M → M < 14 → FinJ 4 M
  | 0, h, _ => absurd h (by omega)
  | 1, h, _ => absurd h (by omega)
  | 2, _, _ => finJ_4_2
  | 3, _, _ => finJ_4_3
  | 4, _, _ => finJ_4_4
  | 5, _, _ => finJ_4_5
  | 6, _, _ => finJ_4_6
  | 7, _, _ => finJ_4_7
  | 8, _, _ => finJ_4_8
  | 9, _, _ => finJ_4_9
  | 10, _, _ => finJ_4_10
  | 11, _, _ => finJ_4_11
  | 12, _, _ => finJ_4_12
  | 13, _, _ => finJ_4_13
  | n + 14, _, h => absurd h (by omega)
theorem finJ {N M : Nat} (h1 : 1 ≤ N) (h2 : N ≤ 4) (h3 : 2 ≤ M) (h4 : M < 14) : FinJ N M := by
  have : N = 1 ∨ N = 2 ∨ N = 3 ∨ N = 4 := by omega
  rcases this with rfl | rfl | rfl | rfl
  · exact finJ_1 M h3 h4
  · exact finJ_2 M h3 h4
  · exact finJ_3 M h3 h4
  · exact finJ_4 M h3 h4

end Go.Proofs.Ytdlinjijccnaeaa

/-!  Contracts that make memory, about a part of memory, told by other numbers. -/
namespace Go.Proofs.Ytdlinjijccnaeaa
open Go
set_option linter.unusedVariables false
set_option linter.unusedSimpArgs false
set_option maxRecDepth 100000

section
variable {P : Program}
/-- Where a number of here (the new ones shifted) was. -/
def rhoN (c1 c2 big : Nat) (b : Nat) : Nat := if b < c1 then big else b - c1 + c2
def mpN (c1 z1 : Nat) (ρ1 : Nat → Nat) (m m' : Mp) : Mp := ((List.range z1).map fun b => if b < c1 then (m[b]?).getD deadLoc else (m'[ρ1 b]?).getD deadLoc).toArray
theorem mpN_size (c1 z1 : Nat) (ρ1 : Nat → Nat) (m m' : Mp) : (mpN c1 z1 ρ1 m m').size = z1 := by simp [mpN]
theorem mpN_lo {c1 z1 : Nat} {ρ1 : Nat → Nat} {m m' : Mp} {b : Nat} {l : Loc} (hb : b < c1) (hz : b < z1) (h : m[b]? = some l) : (mpN c1 z1 ρ1 m m')[b]? = some l := by
  unfold mpN
  simp only [List.getElem?_toArray, List.getElem?_map, List.getElem?_range hz, Option.map_some, if_pos hb, h, Option.getD_some]
theorem mpN_hi {c1 z1 : Nat} {ρ1 : Nat → Nat} {m m' : Mp} {b : Nat} {l : Loc} (hb : ¬ b < c1) (hz : b < z1) (h : m'[ρ1 b]? = some l) : (mpN c1 z1 ρ1 m m')[b]? = some l := by
  unfold mpN
  simp only [List.getElem?_toArray, List.getElem?_map, List.getElem?_range hz, Option.map_some, if_neg hb, h, Option.getD_some]
theorem mpN_back {c1 z1 : Nat} {ρ1 : Nat → Nat} {m m' : Mp} {b : Nat} {l : Loc} (h : (mpN c1 z1 ρ1 m m')[b]? = some l) (hl : l.live = true) : b < z1 ∧ ((b < c1 ∧ m[b]? = some l) ∨ (¬ b < c1 ∧ m'[ρ1 b]? = some l)) := by
  have hb : b < z1 := by have := lt_of_get h; rwa [mpN_size] at this
  refine ⟨hb, ?_⟩
  unfold mpN at h
  simp only [List.getElem?_toArray, List.getElem?_map, List.getElem?_range hb, Option.map_some, Option.some.injEq] at h
  by_cases hc : b < c1
  · rw [if_pos hc] at h
    refine .inl ⟨hc, ?_⟩
    cases hm : m[b]? with
    | none => rw [hm] at h; simp only [Option.getD_none] at h; subst h; cases hl
    | some l2 => rw [hm] at h; simp only [Option.getD_some] at h; rw [h]
  · rw [if_neg hc] at h
    refine .inr ⟨hc, ?_⟩
    cases hm : m'[ρ1 b]? with
    | none => rw [hm] at h; simp only [Option.getD_none] at h; subst h; cases hl
    | some l2 => rw [hm] at h; simp only [Option.getD_some] at h; rw [h]
/-- The new blocks, there (right) and here (left). -/
structure RelN (z1 : Nat) (ρ1 : Nat → Nat) (bs1 bs2 : AHeap) : Prop where
  size : bs1.size = bs2.size
  blk : ∀ (j : Nat) (B1 : ABlk), bs1[j]? = some (some B1) → ∃ B2, bs2[j]? = some (some B2) ∧ RelK z1 ρ1 B1 B2
theorem Runs.viewN {f : FuncId} {args2 args1 : Array Value} {H2 bs2 H1 bs1 : AHeap} {v2 v1 : Value} {ρ : Nat → Nat} (h : Runs P f args2 H2 v2 (H2 ++ bs2)) (hf2 : AllFrozen H2) (hf1 : AllFrozen H1) (hs : RelS 0 ρ args2.toList H2 args1.toList H1)
    (hv : RelA (H1.size + bs1.size) (rhoN H1.size H2.size (H2.size + bs2.size)) v1 v2) (hb : RelN (H1.size + bs1.size) (rhoN H1.size H2.size (H2.size + bs2.size)) bs1 bs2) : Runs P f args1 H1 v1 (H1 ++ bs1) := by
  intro m w args' hr ha
  have ha2 : VRs (reM H2.size ρ m) args2 args' := by
    have hl : args2.size = args1.size := by simpa using hs.len
    refine ⟨hl.trans ha.1, fun i h1 h2 => ?_⟩
    refine (hs.tmp i args2[i] (args1[i]'(by omega)) ?_ ?_).vr (ha.2 i (by omega) h2)
    · simp [h1]
    · simp [show i < args1.size by omega]
  obtain ⟨h1, h2⟩ := h (reM H2.size ρ m) w args' (hs.hr hr) ha2
  refine ⟨h1, h2.mono ?_⟩
  rintro e w' ⟨v', m', he, hvr, hr', hst⟩
  have hk := fun g (hg : g < w.heap.size) => hst.keep g hg (hf2.nofp _)
  have hms : m.size = H1.size := hr.size
  have hms' : m'.size = H2.size + bs2.size := by rw [hr'.size]; simp
  generalize hz : H1.size + bs1.size = z1 at hv hb
  generalize hρ : rhoN H1.size H2.size (H2.size + bs2.size) = ρ1 at hv hb
  have hlo : ∀ b, b < H1.size → ρ1 b = H2.size + bs2.size := fun b hb => by rw [← hρ]; unfold rhoN; rw [if_pos hb]
  have hhi : ∀ j, ρ1 (H1.size + j) = H2.size + j := fun j => by rw [← hρ]; unfold rhoN; rw [if_neg (by omega)]; omega
  have ext : Ext m (mpN H1.size z1 ρ1 m m') := fun b l hl => by
    have := lt_of_get hl
    exact mpN_lo (by omega) (by omega) hl
  have extL : ExtL (reM z1 ρ1 m') (mpN H1.size z1 ρ1 m m') := fun b l hb hl => by
    obtain ⟨g1, g2⟩ := reM_back hb hl
    by_cases hc : b < H1.size
    · rw [hlo b hc] at g2
      have := lt_of_get g2
      omega
    · exact mpN_hi hc g1 g2
  have newFP : ∀ (j : Nat) (B2 : ABlk) (l : Loc), bs2[j]? = some (some B2) → B2.own = true → m'[H2.size + j]? = some l → w.heap.size ≤ l.blk := fun j B2 l hj ho hl => by
    have hB : (H2 ++ bs2)[H2.size + j]? = some (some B2) := by rw [Array.getElem?_append_right (by omega)]; simpa using hj
    rcases hst.fp l.blk ⟨_, B2, l, hB, ho, hl, rfl⟩ with g | g
    · exact absurd g (hf2.nofp _)
    · exact g
  have sp : ∀ (b : Nat) (B : ABlk), (H1 ++ bs1)[b]? = some (some B) → (b < H1.size ∧ H1[b]? = some (some B)) ∨ ∃ j, b = H1.size + j ∧ bs1[j]? = some (some B) := fun b B hB => by
    by_cases hc : b < H1.size
    · rw [Array.getElem?_append_left hc] at hB
      exact .inl ⟨hc, hB⟩
    · refine .inr ⟨b - H1.size, by omega, ?_⟩
      rw [Array.getElem?_append_right (by omega)] at hB
      exact hB
  refine ⟨v', _, he, (hv.vr hvr).monoL extL, ⟨by rw [mpN_size]; simp [← hz], ?_, ?_, ?_⟩, ⟨ext, hst.os, hst.tape, hst.output, hst.size, fun g hg _ => hk g hg, ?_⟩⟩
  · intro b l hb hl
    obtain ⟨_, ⟨_, g⟩ | ⟨_, g⟩⟩ := mpN_back hb hl
    · exact Nat.lt_of_lt_of_le (hr.old b l g hl) hst.size
    · exact hr'.old _ l g hl
  · intro b B hB
    rcases sp b B hB with ⟨hc, hB⟩ | ⟨j, rfl, hj⟩
    · obtain ⟨l, cs, fr, hl, r⟩ := hr.blk b B hB
      exact ⟨l, cs, fr, ext b l hl, r.mono ext (hk _ (hr.old b l hl r.live))⟩
    · obtain ⟨B2, hj2, hK⟩ := hb.blk j B hj
      have hB2 : (H2 ++ bs2)[H2.size + j]? = some (some B2) := by rw [Array.getElem?_append_right (by omega)]; simpa using hj2
      obtain ⟨l, cs, fr, hl, r⟩ := hr'.blk _ B2 hB2
      have hjs := lt_of_get hj
      refine ⟨l, cs, fr, mpN_hi (by omega) (by omega) (by rw [hhi]; exact hl), r.real, r.size, fun o => r.own (hK.own o), fun o => ?_, ?_, fun i v hv => ?_, r.live⟩
      · obtain ⟨g1, g2, g3, g4⟩ := r.mine (hK.own o)
        exact ⟨g1, g2, g3.trans hK.elem.symm, g4.trans hK.esz.symm⟩
      · have := r.fits; have := hK.size; omega
      · have hi : i < B2.cells.size := Nat.lt_of_lt_of_le (lt_of_get hv) hK.size
        obtain ⟨v', g1, g2⟩ := r.vals i _ (Array.getElem?_eq_getElem hi)
        exact ⟨v', g1, ((hK.cells i v _ hv (Array.getElem?_eq_getElem hi)).vr g2).monoL extL⟩
  · intro b b' B B' l l' hB hB' hl hl' ho he
    rcases sp b B hB with ⟨hc, hB⟩ | ⟨j, rfl, hj⟩
    · rw [hf1 b B hB] at ho; cases ho
    · obtain ⟨B2, hj2, hK⟩ := hb.blk j B hj
      have hB2 : (H2 ++ bs2)[H2.size + j]? = some (some B2) := by rw [Array.getElem?_append_right (by omega)]; simpa using hj2
      obtain ⟨l0, cs, fr, hl0, r⟩ := hr'.blk _ B2 hB2
      have hjs := lt_of_get hj
      have e1 := mpN_hi (c1 := H1.size) (z1 := z1) (ρ1 := ρ1) (m := m) (m' := m') (show ¬ H1.size + j < H1.size by omega) (by omega) (by rw [hhi]; exact hl0)
      rw [e1] at hl
      injection hl with hl
      subst hl
      have hge := newFP j B2 l0 hj2 (hK.own ho) hl0
      rcases sp b' B' hB' with ⟨hc', hB'⟩ | ⟨j', rfl, hj'⟩
      · obtain ⟨l1, cs1, fr1, hl1, r1⟩ := hr.blk b' B' hB'
        have e2 := ext b' l1 hl1
        rw [e2] at hl'
        injection hl' with hl'
        subst hl'
        have := hr.old b' l1 hl1 r1.live
        omega
      · obtain ⟨B2', hj2', hK'⟩ := hb.blk j' B' hj'
        have hB2' : (H2 ++ bs2)[H2.size + j']? = some (some B2') := by rw [Array.getElem?_append_right (by omega)]; simpa using hj2'
        obtain ⟨l1, cs1, fr1, hl1, r1⟩ := hr'.blk _ B2' hB2'
        have hjs' := lt_of_get hj'
        have e2 := mpN_hi (c1 := H1.size) (z1 := z1) (ρ1 := ρ1) (m := m) (m' := m') (show ¬ H1.size + j' < H1.size by omega) (by omega) (by rw [hhi]; exact hl1)
        rw [e2] at hl'
        injection hl' with hl'
        subst hl'
        have := hr'.inj _ _ B2 B2' l0 l1 hB2 hB2' hl0 hl1 (hK.own ho) he
        omega
  · rintro g ⟨b, B, l, hB, ho, hl, rfl⟩
    rcases sp b B hB with ⟨hc, hB⟩ | ⟨j, rfl, hj⟩
    · rw [hf1 b B hB] at ho; cases ho
    · obtain ⟨B2, hj2, hK⟩ := hb.blk j B hj
      have hB2 : (H2 ++ bs2)[H2.size + j]? = some (some B2) := by rw [Array.getElem?_append_right (by omega)]; simpa using hj2
      obtain ⟨l0, cs, fr, hl0, r⟩ := hr'.blk _ B2 hB2
      have hjs := lt_of_get hj
      have e1 := mpN_hi (c1 := H1.size) (z1 := z1) (ρ1 := ρ1) (m := m) (m' := m') (show ¬ H1.size + j < H1.size by omega) (by omega) (by rw [hhi]; exact hl0)
      rw [e1] at hl
      injection hl with hl
      subst hl
      exact .inr (newFP j B2 l0 hj2 (hK.own ho) hl0)
end

end Go.Proofs.Ytdlinjijccnaeaa

/-!  jac.Jac: its contract, in any memory that holds a field and numbers. -/
namespace Go.Proofs.Ytdlinjijccnaeaa
open Go
set_option linter.unusedVariables false
set_option linter.unusedSimpArgs false
set_option maxRecDepth 100000

/-! what is reckoned -/
def stD (K : Int) (a b : Nat × (Nat → Nat)) : Nat × (Nat → Nat) := (opF K a.1 b.1, fun j => slF K a.1 b.1 (opF K a.1 b.1) (a.2 j) (b.2 j))
def vrD (xs : List Nat) (i : Nat) : Nat × (Nat → Nat) := (xs.getD i 0, fun j => if i = j then 4607182418800017408 else 0)
def regD (ops : List OpD) (xs : List Nat) : Nat → Nat × (Nat → Nat) := regT (0, fun _ => 0) (fun c => (c, fun _ => 0)) stD (vrD xs) ops
theorem regD_v {ops : List OpD} {xs : List Nat} {k N : Nat} {o : OpD} (h : ops[k]? = some o) (ho : opOkD k N o) : (regD ops xs k).1 = vStep xs (fun j => (regD ops xs j).1) o := by
  have e : regD ops xs k = stepT (fun c => (c, fun _ => 0)) stD (vrD xs) (regD ops xs) o := regT_at h ho
  rw [e]
  unfold vStep stepT
  split
  · rfl
  split
  · rfl
  · rfl
theorem regD_s {ops : List OpD} {xs : List Nat} {k N : Nat} {o : OpD} (h : ops[k]? = some o) (ho : opOkD k N o) (i : Nat) : (regD ops xs k).2 i = sStep (fun j => (regD ops xs j).1) (fun j => (regD ops xs j).2) ((regD ops xs k).1) o i := by
  have e : regD ops xs k = stepT (fun c => (c, fun _ => 0)) stD (vrD xs) (regD ops xs) o := regT_at h ho
  rw [e]
  unfold sStep stepT
  split
  · rfl
  split
  · rename_i h1
    have hA : 0 ≤ o.A := by
      rcases ho with h | h | h
      · omega
      · exact h.2.1
      · omega
    show (if o.A.toNat = i then 4607182418800017408 else 0) = _
    by_cases e : o.A = (i : Int)
    · rw [if_pos e, if_pos (by omega)]
    · rw [if_neg e, if_neg (by omega)]
  · rfl

/-! tables in memory -/
def rowJb (N : Nat) (R : Nat → Nat) : ABlk := ⟨(((List.range N).map R).flatMap fC).toArray, 27, 1, true⟩
def otJb (c N : Nat) : ABlk := ⟨((List.range N).map fun j => if j < N then slV (c + j) N else .slice none 0 0).toArray, 37, 1, true⟩
def tabJ (c N : Nat) (R : Nat → Nat → Nat) : List (Option ABlk) := rowsJ N R N ++ [otJ c N N]
theorem tab_len (c N : Nat) (R : Nat → Nat → Nat) : (tabJ c N R).length = N + 1 := by simp [tabJ, rowsJ]
theorem tab_row {c N : Nat} {R : Nat → Nat → Nat} {j : Nat} (h : j < N) : (tabJ c N R)[j]? = some (some (rowJb N (R j))) := by
  unfold tabJ rowsJ
  rw [List.getElem?_append_left (by simp; exact h), List.getElem?_map, List.getElem?_range h]
  rfl
theorem tab_ot (c N : Nat) (R : Nat → Nat → Nat) : (tabJ c N R)[N]? = some (some (otJb c N)) := by
  unfold tabJ rowsJ
  rw [List.getElem?_append_right (by simp)]
  simp
  rfl
theorem tab_cases {c N : Nat} {R : Nat → Nat → Nat} {j : Nat} {B : ABlk} (h : (tabJ c N R)[j]? = some (some B)) : (j < N ∧ B = rowJb N (R j)) ∨ (j = N ∧ B = otJb c N) := by
  have hl := (List.getElem?_eq_some_iff.1 h).1
  rw [tab_len] at hl
  by_cases hj : j < N
  · rw [tab_row hj] at h
    injection h with h; injection h with h
    exact .inl ⟨hj, h.symm⟩
  · have : j = N := by omega
    subst this
    rw [tab_ot] at h
    injection h with h; injection h with h
    exact .inr ⟨rfl, h.symm⟩
theorem row_relK {z : Nat} {ρ : Nat → Nat} (N : Nat) (R : Nat → Nat) : RelK z ρ (rowJb N R) (rowJb N R) := RelK.plain (plain_flat fC_cl _ _ _ _)
theorem ot_relK {z : Nat} {ρ : Nat → Nat} {c1 c2 N : Nat} (h : ∀ j, j < N → c1 + j < z ∧ ρ (c1 + j) = c2 + j) : RelK z ρ (otJb c1 N) (otJb c2 N) := by
  refine RelK.list ?_
  have key : ∀ l : List Nat, (∀ j ∈ l, j < N) → RelAs z ρ (l.map fun j => if j < N then slV (c1 + j) N else .slice none 0 0) (l.map fun j => if j < N then slV (c2 + j) N else .slice none 0 0) := by
    intro l
    induction l with
    | nil => intro _; exact .nil
    | cons j l ih =>
      intro hl
      have hj := hl j (List.mem_cons_self ..)
      refine .cons ?_ (ih fun i hi => hl i (List.mem_cons_of_mem _ hi))
      show RelA z ρ (if j < N then slV (c1 + j) N else .slice none 0 0) (if j < N then slV (c2 + j) N else .slice none 0 0)
      rw [if_pos hj, if_pos hj]
      exact .slice (c1 + j) (c2 + j) 0 none _ _ _ (h j hj).1 (h j hj).2
  exact key _ fun j hj => List.mem_range.1 hj
section
variable {P : Program}
/-- A table that was made: its numbers. -/
theorem Runs.tab {f : FuncId} {args : Array Value} {b0 b1 b2 : Option ABlk} {N c e : Nat} {R : Nat → Nat → Nat} {H1 : AHeap} (h : Runs P f args #[b0, b1, b2] (slV e N) H1) (p0 : PlO b0) (p1 : PlO b1) (p2 : PlO b2)
    (q0 : H1[0]? = some b0) (q1 : H1[1]? = some b1) (q2 : H1[2]? = some b2) (hr : ∀ j, j < N → H1[c + j]? = some (some (rowJb N (R j)))) (he : H1[e]? = some (some (otJb c N))) (hc : 3 ≤ c) (he3 : 3 ≤ e) (hne : ∀ j, j < N → e ≠ c + j) :
    Runs P f args #[b0, b1, b2] (slV (3 + N) N) (#[b0, b1, b2] ++ (tabJ 3 N R).toArray) := by
  let ρ : Nat → Nat := fun b => if b < 3 then b else if b < 3 + N then b - 3 + c else e
  have hs : (#[b0, b1, b2] ++ (tabJ 3 N R).toArray : AHeap).size = 4 + N := by
    have h1 : (tabJ 3 N R).toArray.size = N + 1 := by rw [List.size_toArray, tab_len]
    rw [Array.size_append, h1]
    show 3 + (N + 1) = 4 + N
    omega
  have r0 : ∀ b, b < 3 → ρ b = b := fun b hb => if_pos hb
  have r1 : ∀ j, j < N → ρ (3 + j) = c + j := fun j hj => by show (if _ then _ else _) = _; rw [if_neg (by omega), if_pos (by omega)]; omega
  have r2 : ρ (3 + N) = e := by show (if _ then _ else _) = _; rw [if_neg (by omega), if_neg (by omega)]
  have sp : ∀ (b : Nat) (B : ABlk), (#[b0, b1, b2] ++ (tabJ 3 N R).toArray : AHeap)[b]? = some (some B) → (b < 3 ∧ (#[b0, b1, b2] : AHeap)[b]? = some (some B)) ∨ (∃ j, j < N ∧ b = 3 + j ∧ B = rowJb N (R j)) ∨ (b = 3 + N ∧ B = otJb 3 N) := fun b B hB => by
    by_cases hb : b < 3
    · rw [Array.getElem?_append_left (by simp; omega)] at hB
      exact .inl ⟨hb, hB⟩
    · rw [Array.getElem?_append_right (by simp; omega), List.getElem?_toArray] at hB
      rcases tab_cases hB with ⟨g1, g2⟩ | ⟨g1, g2⟩
      · exact .inr (.inl ⟨_, g1, by simp; omega, g2⟩)
      · exact .inr (.inr ⟨by simp at g1; omega, g2⟩)
  refine Runs.ren (ρ := ρ) h ⟨fun b hb => ⟨by rw [hs]; simp at hb; omega, r0 b (by simpa using hb)⟩, rfl, ?_, ?_, ?_⟩
  · intro i v2 v1 h2 h1
    match i, h2, h1 with
    | 0, h2, h1 =>
      injection h2 with h2; injection h1 with h1
      subst h2 h1
      rw [hs]
      exact .slice (3 + N) e 0 none _ _ _ (by omega) r2
    | n + 1, h2, _ => simp at h2
  · intro b B hB
    rw [hs]
    rcases sp b B hB with ⟨hb, g⟩ | ⟨j, hj, rfl, rfl⟩ | ⟨rfl, rfl⟩
    · rw [r0 b hb]
      match b, g with
      | 0, g => exact ⟨B, q0.trans (by simpa using g), RelK.plain fun i v hv => p0 B (by simpa using g) i v hv⟩
      | 1, g => exact ⟨B, q1.trans (by simpa using g), RelK.plain fun i v hv => p1 B (by simpa using g) i v hv⟩
      | 2, g => exact ⟨B, q2.trans (by simpa using g), RelK.plain fun i v hv => p2 B (by simpa using g) i v hv⟩
      | n + 3, g => simp at g
    · rw [r1 j hj]
      exact ⟨_, hr j hj, row_relK _ _⟩
    · rw [r2]
      exact ⟨_, he, ot_relK fun j hj => ⟨by omega, r1 j hj⟩⟩
  · intro b b' B B' hB hB' heq
    rcases sp b B hB with ⟨hb, _⟩ | ⟨j, hj, rfl, _⟩ | ⟨rfl, _⟩ <;> rcases sp b' B' hB' with ⟨hb', _⟩ | ⟨j', hj', rfl, _⟩ | ⟨rfl, _⟩
    · rw [r0 b hb, r0 b' hb'] at heq; exact heq
    · rw [r0 b hb, r1 j' hj'] at heq; omega
    · rw [r0 b hb, r2] at heq; omega
    · rw [r1 j hj, r0 b' hb'] at heq; omega
    · rw [r1 j hj, r1 j' hj'] at heq; omega
    · rw [r1 j hj, r2] at heq; exact absurd heq.symm (hne j hj)
    · rw [r2, r0 b' hb'] at heq; omega
    · rw [r2, r1 j' hj'] at heq; exact absurd heq (hne j' hj')
    · rfl
/-- A table that is made, in any memory. -/
theorem Runs.tabAt {f : FuncId} {args2 args1 : Array Value} {c0 c1 c2 B0 B1 B2 : ABlk} {N : Nat} {R : Nat → Nat → Nat} {H : AHeap} {bo bu bx : Nat} (h : Runs P f args2 #[some c0, some c1, some c2] (slV (3 + N) N) (#[some c0, some c1, some c2] ++ (tabJ 3 N R).toArray))
    (o0 : c0.own = false) (o1 : c1.own = false) (o2 : c2.own = false) (p0 : PlainB c0) (p1 : PlainB c1) (p2 : PlainB c2) (hH : AllFrozen H) (h0 : H[bo]? = some (some c0)) (h1 : H[bu]? = some (some c1)) (h2 : H[bx]? = some (some c2)) (n1 : bo ≠ bu) (n2 : bo ≠ bx) (n3 : bu ≠ bx)
    (ha : RelAs 3 (fun b => if b = 0 then bo else if b = 1 then bu else bx) args2.toList args1.toList) : Runs P f args1 H (slV (H.size + N) N) (H ++ (tabJ H.size N R).toArray) := by
  obtain ⟨g1, g2⟩ := relAs_at ha
  have rs : RelS 0 (fun b => if b = 0 then bo else if b = 1 then bu else bx) args2.toList #[some c0, some c1, some c2] args1.toList H := by
    refine rel2 g1 g2 (fun b B h => ?_) (fun b b' B B' h h' he => ?_)
    · match b, h with
      | 0, h => injection h with h; injection h with h; subst h; exact ⟨_, h0, RelK.plain p0⟩
      | 1, h => injection h with h; injection h with h; subst h; exact ⟨_, h1, RelK.plain p1⟩
      | 2, h => injection h with h; injection h with h; subst h; exact ⟨_, h2, RelK.plain p2⟩
      | n + 3, h => simp at h
    · match b, b', h, h' with
      | 0, 0, _, _ => rfl
      | 1, 1, _, _ => rfl
      | 2, 2, _, _ => rfl
      | 0, 1, _, _ => exact absurd he n1
      | 0, 2, _, _ => exact absurd he n2
      | 1, 0, _, _ => exact absurd he.symm n1
      | 1, 2, _, _ => exact absurd he n3
      | 2, 0, _, _ => exact absurd he.symm n2
      | 2, 1, _, _ => exact absurd he.symm n3
      | n + 3, _, h, _ => simp at h
      | 0, n + 3, _, h => simp at h
      | 1, n + 3, _, h => simp at h
      | 2, n + 3, _, h => simp at h
  have hl1 : (tabJ H.size N R).toArray.size = N + 1 := by rw [List.size_toArray, tab_len]
  have hl2 : (tabJ 3 N R).toArray.size = N + 1 := by rw [List.size_toArray, tab_len]
  have s3 : (#[some c0, some c1, some c2] : AHeap).size = 3 := rfl
  have rh : ∀ j, rhoN H.size 3 (3 + (N + 1)) (H.size + j) = 3 + j := fun j => by unfold rhoN; rw [if_neg (by omega)]; omega
  have hf3 : AllFrozen #[some c0, some c1, some c2] := by
    intro b B hB
    match b, hB with
    | 0, hB => injection hB with hB; injection hB with hB; subst hB; exact o0
    | 1, hB => injection hB with hB; injection hB with hB; subst hB; exact o1
    | 2, hB => injection hB with hB; injection hB with hB; subst hB; exact o2
    | n + 3, hB => simp at hB
  refine Runs.viewN h hf3 hH rs ?_ ⟨by rw [hl1, hl2], fun j B1 hj => ?_⟩
  · rw [hl1, hl2, s3]
    exact .slice (H.size + N) (3 + N) 0 none _ _ _ (by omega) (rh N)
  · rw [hl1, hl2, s3]
    rw [List.getElem?_toArray] at hj
    rcases tab_cases hj with ⟨g, rfl⟩ | ⟨rfl, rfl⟩
    · exact ⟨_, by rw [List.getElem?_toArray]; exact tab_row g, row_relK _ _⟩
    · exact ⟨_, by rw [List.getElem?_toArray]; exact tab_ot 3 _ R, ot_relK fun i hi => ⟨by omega, rh i⟩⟩
end

end Go.Proofs.Ytdlinjijccnaeaa

/-!  jac.Jac: its contract, in any memory that holds a field and numbers. -/
namespace Go.Proofs.Ytdlinjijccnaeaa
open Go
set_option linter.unusedVariables false
set_option linter.unusedSimpArgs false
set_option maxRecDepth 100000

theorem fa_rg1 (b o : Nat) : fieldAddrV Try.prog 83 (.pointer (some ⟨b, o, none⟩)) 1 = some (.pointer (some ⟨b, o + 1, none⟩)) := by kernel_rfl
theorem ty_fsP : isPlainB Try.prog 37 = true := by kernel_rfl
theorem rg_get1 : ∀ (l : List (Nat × Value)) (k : Nat) (a : Nat × Value), l[k]? = some a → (l.flatMap rgC)[k * 2 + 1]? = some a.2
  | [], k, a, h => by simp at h
  | x :: l, 0, a, h => by
    simp only [List.getElem?_cons_zero, Option.some.injEq] at h
    subst h
    rfl
  | x :: l, k + 1, a, h => by
    rw [List.getElem?_cons_succ] at h
    rw [List.flatMap_cons, List.getElem?_append_right (by simp [rgC]; omega)]
    rw [show (k + 1) * 2 + 1 - (rgC x).length = k * 2 + 1 by simp [rgC]; omega]
    exact rg_get1 l k a h
theorem rdRd {H : AHeap} {b k : Nat} {B : ABlk} {l : List (Nat × Value)} {a : Nat × Value} (hb : H[b]? = some (some B)) (hc : B.cells = (l.flatMap rgC).toArray) (hk : l[k]? = some a) {o : Nat} (ho : o = k * 2 + 1) : readVar Try.prog H 37 ⟨b, o, none⟩ = some a.2 :=
  rd_one (g := fun x : Value => x) (isPlainB_ex ty_fsP) hb (by rw [flatIdR, hc]) (rg_get1 l k a hk) ho
theorem gr_fs : growOk Try.prog 37 27 1 = true := by kernel_rfl

section
variable {P : Program}
theorem app_nilL {α : Type} {f : α → List Value} {n : Nat} (hf : ∀ a, (f a).length = n) (hone : ∀ a, (f a).all oneC = true) {t e : TypeId} (hg : growOk P t e n = true) {H : AHeap} {bx c' N : Nat} {Bx : ABlk} {l : List α} (hx : H[bx]? = some (some Bx)) (hcx : Bx.cells = (l.flatMap f).toArray) (hl : l.length = N) (h1 : 1 ≤ N) (h2 : N ≤ 1000) :
    appendV P H t t (.slice none 0 0) (.slice (some ⟨bx, 0, none⟩) N c') = some (.slice (some ⟨H.size, 0, none⟩) N N, H.push (some ⟨(l.flatMap f).toArray, e, n, true⟩)) := by
  obtain ⟨hu, i, z, hi, g1, g2, g3, hz, g4⟩ := growOk_ex hg
  have hlen : ∀ l : List α, (l.flatMap f).length = l.length * n := by
    intro l
    induction l with
    | nil => simp
    | cons a l ih => rw [List.flatMap_cons, List.length_append, hf, ih, List.length_cons, Nat.add_mul, Nat.one_mul, Nat.add_comm]
  have hcut : cut Bx.cells 0 (N * n) = (l.flatMap f).toArray := by
    unfold cut
    rw [hcx, List.drop_zero, List.toList_toArray, List.take_of_length_le (by rw [hlen, hl]; exact Nat.le_refl _)]
  have hnews : newsV H i.size (.slice (some ⟨bx, 0, none⟩) N c') = some (N, (l.flatMap f).toArray) := by
    unfold newsV
    simp only [hx, g1]
    rw [if_pos]
    · rw [hcut]
    · rw [hcut, Bool.and_eq_true]
      refine ⟨decide_eq_true ?_, ?_⟩
      · rw [hcx, List.size_toArray, hlen, hl]
        omega
      · show (l.flatMap f).all oneC = true
        rw [List.all_flatMap]
        exact List.all_eq_true.2 fun a _ => hone a
  unfold appendV
  simp only [hu, hi, hz]
  rw [if_pos]
  · simp only [hnews]
    rw [if_neg (by omega), if_pos (by omega), g1]
  · simp only [beq_self_eq_true, Bool.true_and, Bool.and_eq_true, beq_iff_eq, decide_eq_true_eq]
    exact ⟨⟨by omega, by omega⟩, g3⟩
end
section
variable {c0 c1 c2 : ABlk} {N : Nat} {ops : List OpD} {out : List Int} {xs : List Nat}
def rwD (ops : List OpD) (xs : List Nat) (out : List Int) (i : Nat) : Nat → Nat := (regD ops xs (out.getD i 0).toNat).2
theorem plO_of {B : ABlk} (h : PlainB B) : PlO (some B) := by
  intro C hC
  injection hC with hC
  subst hC
  exact h
theorem jac_run (h : EvG fC (some c0) (some c1) (some c2) N ops out xs) (o0 : c0.own = false) (o1 : c1.own = false) (p0 : PlainB c0) (p1 : PlainB c1) (p2 : PlainB c2) (hb2 : c2 = ⟨(xs.flatMap fC).toArray, 27, 1, false⟩) (h1 : 1 ≤ N) (h3 : N ≤ 4) (hM : ops.length ≤ 13) (hM2 : 2 ≤ ops.length) :
    Runs Try.prog 39 #[kdF, tpV 0 1 N ops.length, slV 2 N] #[some c0, some c1, some c2] (slV (3 + N) N) (#[some c0, some c1, some c2] ++ (tabJ 3 N (rwD ops xs out)).toArray) := by
  let V : Nat → Nat := fun k => (regD ops xs k).1
  let S : Nat → Nat → Nat := fun k => (regD ops xs k).2
  let M := ops.length
  have rds := roundsJ (V := V) (S := S) h (plO_of p0) (plO_of p1) (plO_of p2) ⟨false, by rw [hb2]⟩ (fun k o ho => regD_v ho (h.ok k o ho)) (fun k o ho i => regD_s ho (h.ok k o ho) i) h1 h3 hM hM2 ops.length 0 (by omega)
  let u : Nat → Int := fun i => out.getD i 0
  have hu : ∀ i, i < N → out[i]? = some (u i) ∧ 0 ≤ u i ∧ u i < ops.length := fun i hi => by
    have hg : out[i]? = some (out.getD i 0) := getD_at 0 (by rw [h.lo]; exact hi)
    exact ⟨hg, h.oo _ (List.mem_of_getElem? hg)⟩
  have fin := finJ h1 h3 hM2 (show ops.length < 14 by omega) (some c0) (some c1) (some c2) V S u (fun i => ⟨5, (u i).toNat * 2, none⟩) (fun i => ⟨5, (u i).toNat * 2 + 1, none⟩) (fun i => 6 + (u i).toNat) (rwD ops xs out)
  have hob : okAll Try.prog (lgG (HJ (some c0) (some c1) (some c2) N ops.length ops.length V S) N ops.length u (fun i => ⟨5, (u i).toNat * 2, none⟩) (fun i => ⟨5, (u i).toNat * 2 + 1, none⟩) (fun i => 6 + (u i).toNat) (rwD ops xs out)) := by
    unfold lgG
    refine okApp' (each_ok _ _ fun i hi => ?_) ⟨cmp_ok (decide_eq_false (by omega)), trivial⟩
    have hin := List.mem_range.1 hi
    obtain ⟨e0, e1, e2⟩ := hu i hin
    obtain ⟨B1, hB1, hc1⟩ := h.m1
    have hlt : (u i).toNat < ops.length := by omega
    have hrow : (HJ (some c0) (some c1) (some c2) N ops.length ops.length V S ++ [otJ (7 + ops.length) N i] ++ rowsJ N (rwD ops xs out) i).toArray[6 + (u i).toNat]? = some (dJ N S (u i).toNat) := by
      rw [List.getElem?_toArray, List.append_assoc]
      exact HJ_get hlt _
    have hrg : (HJ (some c0) (some c1) (some c2) N ops.length ops.length V S ++ [otJ (7 + ops.length) N i] ++ rowsJ N (rwD ops xs out) i).toArray[5]? = some (rgBo true (rgs V (fun j => slV (6 + j) N) ops.length)) := by
      rw [List.getElem?_toArray, List.append_assoc]
      exact HJ_rg (by omega) _
    have hsz : (HJ (some c0) (some c1) (some c2) N ops.length ops.length V S ++ [otJ (7 + ops.length) N i] ++ rowsJ N (rwD ops xs out) i).toArray.size = 7 + ops.length + i := by
      rw [HJ_pos (by omega)]
      simp [rowsJ]
      omega
    refine ⟨cmp_ok (decide_eq_true hin), rdI (B := B1) (l := out) (k := i) (by rw [← hB1]; rfl) hc1 e0 rfl, ?_, fa_rg1 _ _, rdRd (l := rgs V (fun j => slV (6 + j) N) ops.length) (k := (u i).toNat) hrg rfl (rgs_get V (fun j => slV (6 + j) N) hlt) rfl, ?_, trivial⟩
    · rw [rvJ_pos (by omega)]
      exact ixR e1 e2 rfl
    · refine (app_nilL (f := fC) (n := 1) (fun _ => rfl) (fun _ => rfl) gr_fs (l := (List.range N).map (S (u i).toNat)) hrow rfl (by simp) h1 (by omega)).trans ?_
      rw [hsz]
      congr 2
      apply Array.ext'
      simp only [Array.toList_push]
      unfold rowsJ
      rw [List.range_succ, List.map_append, ← List.append_assoc]
      rfl
  obtain ⟨H', hH, hrun⟩ := askTB_to (g := fun H => H) fin hob ⟨⟨_, _, entJe (plO_of p0) (plO_of p1) (plO_of p2) ops.length 0 (by decide), rds.loop⟩, trivial⟩
  subst hH
  have hl : (HJ (some c0) (some c1) (some c2) N ops.length ops.length V S).length = 6 + ops.length := by rw [HJ_pos (by omega)]; simp; omega
  refine Runs.tab (c := 7 + ops.length) (e := 6 + ops.length) hrun (plO_of p0) (plO_of p1) (plO_of p2) rfl rfl rfl (fun j hj => ?_) ?_ (by omega) (by omega) (fun j _ => by omega)
  · rw [List.getElem?_toArray, List.getElem?_append_right (by rw [List.length_append, hl]; simp; omega), List.length_append, hl]
    simp only [List.length_cons, List.length_nil]
    rw [show 7 + ops.length + j - (6 + ops.length + (0 + 1)) = j by omega]
    unfold rowsJ
    rw [List.getElem?_map, List.getElem?_range hj]
    rfl
  · rw [List.getElem?_toArray, List.append_assoc, List.getElem?_append_right (by omega), hl, Nat.sub_self]
    rfl

/-! jac.Jac -/
noncomputable def askJ1 (g : FuncId) : Nat := if g == 39 then 1 else 0
def JacRun (N : Nat) : Prop := ∀ (b0 b1 b2 : Option ABlk) (M : Nat) (R : Nat → Nat → Nat), (askTB askJ1 noC 16 #[tpV 0 1 N M, slV 2 N] #[b0, b1, b2] [cAns (fun s => slV (s + N) N) (tabJ 4 N R)] []).map (fun r => (r.1, r.2.1, r.2.2.1, slL [] r.2.2.2)) =
  some (slV (4 + N) N, ([b0, b1, b2, tbE N M] ++ tabJ 4 N R).toArray, [rnO 39 #[kdF, tpV 0 1 N M, slV 2 N] [b0, b1, b2, tbE N M] (slV (4 + N) N) (tabJ 4 N R)], [])
theorem jacRun_1 : JacRun 1 := fun _ _ _ _ _ => by kernel_rfl
theorem jacRun_2 : JacRun 2 := fun _ _ _ _ _ => by kernel_rfl
theorem jacRun_3 : JacRun 3 := fun _ _ _ _ _ => by kernel_rfl
theorem jacRun_4 : JacRun 4 := fun _ _ _ _ _ => by kernel_rfl
theorem jacRun (h1 : 1 ≤ N) (h3 : N ≤ 4) : JacRun N := by
  have : N = 1 ∨ N = 2 ∨ N = 3 ∨ N = 4 := by omega
  rcases this with rfl | rfl | rfl | rfl
  · exact jacRun_1
  · exact jacRun_2
  · exact jacRun_3
  · exact jacRun_4
theorem tp_rel {z : Nat} {ρ : Nat → Nat} (bo bu N M : Nat) (hz : 2 ≤ z) (h0 : ρ 0 = bo) (h1 : ρ 1 = bu) : RelA z ρ (tpV 0 1 N M) (tpV bo bu N M) := by
  refine .agg rfl fun i g1 g2 => ?_
  have : i = 0 ∨ i = 1 ∨ i = 2 := by simp at g1; omega
  rcases this with rfl | rfl | rfl
  · exact .clos rfl
  · exact .slice 0 bo 0 none _ _ _ (by omega) h0
  · exact .slice 1 bu 0 none _ _ _ (by omega) h1
theorem jac_Jac (h : EvG fC (some c0) (some c1) (some c2) N ops out xs) (o0 : c0.own = false) (o1 : c1.own = false) (p0 : PlainB c0) (p1 : PlainB c1) (p2 : PlainB c2) (hb2 : c2 = ⟨(xs.flatMap fC).toArray, 27, 1, false⟩) (h1 : 1 ≤ N) (h3 : N ≤ 4) (hM : ops.length ≤ 13) (hM2 : 2 ≤ ops.length) :
    Runs Try.prog 16 #[tpV 0 1 N ops.length, slV 2 N] #[some c0, some c1, some c2] (slV (3 + N) N) (#[some c0, some c1, some c2] ++ (tabJ 3 N (rwD ops xs out)).toArray) := by
  have r := jac_run h o0 o1 p0 p1 p2 hb2 h1 h3 hM hM2
  have o2 : c2.own = false := by rw [hb2]
  have fz : ∀ c : ABlk, c.own = false → ({ c with own := false } : ABlk) = c := fun c hc => by cases c; simp at hc; subst hc; rfl
  have e0 : (froze [some c0, some c1, some c2, tbE N ops.length].toArray)[0]? = some (some c0) := (fz_at (l := [some c0, some c1, some c2, tbE N ops.length]) (i := 0) (B := c0) rfl).trans (by rw [fz c0 o0])
  have e1 : (froze [some c0, some c1, some c2, tbE N ops.length].toArray)[1]? = some (some c1) := (fz_at (l := [some c0, some c1, some c2, tbE N ops.length]) (i := 1) (B := c1) rfl).trans (by rw [fz c1 o1])
  have e2 : (froze [some c0, some c1, some c2, tbE N ops.length].toArray)[2]? = some (some c2) := (fz_at (l := [some c0, some c1, some c2, tbE N ops.length]) (i := 2) (B := c2) rfl).trans (by rw [fz c2 o2])
  have r4 := Runs.tabAt (args1 := #[kdF, tpV 0 1 N ops.length, slV 2 N]) (bo := 0) (bu := 1) (bx := 2) (B0 := c0) (B1 := c1) (B2 := c2) r o0 o1 o2 p0 p1 p2 (froze_all [some c0, some c1, some c2, tbE N ops.length].toArray) e0 e1 e2 (by decide) (by decide) (by decide)
    (.cons (.clos kdF_cl) (.cons (tp_rel 0 1 N _ (by decide) rfl rfl) (.cons (.slice 2 2 0 none _ _ _ (by decide) rfl) .nil)))
  rw [fz_size] at r4
  obtain ⟨H', hH, hrun⟩ := askTB_to (g := fun H => H) (jacRun h1 h3 (some c0) (some c1) (some c2) ops.length (rwD ops xs out)) ⟨r4, trivial⟩ trivial
  subst hH
  refine Runs.tab (c := 4) (e := 4 + N) hrun (plO_of p0) (plO_of p1) (plO_of p2) rfl rfl rfl (fun j hj => ?_) ?_ (by omega) (by omega) (fun j hj => by omega)
  · rw [List.getElem?_toArray, List.getElem?_append_right (by simp), show 4 + j - [some c0, some c1, some c2, tbE N ops.length].length = j by simp]
    exact tab_row hj
  · rw [List.getElem?_toArray, List.getElem?_append_right (by simp), show 4 + N - [some c0, some c1, some c2, tbE N ops.length].length = N by simp]
    exact tab_ot _ _ _
end

end Go.Proofs.Ytdlinjijccnaeaa
