/- jac's run of numbers: its rounds. -/
import Derived.Test.YtdlinjijccnaeaaJcW
namespace Go.Proofs.Ytdlinjijccnaeaa
open Go
set_option linter.unusedVariables false
set_option linter.unusedSimpArgs false
set_option maxRecDepth 100000

noncomputable def askJr (g : FuncId) : Nat := if [69, 70].contains g then 1 else if [20, 21, 61, 66, 67, 68, 69].contains (g - 1000000) && Nat.ble 1000000 g then 7 else 0
noncomputable def bodyJr : Code := bodyG Try.prog 39 0
theorem okJr : codeOk q1 bodyJr = true := by kernel_rfl
def ptJ (b : Nat) : Value := .pointer (some ⟨b, 0, none⟩)
def LJ (N M k : Nat) : List (Nat × Value) := [(2, slV 2 N), (3, ptJ 3), (4, ptJ 4), (7, rvJ 5 k), (16, slV 0 M), (17, .int .i64 M), (18, .int .i64 (Int.ofNat k))]
def dJ (N : Nat) (S : Nat → Nat → Nat) (j : Nat) : Option ABlk := nwF ((List.range N).map (S j))
def HJ (b0 b1 b2 : Option ABlk) (N M k : Nat) (V : Nat → Nat) (S : Nat → Nat → Nat) : List (Option ABlk) :=
  [b0, b1, b2, kdB, tbE N M] ++ (if k = 0 then [] else rgBo true (rgs V (fun j => slV (6 + j) N) k) :: (List.range k).map (dJ N S))
def baseJ (k : Nat) : Nat := 5 + (if k = 0 then 0 else k + 1)
def oneJ (b : Nat) (v i : Nat) : Option ABlk := some ⟨#[.float .f64 v, if i = 0 then .slice none 0 0 else .slice (some ⟨b + 1 + 2 * i, 0, none⟩) i i], 83, 0, true⟩
def RJ (N k : Nat) : List Nat := [0, 1, 2, 3, 4, baseJ k + 3 + 2 * N] ++ (List.range k).map (fun j => 6 + j) ++ [baseJ k + 1 + 2 * N]
abbrev SlJ := Nat × List Value × List (Option (Option ABlk))
def outJ (b0 b1 b2 : Option ABlk) (N M k : Nat) (V : Nat → Nat) (S : Nat → Nat → Nat) (v : Nat) (s : Nat → Nat) : SlJ :=
  (73, [slV 2 N, ptJ 3, ptJ 4, slV (baseJ k + 3 + 2 * N) (k + 1), slV 0 M, .int .i64 M, .int .i64 (Int.ofNat (k + 1))],
    [some b0, some b1, some b2, some kdB, some (tbE N M), some (rgBo true (rgs V (fun j => slV (6 + j) N) k ++ [(v, slV (baseJ k + 1 + 2 * N) N)]))] ++ (List.range k).map (fun j => some (dJ N S j)) ++ [some (nwF ((List.range N).map s))])
noncomputable def lgJ (H : List (Option ABlk)) (N M k : Nat) (po : Addr) (K A B : Int) (C v : Nat) (s : Nat → Nat) : List Obl :=
  [.cmp .lss 3 (.int .i64 (Int.ofNat k)) (.int .i64 M) true, .ex (indexAddrV Try.prog 34 (slV 0 M) (.int .i64 (Int.ofNat k)) = some (.pointer (some po))), .ex (readVar Try.prog H.toArray 33 po = some (opV K A B C)),
    rnO 69 #[kdF, opV K A B C, slV 2 N, rvJ 5 k] (H ++ [obE K A B C]) (.float .f64 v) []] ++
  (List.range N).flatMap (fun i => [.cmp .lss 3 (.int .i64 (Int.ofNat i)) (.int .i64 (Int.ofNat N)) true, rnO 70 #[kdF, opV K A B C, .int .i64 (Int.ofNat i), .float .f64 v, rvJ 5 k] (H ++ ([obE K A B C, oneJ (baseJ k) v i] ++ grRf i s)) (.float .f64 (s i)) []]) ++
  [.cmp .lss 3 (.int .i64 (Int.ofNat N)) (.int .i64 (Int.ofNat N)) false]
def RdJ (N k : Nat) : Prop := ∀ (b0 b1 b2 : Option ABlk) (M : Nat) (po : Addr) (K A B : Int) (C v : Nat) (V : Nat → Nat) (S : Nat → Nat → Nat) (s : Nat → Nat),
  (rndB askJr lssC bodyJr (tmA 73 (LJ N M k)) (HJ b0 b1 b2 N M k V S).toArray ([yes true, pAnsT po, vAns (opV K A B C), vAns (.float .f64 v)] ++ (List.range N).flatMap (fun i => [yes true, vAns (.float .f64 (s i))]) ++ [yes false]) [none]).map (fun r => (r.1, slG [2, 3, 4, 7, 16, 17, 18] (RJ N k) r.2.1 r.2.2.1, r.2.2.2)) =
  some (.normal, outJ b0 b1 b2 N M k V S v s, lgJ (HJ b0 b1 b2 N M k V S) N M k po K A B C v s, [])
def RJe (k : Nat) : List Nat := [0, 1, 2, 3, 4] ++ (if k = 0 then [] else 5 :: (List.range k).map (fun j => 6 + j))
def RdJe (N k : Nat) : Prop := ∀ (b0 b1 b2 : Option ABlk) (M : Nat) (V : Nat → Nat) (S : Nat → Nat → Nat),
  (rndB askJr lssC bodyJr (tmA 73 (LJ N M k)) (HJ b0 b1 b2 N M k V S).toArray [yes false] []).map (fun r => (r.1, slG [2, 3, 4, 7, 16, 17, 18] (RJe k) r.2.1 r.2.2.1, r.2.2.2)) =
  some (.exit 0, (73, (LJ N M k).map (·.2), (HJ b0 b1 b2 N M k V S).map some), [.cmp .lss 3 (.int .i64 (Int.ofNat k)) (.int .i64 M) false], [])
theorem rdJ_1_0 : RdJ 1 0 := fun _ _ _ _ _ _ _ _ _ _ _ _ _ => by kernel_rfl
theorem rdJ_1_1 : RdJ 1 1 := fun _ _ _ _ _ _ _ _ _ _ _ _ _ => by kernel_rfl
theorem rdJ_1_2 : RdJ 1 2 := fun _ _ _ _ _ _ _ _ _ _ _ _ _ => by kernel_rfl
theorem rdJ_1_3 : RdJ 1 3 := fun _ _ _ _ _ _ _ _ _ _ _ _ _ => by kernel_rfl
theorem rdJ_1_4 : RdJ 1 4 := fun _ _ _ _ _ _ _ _ _ _ _ _ _ => by kernel_rfl
theorem rdJ_1_5 : RdJ 1 5 := fun _ _ _ _ _ _ _ _ _ _ _ _ _ => by kernel_rfl
theorem rdJ_1_6 : RdJ 1 6 := fun _ _ _ _ _ _ _ _ _ _ _ _ _ => by kernel_rfl
theorem rdJ_1_7 : RdJ 1 7 := fun _ _ _ _ _ _ _ _ _ _ _ _ _ => by kernel_rfl
theorem rdJ_1_8 : RdJ 1 8 := fun _ _ _ _ _ _ _ _ _ _ _ _ _ => by kernel_rfl
theorem rdJ_1_9 : RdJ 1 9 := fun _ _ _ _ _ _ _ _ _ _ _ _ _ => by kernel_rfl
theorem rdJ_1_10 : RdJ 1 10 := fun _ _ _ _ _ _ _ _ _ _ _ _ _ => by kernel_rfl
theorem rdJ_1_11 : RdJ 1 11 := fun _ _ _ _ _ _ _ _ _ _ _ _ _ => by kernel_rfl
theorem rdJe_1_2 : RdJe 1 2 := fun _ _ _ _ _ _ => by kernel_rfl
theorem rdJe_1_3 : RdJe 1 3 := fun _ _ _ _ _ _ => by kernel_rfl
theorem rdJe_1_4 : RdJe 1 4 := fun _ _ _ _ _ _ => by kernel_rfl
theorem rdJe_1_5 : RdJe 1 5 := fun _ _ _ _ _ _ => by kernel_rfl
theorem rdJe_1_6 : RdJe 1 6 := fun _ _ _ _ _ _ => by kernel_rfl
theorem rdJe_1_7 : RdJe 1 7 := fun _ _ _ _ _ _ => by kernel_rfl
theorem rdJe_1_8 : RdJe 1 8 := fun _ _ _ _ _ _ => by kernel_rfl
theorem rdJe_1_9 : RdJe 1 9 := fun _ _ _ _ _ _ => by kernel_rfl
theorem rdJe_1_10 : RdJe 1 10 := fun _ _ _ _ _ _ => by kernel_rfl
theorem rdJe_1_11 : RdJe 1 11 := fun _ _ _ _ _ _ => by kernel_rfl
theorem rdJe_1_12 : RdJe 1 12 := fun _ _ _ _ _ _ => by kernel_rfl
theorem rdJ_2_0 : RdJ 2 0 := fun _ _ _ _ _ _ _ _ _ _ _ _ _ => by kernel_rfl
theorem rdJ_2_1 : RdJ 2 1 := fun _ _ _ _ _ _ _ _ _ _ _ _ _ => by kernel_rfl
theorem rdJ_2_2 : RdJ 2 2 := fun _ _ _ _ _ _ _ _ _ _ _ _ _ => by kernel_rfl
theorem rdJ_2_3 : RdJ 2 3 := fun _ _ _ _ _ _ _ _ _ _ _ _ _ => by kernel_rfl
theorem rdJ_2_4 : RdJ 2 4 := fun _ _ _ _ _ _ _ _ _ _ _ _ _ => by kernel_rfl
theorem rdJ_2_5 : RdJ 2 5 := fun _ _ _ _ _ _ _ _ _ _ _ _ _ => by kernel_rfl
theorem rdJ_2_6 : RdJ 2 6 := fun _ _ _ _ _ _ _ _ _ _ _ _ _ => by kernel_rfl
theorem rdJ_2_7 : RdJ 2 7 := fun _ _ _ _ _ _ _ _ _ _ _ _ _ => by kernel_rfl
theorem rdJ_2_8 : RdJ 2 8 := fun _ _ _ _ _ _ _ _ _ _ _ _ _ => by kernel_rfl
theorem rdJ_2_9 : RdJ 2 9 := fun _ _ _ _ _ _ _ _ _ _ _ _ _ => by kernel_rfl
theorem rdJ_2_10 : RdJ 2 10 := fun _ _ _ _ _ _ _ _ _ _ _ _ _ => by kernel_rfl
theorem rdJ_2_11 : RdJ 2 11 := fun _ _ _ _ _ _ _ _ _ _ _ _ _ => by kernel_rfl
theorem rdJe_2_2 : RdJe 2 2 := fun _ _ _ _ _ _ => by kernel_rfl
theorem rdJe_2_3 : RdJe 2 3 := fun _ _ _ _ _ _ => by kernel_rfl
theorem rdJe_2_4 : RdJe 2 4 := fun _ _ _ _ _ _ => by kernel_rfl
theorem rdJe_2_5 : RdJe 2 5 := fun _ _ _ _ _ _ => by kernel_rfl
theorem rdJe_2_6 : RdJe 2 6 := fun _ _ _ _ _ _ => by kernel_rfl
theorem rdJe_2_7 : RdJe 2 7 := fun _ _ _ _ _ _ => by kernel_rfl
theorem rdJe_2_8 : RdJe 2 8 := fun _ _ _ _ _ _ => by kernel_rfl
theorem rdJe_2_9 : RdJe 2 9 := fun _ _ _ _ _ _ => by kernel_rfl
theorem rdJe_2_10 : RdJe 2 10 := fun _ _ _ _ _ _ => by kernel_rfl
theorem rdJe_2_11 : RdJe 2 11 := fun _ _ _ _ _ _ => by kernel_rfl
theorem rdJe_2_12 : RdJe 2 12 := fun _ _ _ _ _ _ => by kernel_rfl
theorem rdJ_3_0 : RdJ 3 0 := fun _ _ _ _ _ _ _ _ _ _ _ _ _ => by kernel_rfl
theorem rdJ_3_1 : RdJ 3 1 := fun _ _ _ _ _ _ _ _ _ _ _ _ _ => by kernel_rfl
theorem rdJ_3_2 : RdJ 3 2 := fun _ _ _ _ _ _ _ _ _ _ _ _ _ => by kernel_rfl
theorem rdJ_3_3 : RdJ 3 3 := fun _ _ _ _ _ _ _ _ _ _ _ _ _ => by kernel_rfl
theorem rdJ_3_4 : RdJ 3 4 := fun _ _ _ _ _ _ _ _ _ _ _ _ _ => by kernel_rfl
theorem rdJ_3_5 : RdJ 3 5 := fun _ _ _ _ _ _ _ _ _ _ _ _ _ => by kernel_rfl
theorem rdJ_3_6 : RdJ 3 6 := fun _ _ _ _ _ _ _ _ _ _ _ _ _ => by kernel_rfl
theorem rdJ_3_7 : RdJ 3 7 := fun _ _ _ _ _ _ _ _ _ _ _ _ _ => by kernel_rfl
theorem rdJ_3_8 : RdJ 3 8 := fun _ _ _ _ _ _ _ _ _ _ _ _ _ => by kernel_rfl
theorem rdJ_3_9 : RdJ 3 9 := fun _ _ _ _ _ _ _ _ _ _ _ _ _ => by kernel_rfl
theorem rdJ_3_10 : RdJ 3 10 := fun _ _ _ _ _ _ _ _ _ _ _ _ _ => by kernel_rfl
theorem rdJ_3_11 : RdJ 3 11 := fun _ _ _ _ _ _ _ _ _ _ _ _ _ => by kernel_rfl
theorem rdJe_3_2 : RdJe 3 2 := fun _ _ _ _ _ _ => by kernel_rfl
theorem rdJe_3_3 : RdJe 3 3 := fun _ _ _ _ _ _ => by kernel_rfl
theorem rdJe_3_4 : RdJe 3 4 := fun _ _ _ _ _ _ => by kernel_rfl
theorem rdJe_3_5 : RdJe 3 5 := fun _ _ _ _ _ _ => by kernel_rfl
theorem rdJe_3_6 : RdJe 3 6 := fun _ _ _ _ _ _ => by kernel_rfl
theorem rdJe_3_7 : RdJe 3 7 := fun _ _ _ _ _ _ => by kernel_rfl
theorem rdJe_3_8 : RdJe 3 8 := fun _ _ _ _ _ _ => by kernel_rfl
theorem rdJe_3_9 : RdJe 3 9 := fun _ _ _ _ _ _ => by kernel_rfl
theorem rdJe_3_10 : RdJe 3 10 := fun _ _ _ _ _ _ => by kernel_rfl
theorem rdJe_3_11 : RdJe 3 11 := fun _ _ _ _ _ _ => by kernel_rfl
theorem rdJe_3_12 : RdJe 3 12 := fun _ _ _ _ _ _ => by kernel_rfl
theorem rdJ_1 : ∀ k, k < 12 → RdJ 1 k
  | 0, _ => rdJ_1_0
  | 1, _ => rdJ_1_1
  | 2, _ => rdJ_1_2
  | 3, _ => rdJ_1_3
  | 4, _ => rdJ_1_4
  | 5, _ => rdJ_1_5
  | 6, _ => rdJ_1_6
  | 7, _ => rdJ_1_7
  | 8, _ => rdJ_1_8
  | 9, _ => rdJ_1_9
  | 10, _ => rdJ_1_10
  | 11, _ => rdJ_1_11
  | n + 12, h => absurd h (by omega)
theorem rdJe_1 : ∀ k, 2 ≤ k → k < 13 → RdJe 1 k
  | 0, h, _ => absurd h (by omega)
  | 1, h, _ => absurd h (by omega)
  | 2, _, _ => rdJe_1_2
  | 3, _, _ => rdJe_1_3
  | 4, _, _ => rdJe_1_4
  | 5, _, _ => rdJe_1_5
  | 6, _, _ => rdJe_1_6
  | 7, _, _ => rdJe_1_7
  | 8, _, _ => rdJe_1_8
  | 9, _, _ => rdJe_1_9
  | 10, _, _ => rdJe_1_10
  | 11, _, _ => rdJe_1_11
  | 12, _, _ => rdJe_1_12
  | n + 13, _, h => absurd h (by omega)
theorem rdJ_2 : ∀ k, k < 12 → RdJ 2 k
  | 0, _ => rdJ_2_0
  | 1, _ => rdJ_2_1
  | 2, _ => rdJ_2_2
  | 3, _ => rdJ_2_3
  | 4, _ => rdJ_2_4
  | 5, _ => rdJ_2_5
  | 6, _ => rdJ_2_6
  | 7, _ => rdJ_2_7
  | 8, _ => rdJ_2_8
  | 9, _ => rdJ_2_9
  | 10, _ => rdJ_2_10
  | 11, _ => rdJ_2_11
  | n + 12, h => absurd h (by omega)
theorem rdJe_2 : ∀ k, 2 ≤ k → k < 13 → RdJe 2 k
  | 0, h, _ => absurd h (by omega)
  | 1, h, _ => absurd h (by omega)
  | 2, _, _ => rdJe_2_2
  | 3, _, _ => rdJe_2_3
  | 4, _, _ => rdJe_2_4
  | 5, _, _ => rdJe_2_5
  | 6, _, _ => rdJe_2_6
  | 7, _, _ => rdJe_2_7
  | 8, _, _ => rdJe_2_8
  | 9, _, _ => rdJe_2_9
  | 10, _, _ => rdJe_2_10
  | 11, _, _ => rdJe_2_11
  | 12, _, _ => rdJe_2_12
  | n + 13, _, h => absurd h (by omega)
theorem rdJ_3 : ∀ k, k < 12 → RdJ 3 k
  | 0, _ => rdJ_3_0
  | 1, _ => rdJ_3_1
  | 2, _ => rdJ_3_2
  | 3, _ => rdJ_3_3
  | 4, _ => rdJ_3_4
  | 5, _ => rdJ_3_5
  | 6, _ => rdJ_3_6
  | 7, _ => rdJ_3_7
  | 8, _ => rdJ_3_8
  | 9, _ => rdJ_3_9
  | 10, _ => rdJ_3_10
  | 11, _ => rdJ_3_11
  | n + 12, h => absurd h (by omega)
theorem rdJe_3 : ∀ k, 2 ≤ k → k < 13 → RdJe 3 k
  | 0, h, _ => absurd h (by omega)
  | 1, h, _ => absurd h (by omega)
  | 2, _, _ => rdJe_3_2
  | 3, _, _ => rdJe_3_3
  | 4, _, _ => rdJe_3_4
  | 5, _, _ => rdJe_3_5
  | 6, _, _ => rdJe_3_6
  | 7, _, _ => rdJe_3_7
  | 8, _, _ => rdJe_3_8
  | 9, _, _ => rdJe_3_9
  | 10, _, _ => rdJe_3_10
  | 11, _, _ => rdJe_3_11
  | 12, _, _ => rdJe_3_12
  | n + 13, _, h => absurd h (by omega)
theorem rdJ {N k : Nat} (h1 : 1 ≤ N) (h2 : N ≤ 3) (hk : k < 12) : RdJ N k := by
  have : N = 1 ∨ N = 2 ∨ N = 3 := by omega
  rcases this with rfl | rfl | rfl
  · exact rdJ_1 k hk
  · exact rdJ_2 k hk
  · exact rdJ_3 k hk
theorem rdJe {N k : Nat} (h1 : 1 ≤ N) (h2 : N ≤ 3) (hk : 2 ≤ k) (hk2 : k < 13) : RdJe N k := by
  have : N = 1 ∨ N = 2 ∨ N = 3 := by omega
  rcases this with rfl | rfl | rfl
  · exact rdJe_1 k hk hk2
  · exact rdJe_2 k hk hk2
  · exact rdJe_3 k hk hk2

end Go.Proofs.Ytdlinjijccnaeaa
