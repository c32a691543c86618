/- tape.Check: its runs. -/
import Derived.Test.YtpmdpbljgidllaaTpSmR
namespace Go.Proofs.Ytpmdpbljgidllaa
open Go
set_option linter.unusedVariables false
set_option linter.unusedSimpArgs false
set_option maxRecDepth 100000

noncomputable def askCk (g : FuncId) : Nat := if [39, 40].contains g then 1 else 0
def CkRun (N M : Nat) : Prop := ∀ (k a b : Nat → Int) (c : Nat → Nat) (u : Nat → Int),
  (askN askCk noC 12 15 #[tpV 0 1 N M] #[opBk M k a b c, ouBk N u] ((List.range M).map (fun _ => yes true) ++ (List.range N).map (fun _ => yes true))).map (fun r => (r.1, r.2.2)) =
  some (.bool true, (List.range M).map (fun i => qtO 39 #[opV (k i) (a i) (b i) (c i), .int .i64 (Int.ofNat i), .int .i64 (Int.ofNat N)] (.bool true)) ++ (List.range N).map (fun i => qtO 40 #[.int .i64 (u i), .int .i64 (Int.ofNat M)] (.bool true)))
theorem ckRun_1_2 : CkRun 1 2 := fun _ _ _ _ _ => by kernel_rfl
theorem ckRun_1_3 : CkRun 1 3 := fun _ _ _ _ _ => by kernel_rfl
theorem ckRun_1_4 : CkRun 1 4 := fun _ _ _ _ _ => by kernel_rfl
theorem ckRun_1_5 : CkRun 1 5 := fun _ _ _ _ _ => by kernel_rfl
theorem ckRun_1_6 : CkRun 1 6 := fun _ _ _ _ _ => by kernel_rfl
theorem ckRun_1_7 : CkRun 1 7 := fun _ _ _ _ _ => by kernel_rfl
theorem ckRun_1_8 : CkRun 1 8 := fun _ _ _ _ _ => by kernel_rfl
theorem ckRun_1_9 : CkRun 1 9 := fun _ _ _ _ _ => by kernel_rfl
theorem ckRun_1_10 : CkRun 1 10 := fun _ _ _ _ _ => by kernel_rfl
theorem ckRun_1_11 : CkRun 1 11 := fun _ _ _ _ _ => by kernel_rfl
theorem ckRun_1_12 : CkRun 1 12 := fun _ _ _ _ _ => by kernel_rfl
theorem ckRun_1_13 : CkRun 1 13 := fun _ _ _ _ _ => by kernel_rfl
theorem ckRun_1_14 : CkRun 1 14 := fun _ _ _ _ _ => by kernel_rfl
theorem ckRun_1_15 : CkRun 1 15 := fun _ _ _ _ _ => by kernel_rfl
theorem ckRun_1_16 : CkRun 1 16 := fun _ _ _ _ _ => by kernel_rfl
theorem ckRun_1_17 : CkRun 1 17 := fun _ _ _ _ _ => by kernel_rfl
theorem ckRun_1_18 : CkRun 1 18 := fun _ _ _ _ _ => by kernel_rfl
theorem ckRun_1_19 : CkRun 1 19 := fun _ _ _ _ _ => by kernel_rfl
theorem ckRun_1_20 : CkRun 1 20 := fun _ _ _ _ _ => by kernel_rfl
theorem ckRun_2_2 : CkRun 2 2 := fun _ _ _ _ _ => by kernel_rfl
theorem ckRun_2_3 : CkRun 2 3 := fun _ _ _ _ _ => by kernel_rfl
theorem ckRun_2_4 : CkRun 2 4 := fun _ _ _ _ _ => by kernel_rfl
theorem ckRun_2_5 : CkRun 2 5 := fun _ _ _ _ _ => by kernel_rfl
theorem ckRun_2_6 : CkRun 2 6 := fun _ _ _ _ _ => by kernel_rfl
theorem ckRun_2_7 : CkRun 2 7 := fun _ _ _ _ _ => by kernel_rfl
theorem ckRun_2_8 : CkRun 2 8 := fun _ _ _ _ _ => by kernel_rfl
theorem ckRun_2_9 : CkRun 2 9 := fun _ _ _ _ _ => by kernel_rfl
theorem ckRun_2_10 : CkRun 2 10 := fun _ _ _ _ _ => by kernel_rfl
theorem ckRun_2_11 : CkRun 2 11 := fun _ _ _ _ _ => by kernel_rfl
theorem ckRun_2_12 : CkRun 2 12 := fun _ _ _ _ _ => by kernel_rfl
theorem ckRun_2_13 : CkRun 2 13 := fun _ _ _ _ _ => by kernel_rfl
theorem ckRun_2_14 : CkRun 2 14 := fun _ _ _ _ _ => by kernel_rfl
theorem ckRun_2_15 : CkRun 2 15 := fun _ _ _ _ _ => by kernel_rfl
theorem ckRun_2_16 : CkRun 2 16 := fun _ _ _ _ _ => by kernel_rfl
theorem ckRun_2_17 : CkRun 2 17 := fun _ _ _ _ _ => by kernel_rfl
theorem ckRun_2_18 : CkRun 2 18 := fun _ _ _ _ _ => by kernel_rfl
theorem ckRun_2_19 : CkRun 2 19 := fun _ _ _ _ _ => by kernel_rfl
theorem ckRun_2_20 : CkRun 2 20 := fun _ _ _ _ _ => by kernel_rfl
theorem ckRun_3_2 : CkRun 3 2 := fun _ _ _ _ _ => by kernel_rfl
theorem ckRun_3_3 : CkRun 3 3 := fun _ _ _ _ _ => by kernel_rfl
theorem ckRun_3_4 : CkRun 3 4 := fun _ _ _ _ _ => by kernel_rfl
theorem ckRun_3_5 : CkRun 3 5 := fun _ _ _ _ _ => by kernel_rfl
theorem ckRun_3_6 : CkRun 3 6 := fun _ _ _ _ _ => by kernel_rfl
theorem ckRun_3_7 : CkRun 3 7 := fun _ _ _ _ _ => by kernel_rfl
theorem ckRun_3_8 : CkRun 3 8 := fun _ _ _ _ _ => by kernel_rfl
theorem ckRun_3_9 : CkRun 3 9 := fun _ _ _ _ _ => by kernel_rfl
theorem ckRun_3_10 : CkRun 3 10 := fun _ _ _ _ _ => by kernel_rfl
theorem ckRun_3_11 : CkRun 3 11 := fun _ _ _ _ _ => by kernel_rfl
theorem ckRun_3_12 : CkRun 3 12 := fun _ _ _ _ _ => by kernel_rfl
theorem ckRun_3_13 : CkRun 3 13 := fun _ _ _ _ _ => by kernel_rfl
theorem ckRun_3_14 : CkRun 3 14 := fun _ _ _ _ _ => by kernel_rfl
theorem ckRun_3_15 : CkRun 3 15 := fun _ _ _ _ _ => by kernel_rfl
theorem ckRun_3_16 : CkRun 3 16 := fun _ _ _ _ _ => by kernel_rfl
theorem ckRun_3_17 : CkRun 3 17 := fun _ _ _ _ _ => by kernel_rfl
theorem ckRun_3_18 : CkRun 3 18 := fun _ _ _ _ _ => by kernel_rfl
theorem ckRun_3_19 : CkRun 3 19 := fun _ _ _ _ _ => by kernel_rfl
theorem ckRun_3_20 : CkRun 3 20 := fun _ _ _ _ _ => by kernel_rfl
theorem ck_run {N M : Nat} (h1 : 1 ≤ N) (h2 : N ≤ 3) (h3 : 2 ≤ M) (h4 : M ≤ 20) : CkRun N M := by
  have hn : N = 1 ∨ N = 2 ∨ N = 3 := by omega
  have hm : M = 2 ∨ M = 3 ∨ M = 4 ∨ M = 5 ∨ M = 6 ∨ M = 7 ∨ M = 8 ∨ M = 9 ∨ M = 10 ∨ M = 11 ∨ M = 12 ∨ M = 13 ∨ M = 14 ∨ M = 15 ∨ M = 16 ∨ M = 17 ∨ M = 18 ∨ M = 19 ∨ M = 20 := by omega
  rcases hn with rfl | rfl | rfl
  · rcases hm with rfl | rfl | rfl | rfl | rfl | rfl | rfl | rfl | rfl | rfl | rfl | rfl | rfl | rfl | rfl | rfl | rfl | rfl | rfl
    · exact ckRun_1_2
    · exact ckRun_1_3
    · exact ckRun_1_4
    · exact ckRun_1_5
    · exact ckRun_1_6
    · exact ckRun_1_7
    · exact ckRun_1_8
    · exact ckRun_1_9
    · exact ckRun_1_10
    · exact ckRun_1_11
    · exact ckRun_1_12
    · exact ckRun_1_13
    · exact ckRun_1_14
    · exact ckRun_1_15
    · exact ckRun_1_16
    · exact ckRun_1_17
    · exact ckRun_1_18
    · exact ckRun_1_19
    · exact ckRun_1_20
  · rcases hm with rfl | rfl | rfl | rfl | rfl | rfl | rfl | rfl | rfl | rfl | rfl | rfl | rfl | rfl | rfl | rfl | rfl | rfl | rfl
    · exact ckRun_2_2
    · exact ckRun_2_3
    · exact ckRun_2_4
    · exact ckRun_2_5
    · exact ckRun_2_6
    · exact ckRun_2_7
    · exact ckRun_2_8
    · exact ckRun_2_9
    · exact ckRun_2_10
    · exact ckRun_2_11
    · exact ckRun_2_12
    · exact ckRun_2_13
    · exact ckRun_2_14
    · exact ckRun_2_15
    · exact ckRun_2_16
    · exact ckRun_2_17
    · exact ckRun_2_18
    · exact ckRun_2_19
    · exact ckRun_2_20
  · rcases hm with rfl | rfl | rfl | rfl | rfl | rfl | rfl | rfl | rfl | rfl | rfl | rfl | rfl | rfl | rfl | rfl | rfl | rfl | rfl
    · exact ckRun_3_2
    · exact ckRun_3_3
    · exact ckRun_3_4
    · exact ckRun_3_5
    · exact ckRun_3_6
    · exact ckRun_3_7
    · exact ckRun_3_8
    · exact ckRun_3_9
    · exact ckRun_3_10
    · exact ckRun_3_11
    · exact ckRun_3_12
    · exact ckRun_3_13
    · exact ckRun_3_14
    · exact ckRun_3_15
    · exact ckRun_3_16
    · exact ckRun_3_17
    · exact ckRun_3_18
    · exact ckRun_3_19
    · exact ckRun_3_20

end Go.Proofs.Ytpmdpbljgidllaa
