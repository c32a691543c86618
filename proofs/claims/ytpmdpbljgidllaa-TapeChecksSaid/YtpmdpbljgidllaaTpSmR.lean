/- The document's Same, of two fields that are alike: its runs. -/
import Derived.Test.YtpmdpbljgidllaaTpK
namespace Go.Proofs.Ytpmdpbljgidllaa
open Go
set_option linter.unusedVariables false
set_option linter.unusedSimpArgs false
set_option maxRecDepth 100000

noncomputable def askSm (g : FuncId) : Nat := if g == 30 then 1 else 0
def neqC : BinOp → Value → Value → Bool
  | .neq, .int _ _, _ => true
  | _, _, _ => false
def opBk (M : Nat) (k a b : Nat → Int) (c : Nat → Nat) : Option ABlk := some ⟨((List.range M).flatMap fun i => [.int .i64 (k i), .int .i64 (a i), .int .i64 (b i), .float .f64 (c i)]).toArray, 32, 4, false⟩
def ouBk (N : Nat) (u : Nat → Int) : Option ABlk := some ⟨((List.range N).flatMap fun i => [.int .i64 (u i)]).toArray, 3, 1, false⟩
noncomputable def soSm (k a b : Nat → Int) (c : Nat → Nat) (i : Nat) : List Obl :=
  [cpO .neq (k i) (k i) false, cpO .neq (a i) (a i) false, cpO .neq (b i) (b i) false, qtO 30 #[.float .f64 (c i), .float .f64 (c i)] (.bool true)]
noncomputable def lgSm (N M : Nat) (k a b : Nat → Int) (c : Nat → Nat) (u : Nat → Int) : List Obl :=
  [cpO .neq (Int.ofNat N) (Int.ofNat N) false, cpO .neq (Int.ofNat M) (Int.ofNat M) false, cpO .neq (Int.ofNat N) (Int.ofNat N) false] ++ (List.range M).flatMap (soSm k a b c) ++ (List.range N).map (fun i => cpO .neq (u i) (u i) false)
def SmRun (N M : Nat) : Prop := ∀ (k a b : Nat → Int) (c : Nat → Nat) (u : Nat → Int),
  (askN askSm neqC 12 31 #[tpV 0 1 N M, tpV 2 3 N M] #[opBk M k a b c, ouBk N u, opBk M k a b c, ouBk N u]
    ([yes false, yes false, yes false] ++ (List.range M).flatMap (fun _ => [yes false, yes false, yes false, yes true]) ++ (List.range N).map (fun _ => yes false))).map (fun r => (r.1, r.2.2)) = some (.bool true, lgSm N M k a b c u)
theorem smRun_1_2 : SmRun 1 2 := fun _ _ _ _ _ => by kernel_rfl
theorem smRun_1_3 : SmRun 1 3 := fun _ _ _ _ _ => by kernel_rfl
theorem smRun_1_4 : SmRun 1 4 := fun _ _ _ _ _ => by kernel_rfl
theorem smRun_1_5 : SmRun 1 5 := fun _ _ _ _ _ => by kernel_rfl
theorem smRun_1_6 : SmRun 1 6 := fun _ _ _ _ _ => by kernel_rfl
theorem smRun_1_7 : SmRun 1 7 := fun _ _ _ _ _ => by kernel_rfl
theorem smRun_1_8 : SmRun 1 8 := fun _ _ _ _ _ => by kernel_rfl
theorem smRun_1_9 : SmRun 1 9 := fun _ _ _ _ _ => by kernel_rfl
theorem smRun_1_10 : SmRun 1 10 := fun _ _ _ _ _ => by kernel_rfl
theorem smRun_1_11 : SmRun 1 11 := fun _ _ _ _ _ => by kernel_rfl
theorem smRun_1_12 : SmRun 1 12 := fun _ _ _ _ _ => by kernel_rfl
theorem smRun_2_2 : SmRun 2 2 := fun _ _ _ _ _ => by kernel_rfl
theorem smRun_2_3 : SmRun 2 3 := fun _ _ _ _ _ => by kernel_rfl
theorem smRun_2_4 : SmRun 2 4 := fun _ _ _ _ _ => by kernel_rfl
theorem smRun_2_5 : SmRun 2 5 := fun _ _ _ _ _ => by kernel_rfl
theorem smRun_2_6 : SmRun 2 6 := fun _ _ _ _ _ => by kernel_rfl
theorem smRun_2_7 : SmRun 2 7 := fun _ _ _ _ _ => by kernel_rfl
theorem smRun_2_8 : SmRun 2 8 := fun _ _ _ _ _ => by kernel_rfl
theorem smRun_2_9 : SmRun 2 9 := fun _ _ _ _ _ => by kernel_rfl
theorem smRun_2_10 : SmRun 2 10 := fun _ _ _ _ _ => by kernel_rfl
theorem smRun_2_11 : SmRun 2 11 := fun _ _ _ _ _ => by kernel_rfl
theorem smRun_2_12 : SmRun 2 12 := fun _ _ _ _ _ => by kernel_rfl
theorem smRun_3_2 : SmRun 3 2 := fun _ _ _ _ _ => by kernel_rfl
theorem smRun_3_3 : SmRun 3 3 := fun _ _ _ _ _ => by kernel_rfl
theorem smRun_3_4 : SmRun 3 4 := fun _ _ _ _ _ => by kernel_rfl
theorem smRun_3_5 : SmRun 3 5 := fun _ _ _ _ _ => by kernel_rfl
theorem smRun_3_6 : SmRun 3 6 := fun _ _ _ _ _ => by kernel_rfl
theorem smRun_3_7 : SmRun 3 7 := fun _ _ _ _ _ => by kernel_rfl
theorem smRun_3_8 : SmRun 3 8 := fun _ _ _ _ _ => by kernel_rfl
theorem smRun_3_9 : SmRun 3 9 := fun _ _ _ _ _ => by kernel_rfl
theorem smRun_3_10 : SmRun 3 10 := fun _ _ _ _ _ => by kernel_rfl
theorem smRun_3_11 : SmRun 3 11 := fun _ _ _ _ _ => by kernel_rfl
theorem smRun_3_12 : SmRun 3 12 := fun _ _ _ _ _ => by kernel_rfl
theorem sm_run {N M : Nat} (h1 : 1 ≤ N) (h2 : N ≤ 3) (h3 : 2 ≤ M) (h4 : M ≤ 12) : SmRun N M := by
  have hn : N = 1 ∨ N = 2 ∨ N = 3 := by omega
  have hm : M = 2 ∨ M = 3 ∨ M = 4 ∨ M = 5 ∨ M = 6 ∨ M = 7 ∨ M = 8 ∨ M = 9 ∨ M = 10 ∨ M = 11 ∨ M = 12 := by omega
  rcases hn with rfl | rfl | rfl
  · rcases hm with rfl | rfl | rfl | rfl | rfl | rfl | rfl | rfl | rfl | rfl | rfl
    · exact smRun_1_2
    · exact smRun_1_3
    · exact smRun_1_4
    · exact smRun_1_5
    · exact smRun_1_6
    · exact smRun_1_7
    · exact smRun_1_8
    · exact smRun_1_9
    · exact smRun_1_10
    · exact smRun_1_11
    · exact smRun_1_12
  · rcases hm with rfl | rfl | rfl | rfl | rfl | rfl | rfl | rfl | rfl | rfl | rfl
    · exact smRun_2_2
    · exact smRun_2_3
    · exact smRun_2_4
    · exact smRun_2_5
    · exact smRun_2_6
    · exact smRun_2_7
    · exact smRun_2_8
    · exact smRun_2_9
    · exact smRun_2_10
    · exact smRun_2_11
    · exact smRun_2_12
  · rcases hm with rfl | rfl | rfl | rfl | rfl | rfl | rfl | rfl | rfl | rfl | rfl
    · exact smRun_3_2
    · exact smRun_3_3
    · exact smRun_3_4
    · exact smRun_3_5
    · exact smRun_3_6
    · exact smRun_3_7
    · exact smRun_3_8
    · exact smRun_3_9
    · exact smRun_3_10
    · exact smRun_3_11
    · exact smRun_3_12

end Go.Proofs.Ytpmdpbljgidllaa
