/- tape.op and the document's right of any operation tell the same. -/
import Derived.Test.YtpmdpbljgidllaaTpCk
namespace Go.Proofs.Ytpmdpbljgidllaa
open Go
set_option linter.unusedVariables false
set_option linter.unusedSimpArgs false
set_option maxRecDepth 100000

/-- A number, or none. -/
def NaC (x : Nat) : Prop := NN x ∨ x = nanW .f64 ∨ x = 9221120237041090561
def Both (f g : FuncId) (args : Array Value) (b : Bool) : Prop := Runs Try.prog f args #[] (.bool b) #[] ∧ Runs Try.prog g args #[] (.bool b) #[]
theorem fin_nan1 : (askN noF noC 12 58 #[.float .f64 (nanW .f64)] #[] []).map (fun r => (r.1, r.2.2)) = some (.bool false, []) := by kernel_rfl
theorem fin_nan2 : (askN noF noC 12 27 #[.float .f64 (nanW .f64)] #[] []).map (fun r => (r.1, r.2.2)) = some (.bool false, []) := by kernel_rfl
theorem fin_nan3 : (askN noF noC 12 58 #[.float .f64 9221120237041090561] #[] []).map (fun r => (r.1, r.2.2)) = some (.bool false, []) := by kernel_rfl
theorem fin_nan4 : (askN noF noC 12 27 #[.float .f64 9221120237041090561] #[] []).map (fun r => (r.1, r.2.2)) = some (.bool false, []) := by kernel_rfl
theorem fin_pi1 : (askN noF noC 12 58 #[.float .f64 9218868437227405312] #[] []).map (fun r => (r.1, r.2.2)) = some (.bool false, []) := by kernel_rfl
theorem fin_pi2 : (askN noF noC 12 27 #[.float .f64 9218868437227405312] #[] []).map (fun r => (r.1, r.2.2)) = some (.bool false, []) := by kernel_rfl
theorem fin_mi1 : (askN noF noC 12 58 #[.float .f64 18442240474082181120] #[] []).map (fun r => (r.1, r.2.2)) = some (.bool false, []) := by kernel_rfl
theorem fin_mi2 : (askN noF noC 12 27 #[.float .f64 18442240474082181120] #[] []).map (fun r => (r.1, r.2.2)) = some (.bool false, []) := by kernel_rfl
def eqlF : BinOp → Value → Value → Bool
  | .eql, .float _ _, _ => true
  | _, _, _ => false
theorem dfin_came (c : Nat) : (askN noF eqlF 12 27 #[.float .f64 c] #[] [yes true]).map (fun r => (r.1, r.2.2)) = some (.bool true, [cmpF .eql (fop .sub .f64 c c) 0 true]) := by kernel_rfl
theorem fin_any {c : Nat} (h : NaC c) : ∃ b, Both 58 27 #[.float .f64 c] b := by
  rcases h with h | rfl | rfl
  · by_cases hf : Fi c
    · refine ⟨true, fi_runs hf, quiet_of' (dfin_came c) ⟨(fc _ rfl _ _).trans ?_, trivial⟩ rfl rfl⟩
      have hr := sub_rd hf hf
      rw [Int.sub_self] at hr
      have e0 : rk 0 = 0 := by decide
      have h1 := hr.2.le (j := 0) (by decide) (by decide) (by decide) (by rw [e0]; decide)
      have h2 := hr.2.ge (j := 0) (by decide) (by decide) (by decide) (by rw [e0]; decide)
      rw [eql_ix hr.nn fi_zero.1.nn, fi_zero.2]
      exact congrArg some (decide_eq_true (Int.le_antisymm h1 h2))
    · rcases read_inf h hf with ⟨rfl, _⟩ | ⟨rfl, _⟩
      · exact ⟨false, quiet_of' fin_pi1 trivial rfl rfl, quiet_of' fin_pi2 trivial rfl rfl⟩
      · exact ⟨false, quiet_of' fin_mi1 trivial rfl rfl, quiet_of' fin_mi2 trivial rfl rfl⟩
  · exact ⟨false, quiet_of' fin_nan1 trivial rfl rfl, quiet_of' fin_nan2 trivial rfl rfl⟩
  · exact ⟨false, quiet_of' fin_nan3 trivial rfl rfl, quiet_of' fin_nan4 trivial rfl rfl⟩
noncomputable def askOa (g : FuncId) : Nat := if [58, 40].contains g then 1 else 0
noncomputable def askOr (g : FuncId) : Nat := if g == 27 then 1 else 0
def cmO : BinOp → Value → Value → Bool
  | .eql, .int _ _, _ => true
  | .eql, .float _ _, _ => true
  | .geq, .int _ _, _ => true
  | .lss, .int _ _, _ => true
  | _, _, _ => false
noncomputable def cpB (op : BinOp) (a b : Int) (c : Bool) : Obl := .cmp op 3 (.int .i64 a) (.int .i64 b) c
theorem cpB_eql (a b : Int) (c : Bool) (h : decide (a = b) = c) : (cpB .eql a b c).ok Try.prog := by
  subst h
  show cmpV Try.prog .eql 3 (.int .i64 a) (.int .i64 b) = some (decide (a = b))
  kernel_rfl
theorem cpB_geq (a b : Int) (c : Bool) (h : decide (a ≥ b) = c) : (cpB .geq a b c).ok Try.prog := by
  subst h
  exact cmp_geqT a b
theorem cpB_lss (a b : Int) (c : Bool) (h : decide (a < b) = c) : (cpB .lss a b c).ok Try.prog := by
  subst h
  exact cmp_lss a b
theorem wn_came (a n : Int) : (askN noF cmO 12 40 #[.int .i64 a, .int .i64 n] #[] [yes false]).map (fun r => (r.1, r.2.2)) = some (.bool false, [cpB .geq a 0 false]) := by kernel_rfl
theorem wy_came (a n : Int) (c : Bool) : (askN noF cmO 12 40 #[.int .i64 a, .int .i64 n] #[] [yes true, yes c]).map (fun r => (r.1, r.2.2)) = some (.bool c, [cpB .geq a 0 true, cpB .lss a n c]) := by
  cases c <;> kernel_rfl
theorem wn_any (a n : Int) : Runs Try.prog 40 #[.int .i64 a, .int .i64 n] #[] (.bool (decide (0 ≤ a) && decide (a < n))) #[] := by
  by_cases h : 0 ≤ a
  · rw [decide_eq_true h, Bool.true_and]
    exact quiet_of' (wy_came a n _) ⟨cpB_geq _ _ _ (decide_eq_true h), cpB_lss _ _ _ rfl, trivial⟩ rfl rfl
  · rw [decide_eq_false h, Bool.false_and]
    exact quiet_of' (wn_came a n) ⟨cpB_geq _ _ _ (decide_eq_false h), trivial⟩ rfl rfl
theorem zc_any (x : Nat) : ∃ c, (cmpF .eql x 0 c).ok Try.prog := by
  refine ⟨_, (fc _ rfl _ _).trans (?_ : _ = some (FloatKind.f64.format.order x 0 == some .eq))⟩
  rfl
theorem op_K0_0 (K A B k n : Int) (C : Nat) : (askN askOa cmO 12 39 #[opV K A B C, .int .i64 k, .int .i64 n] #[] [yes true, yes false]).map (fun r => (r.1, r.2.2)) = some (.bool false, [cpB .eql K 0 true, qtO 58 #[.float .f64 C] (.bool false)]) := by kernel_rfl
theorem op_K0_1 (K A B k n : Int) (C : Nat) : (askN askOa cmO 12 39 #[opV K A B C, .int .i64 k, .int .i64 n] #[] [yes true, yes true, yes false]).map (fun r => (r.1, r.2.2)) = some (.bool false, [cpB .eql K 0 true, qtO 58 #[.float .f64 C] (.bool true), cpB .eql A 0 false]) := by kernel_rfl
theorem op_K0_2 (K A B k n : Int) (C : Nat) (c : Bool) : (askN askOa cmO 12 39 #[opV K A B C, .int .i64 k, .int .i64 n] #[] [yes true, yes true, yes true, yes c]).map (fun r => (r.1, r.2.2)) = some (.bool c, [cpB .eql K 0 true, qtO 58 #[.float .f64 C] (.bool true), cpB .eql A 0 true, cpB .eql B 0 c]) := by cases c <;> kernel_rfl
theorem op_K1_0 (K A B k n : Int) (C : Nat) : (askN askOa cmO 12 39 #[opV K A B C, .int .i64 k, .int .i64 n] #[] [yes false, yes true, yes false]).map (fun r => (r.1, r.2.2)) = some (.bool false, [cpB .eql K 0 false, cpB .eql K 1 true, qtO 40 #[.int .i64 A, .int .i64 n] (.bool false)]) := by kernel_rfl
theorem op_K1_1 (K A B k n : Int) (C : Nat) : (askN askOa cmO 12 39 #[opV K A B C, .int .i64 k, .int .i64 n] #[] [yes false, yes true, yes true, yes false]).map (fun r => (r.1, r.2.2)) = some (.bool false, [cpB .eql K 0 false, cpB .eql K 1 true, qtO 40 #[.int .i64 A, .int .i64 n] (.bool true), cpB .eql B 0 false]) := by kernel_rfl
theorem op_K1_2 (K A B k n : Int) (C : Nat) (c : Bool) : (askN askOa cmO 12 39 #[opV K A B C, .int .i64 k, .int .i64 n] #[] [yes false, yes true, yes true, yes true, yes c]).map (fun r => (r.1, r.2.2)) = some (.bool c, [cpB .eql K 0 false, cpB .eql K 1 true, qtO 40 #[.int .i64 A, .int .i64 n] (.bool true), cpB .eql B 0 true, cmpF .eql C 0 c]) := by cases c <;> kernel_rfl
theorem op_K2_0 (K A B k n : Int) (C : Nat) : (askN askOa cmO 12 39 #[opV K A B C, .int .i64 k, .int .i64 n] #[] [yes false, yes false, yes true, yes false]).map (fun r => (r.1, r.2.2)) = some (.bool false, [cpB .eql K 0 false, cpB .eql K 1 false, cpB .eql K 2 true, qtO 40 #[.int .i64 A, .int .i64 k] (.bool false)]) := by kernel_rfl
theorem op_K2_1 (K A B k n : Int) (C : Nat) : (askN askOa cmO 12 39 #[opV K A B C, .int .i64 k, .int .i64 n] #[] [yes false, yes false, yes true, yes true, yes false]).map (fun r => (r.1, r.2.2)) = some (.bool false, [cpB .eql K 0 false, cpB .eql K 1 false, cpB .eql K 2 true, qtO 40 #[.int .i64 A, .int .i64 k] (.bool true), qtO 40 #[.int .i64 B, .int .i64 k] (.bool false)]) := by kernel_rfl
theorem op_K2_2 (K A B k n : Int) (C : Nat) (c : Bool) : (askN askOa cmO 12 39 #[opV K A B C, .int .i64 k, .int .i64 n] #[] [yes false, yes false, yes true, yes true, yes true, yes c]).map (fun r => (r.1, r.2.2)) = some (.bool c, [cpB .eql K 0 false, cpB .eql K 1 false, cpB .eql K 2 true, qtO 40 #[.int .i64 A, .int .i64 k] (.bool true), qtO 40 #[.int .i64 B, .int .i64 k] (.bool true), cmpF .eql C 0 c]) := by cases c <;> kernel_rfl
theorem op_K3_0 (K A B k n : Int) (C : Nat) : (askN askOa cmO 12 39 #[opV K A B C, .int .i64 k, .int .i64 n] #[] [yes false, yes false, yes false, yes true, yes false]).map (fun r => (r.1, r.2.2)) = some (.bool false, [cpB .eql K 0 false, cpB .eql K 1 false, cpB .eql K 2 false, cpB .eql K 3 true, qtO 40 #[.int .i64 A, .int .i64 k] (.bool false)]) := by kernel_rfl
theorem op_K3_1 (K A B k n : Int) (C : Nat) : (askN askOa cmO 12 39 #[opV K A B C, .int .i64 k, .int .i64 n] #[] [yes false, yes false, yes false, yes true, yes true, yes false]).map (fun r => (r.1, r.2.2)) = some (.bool false, [cpB .eql K 0 false, cpB .eql K 1 false, cpB .eql K 2 false, cpB .eql K 3 true, qtO 40 #[.int .i64 A, .int .i64 k] (.bool true), qtO 40 #[.int .i64 B, .int .i64 k] (.bool false)]) := by kernel_rfl
theorem op_K3_2 (K A B k n : Int) (C : Nat) (c : Bool) : (askN askOa cmO 12 39 #[opV K A B C, .int .i64 k, .int .i64 n] #[] [yes false, yes false, yes false, yes true, yes true, yes true, yes c]).map (fun r => (r.1, r.2.2)) = some (.bool c, [cpB .eql K 0 false, cpB .eql K 1 false, cpB .eql K 2 false, cpB .eql K 3 true, qtO 40 #[.int .i64 A, .int .i64 k] (.bool true), qtO 40 #[.int .i64 B, .int .i64 k] (.bool true), cmpF .eql C 0 c]) := by cases c <;> kernel_rfl
theorem op_K4_0 (K A B k n : Int) (C : Nat) : (askN askOa cmO 12 39 #[opV K A B C, .int .i64 k, .int .i64 n] #[] [yes false, yes false, yes false, yes false, yes true, yes false]).map (fun r => (r.1, r.2.2)) = some (.bool false, [cpB .eql K 0 false, cpB .eql K 1 false, cpB .eql K 2 false, cpB .eql K 3 false, cpB .eql K 4 true, qtO 40 #[.int .i64 A, .int .i64 k] (.bool false)]) := by kernel_rfl
theorem op_K4_1 (K A B k n : Int) (C : Nat) : (askN askOa cmO 12 39 #[opV K A B C, .int .i64 k, .int .i64 n] #[] [yes false, yes false, yes false, yes false, yes true, yes true, yes false]).map (fun r => (r.1, r.2.2)) = some (.bool false, [cpB .eql K 0 false, cpB .eql K 1 false, cpB .eql K 2 false, cpB .eql K 3 false, cpB .eql K 4 true, qtO 40 #[.int .i64 A, .int .i64 k] (.bool true), qtO 40 #[.int .i64 B, .int .i64 k] (.bool false)]) := by kernel_rfl
theorem op_K4_2 (K A B k n : Int) (C : Nat) (c : Bool) : (askN askOa cmO 12 39 #[opV K A B C, .int .i64 k, .int .i64 n] #[] [yes false, yes false, yes false, yes false, yes true, yes true, yes true, yes c]).map (fun r => (r.1, r.2.2)) = some (.bool c, [cpB .eql K 0 false, cpB .eql K 1 false, cpB .eql K 2 false, cpB .eql K 3 false, cpB .eql K 4 true, qtO 40 #[.int .i64 A, .int .i64 k] (.bool true), qtO 40 #[.int .i64 B, .int .i64 k] (.bool true), cmpF .eql C 0 c]) := by cases c <;> kernel_rfl
theorem op_K5_0 (K A B k n : Int) (C : Nat) : (askN askOa cmO 12 39 #[opV K A B C, .int .i64 k, .int .i64 n] #[] [yes false, yes false, yes false, yes false, yes false, yes true, yes false]).map (fun r => (r.1, r.2.2)) = some (.bool false, [cpB .eql K 0 false, cpB .eql K 1 false, cpB .eql K 2 false, cpB .eql K 3 false, cpB .eql K 4 false, cpB .eql K 5 true, qtO 40 #[.int .i64 A, .int .i64 k] (.bool false)]) := by kernel_rfl
theorem op_K5_1 (K A B k n : Int) (C : Nat) : (askN askOa cmO 12 39 #[opV K A B C, .int .i64 k, .int .i64 n] #[] [yes false, yes false, yes false, yes false, yes false, yes true, yes true, yes false]).map (fun r => (r.1, r.2.2)) = some (.bool false, [cpB .eql K 0 false, cpB .eql K 1 false, cpB .eql K 2 false, cpB .eql K 3 false, cpB .eql K 4 false, cpB .eql K 5 true, qtO 40 #[.int .i64 A, .int .i64 k] (.bool true), qtO 40 #[.int .i64 B, .int .i64 k] (.bool false)]) := by kernel_rfl
theorem op_K5_2 (K A B k n : Int) (C : Nat) (c : Bool) : (askN askOa cmO 12 39 #[opV K A B C, .int .i64 k, .int .i64 n] #[] [yes false, yes false, yes false, yes false, yes false, yes true, yes true, yes true, yes c]).map (fun r => (r.1, r.2.2)) = some (.bool c, [cpB .eql K 0 false, cpB .eql K 1 false, cpB .eql K 2 false, cpB .eql K 3 false, cpB .eql K 4 false, cpB .eql K 5 true, qtO 40 #[.int .i64 A, .int .i64 k] (.bool true), qtO 40 #[.int .i64 B, .int .i64 k] (.bool true), cmpF .eql C 0 c]) := by cases c <;> kernel_rfl
theorem op_KN_0 (K A B k n : Int) (C : Nat) : (askN askOa cmO 12 39 #[opV K A B C, .int .i64 k, .int .i64 n] #[] [yes false, yes false, yes false, yes false, yes false, yes false]).map (fun r => (r.1, r.2.2)) = some (.bool false, [cpB .eql K 0 false, cpB .eql K 1 false, cpB .eql K 2 false, cpB .eql K 3 false, cpB .eql K 4 false, cpB .eql K 5 false]) := by kernel_rfl
theorem rp_K0_0 (K A B k n : Int) (C : Nat) : (askN askOr cmO 12 41 #[opV K A B C, .int .i64 k, .int .i64 n] #[] [yes true, yes false]).map (fun r => (r.1, r.2.2)) = some (.bool false, [cpB .eql K 0 true, qtO 27 #[.float .f64 C] (.bool false)]) := by kernel_rfl
theorem rp_K0_1 (K A B k n : Int) (C : Nat) : (askN askOr cmO 12 41 #[opV K A B C, .int .i64 k, .int .i64 n] #[] [yes true, yes true, yes false]).map (fun r => (r.1, r.2.2)) = some (.bool false, [cpB .eql K 0 true, qtO 27 #[.float .f64 C] (.bool true), cpB .eql A 0 false]) := by kernel_rfl
theorem rp_K0_2 (K A B k n : Int) (C : Nat) (c : Bool) : (askN askOr cmO 12 41 #[opV K A B C, .int .i64 k, .int .i64 n] #[] [yes true, yes true, yes true, yes c]).map (fun r => (r.1, r.2.2)) = some (.bool c, [cpB .eql K 0 true, qtO 27 #[.float .f64 C] (.bool true), cpB .eql A 0 true, cpB .eql B 0 c]) := by cases c <;> kernel_rfl
theorem rp_K1_0 (K A B k n : Int) (C : Nat) : (askN askOr cmO 12 41 #[opV K A B C, .int .i64 k, .int .i64 n] #[] [yes false, yes true, yes false]).map (fun r => (r.1, r.2.2)) = some (.bool false, [cpB .eql K 0 false, cpB .eql K 1 true, cpB .geq A 0 false]) := by kernel_rfl
theorem rp_K1_1 (K A B k n : Int) (C : Nat) : (askN askOr cmO 12 41 #[opV K A B C, .int .i64 k, .int .i64 n] #[] [yes false, yes true, yes true, yes false]).map (fun r => (r.1, r.2.2)) = some (.bool false, [cpB .eql K 0 false, cpB .eql K 1 true, cpB .geq A 0 true, cpB .lss A n false]) := by kernel_rfl
theorem rp_K1_2 (K A B k n : Int) (C : Nat) : (askN askOr cmO 12 41 #[opV K A B C, .int .i64 k, .int .i64 n] #[] [yes false, yes true, yes true, yes true, yes false]).map (fun r => (r.1, r.2.2)) = some (.bool false, [cpB .eql K 0 false, cpB .eql K 1 true, cpB .geq A 0 true, cpB .lss A n true, cpB .eql B 0 false]) := by kernel_rfl
theorem rp_K1_3 (K A B k n : Int) (C : Nat) (c : Bool) : (askN askOr cmO 12 41 #[opV K A B C, .int .i64 k, .int .i64 n] #[] [yes false, yes true, yes true, yes true, yes true, yes c]).map (fun r => (r.1, r.2.2)) = some (.bool c, [cpB .eql K 0 false, cpB .eql K 1 true, cpB .geq A 0 true, cpB .lss A n true, cpB .eql B 0 true, cmpF .eql C 0 c]) := by cases c <;> kernel_rfl
theorem rp_K2_0 (K A B k n : Int) (C : Nat) : (askN askOr cmO 12 41 #[opV K A B C, .int .i64 k, .int .i64 n] #[] [yes false, yes false, yes true, yes false]).map (fun r => (r.1, r.2.2)) = some (.bool false, [cpB .eql K 0 false, cpB .eql K 1 false, cpB .eql K 2 true, cpB .geq A 0 false]) := by kernel_rfl
theorem rp_K2_1 (K A B k n : Int) (C : Nat) : (askN askOr cmO 12 41 #[opV K A B C, .int .i64 k, .int .i64 n] #[] [yes false, yes false, yes true, yes true, yes false]).map (fun r => (r.1, r.2.2)) = some (.bool false, [cpB .eql K 0 false, cpB .eql K 1 false, cpB .eql K 2 true, cpB .geq A 0 true, cpB .lss A k false]) := by kernel_rfl
theorem rp_K2_2 (K A B k n : Int) (C : Nat) : (askN askOr cmO 12 41 #[opV K A B C, .int .i64 k, .int .i64 n] #[] [yes false, yes false, yes true, yes true, yes true, yes false]).map (fun r => (r.1, r.2.2)) = some (.bool false, [cpB .eql K 0 false, cpB .eql K 1 false, cpB .eql K 2 true, cpB .geq A 0 true, cpB .lss A k true, cpB .geq B 0 false]) := by kernel_rfl
theorem rp_K2_3 (K A B k n : Int) (C : Nat) : (askN askOr cmO 12 41 #[opV K A B C, .int .i64 k, .int .i64 n] #[] [yes false, yes false, yes true, yes true, yes true, yes true, yes false]).map (fun r => (r.1, r.2.2)) = some (.bool false, [cpB .eql K 0 false, cpB .eql K 1 false, cpB .eql K 2 true, cpB .geq A 0 true, cpB .lss A k true, cpB .geq B 0 true, cpB .lss B k false]) := by kernel_rfl
theorem rp_K2_4 (K A B k n : Int) (C : Nat) (c : Bool) : (askN askOr cmO 12 41 #[opV K A B C, .int .i64 k, .int .i64 n] #[] [yes false, yes false, yes true, yes true, yes true, yes true, yes true, yes c]).map (fun r => (r.1, r.2.2)) = some (.bool c, [cpB .eql K 0 false, cpB .eql K 1 false, cpB .eql K 2 true, cpB .geq A 0 true, cpB .lss A k true, cpB .geq B 0 true, cpB .lss B k true, cmpF .eql C 0 c]) := by cases c <;> kernel_rfl
theorem rp_K3_0 (K A B k n : Int) (C : Nat) : (askN askOr cmO 12 41 #[opV K A B C, .int .i64 k, .int .i64 n] #[] [yes false, yes false, yes false, yes true, yes false]).map (fun r => (r.1, r.2.2)) = some (.bool false, [cpB .eql K 0 false, cpB .eql K 1 false, cpB .eql K 2 false, cpB .eql K 3 true, cpB .geq A 0 false]) := by kernel_rfl
theorem rp_K3_1 (K A B k n : Int) (C : Nat) : (askN askOr cmO 12 41 #[opV K A B C, .int .i64 k, .int .i64 n] #[] [yes false, yes false, yes false, yes true, yes true, yes false]).map (fun r => (r.1, r.2.2)) = some (.bool false, [cpB .eql K 0 false, cpB .eql K 1 false, cpB .eql K 2 false, cpB .eql K 3 true, cpB .geq A 0 true, cpB .lss A k false]) := by kernel_rfl
theorem rp_K3_2 (K A B k n : Int) (C : Nat) : (askN askOr cmO 12 41 #[opV K A B C, .int .i64 k, .int .i64 n] #[] [yes false, yes false, yes false, yes true, yes true, yes true, yes false]).map (fun r => (r.1, r.2.2)) = some (.bool false, [cpB .eql K 0 false, cpB .eql K 1 false, cpB .eql K 2 false, cpB .eql K 3 true, cpB .geq A 0 true, cpB .lss A k true, cpB .geq B 0 false]) := by kernel_rfl
theorem rp_K3_3 (K A B k n : Int) (C : Nat) : (askN askOr cmO 12 41 #[opV K A B C, .int .i64 k, .int .i64 n] #[] [yes false, yes false, yes false, yes true, yes true, yes true, yes true, yes false]).map (fun r => (r.1, r.2.2)) = some (.bool false, [cpB .eql K 0 false, cpB .eql K 1 false, cpB .eql K 2 false, cpB .eql K 3 true, cpB .geq A 0 true, cpB .lss A k true, cpB .geq B 0 true, cpB .lss B k false]) := by kernel_rfl
theorem rp_K3_4 (K A B k n : Int) (C : Nat) (c : Bool) : (askN askOr cmO 12 41 #[opV K A B C, .int .i64 k, .int .i64 n] #[] [yes false, yes false, yes false, yes true, yes true, yes true, yes true, yes true, yes c]).map (fun r => (r.1, r.2.2)) = some (.bool c, [cpB .eql K 0 false, cpB .eql K 1 false, cpB .eql K 2 false, cpB .eql K 3 true, cpB .geq A 0 true, cpB .lss A k true, cpB .geq B 0 true, cpB .lss B k true, cmpF .eql C 0 c]) := by cases c <;> kernel_rfl
theorem rp_K4_0 (K A B k n : Int) (C : Nat) : (askN askOr cmO 12 41 #[opV K A B C, .int .i64 k, .int .i64 n] #[] [yes false, yes false, yes false, yes false, yes true, yes false]).map (fun r => (r.1, r.2.2)) = some (.bool false, [cpB .eql K 0 false, cpB .eql K 1 false, cpB .eql K 2 false, cpB .eql K 3 false, cpB .eql K 4 true, cpB .geq A 0 false]) := by kernel_rfl
theorem rp_K4_1 (K A B k n : Int) (C : Nat) : (askN askOr cmO 12 41 #[opV K A B C, .int .i64 k, .int .i64 n] #[] [yes false, yes false, yes false, yes false, yes true, yes true, yes false]).map (fun r => (r.1, r.2.2)) = some (.bool false, [cpB .eql K 0 false, cpB .eql K 1 false, cpB .eql K 2 false, cpB .eql K 3 false, cpB .eql K 4 true, cpB .geq A 0 true, cpB .lss A k false]) := by kernel_rfl
theorem rp_K4_2 (K A B k n : Int) (C : Nat) : (askN askOr cmO 12 41 #[opV K A B C, .int .i64 k, .int .i64 n] #[] [yes false, yes false, yes false, yes false, yes true, yes true, yes true, yes false]).map (fun r => (r.1, r.2.2)) = some (.bool false, [cpB .eql K 0 false, cpB .eql K 1 false, cpB .eql K 2 false, cpB .eql K 3 false, cpB .eql K 4 true, cpB .geq A 0 true, cpB .lss A k true, cpB .geq B 0 false]) := by kernel_rfl
theorem rp_K4_3 (K A B k n : Int) (C : Nat) : (askN askOr cmO 12 41 #[opV K A B C, .int .i64 k, .int .i64 n] #[] [yes false, yes false, yes false, yes false, yes true, yes true, yes true, yes true, yes false]).map (fun r => (r.1, r.2.2)) = some (.bool false, [cpB .eql K 0 false, cpB .eql K 1 false, cpB .eql K 2 false, cpB .eql K 3 false, cpB .eql K 4 true, cpB .geq A 0 true, cpB .lss A k true, cpB .geq B 0 true, cpB .lss B k false]) := by kernel_rfl
theorem rp_K4_4 (K A B k n : Int) (C : Nat) (c : Bool) : (askN askOr cmO 12 41 #[opV K A B C, .int .i64 k, .int .i64 n] #[] [yes false, yes false, yes false, yes false, yes true, yes true, yes true, yes true, yes true, yes c]).map (fun r => (r.1, r.2.2)) = some (.bool c, [cpB .eql K 0 false, cpB .eql K 1 false, cpB .eql K 2 false, cpB .eql K 3 false, cpB .eql K 4 true, cpB .geq A 0 true, cpB .lss A k true, cpB .geq B 0 true, cpB .lss B k true, cmpF .eql C 0 c]) := by cases c <;> kernel_rfl
theorem rp_K5_0 (K A B k n : Int) (C : Nat) : (askN askOr cmO 12 41 #[opV K A B C, .int .i64 k, .int .i64 n] #[] [yes false, yes false, yes false, yes false, yes false, yes true, yes false]).map (fun r => (r.1, r.2.2)) = some (.bool false, [cpB .eql K 0 false, cpB .eql K 1 false, cpB .eql K 2 false, cpB .eql K 3 false, cpB .eql K 4 false, cpB .eql K 5 true, cpB .geq A 0 false]) := by kernel_rfl
theorem rp_K5_1 (K A B k n : Int) (C : Nat) : (askN askOr cmO 12 41 #[opV K A B C, .int .i64 k, .int .i64 n] #[] [yes false, yes false, yes false, yes false, yes false, yes true, yes true, yes false]).map (fun r => (r.1, r.2.2)) = some (.bool false, [cpB .eql K 0 false, cpB .eql K 1 false, cpB .eql K 2 false, cpB .eql K 3 false, cpB .eql K 4 false, cpB .eql K 5 true, cpB .geq A 0 true, cpB .lss A k false]) := by kernel_rfl
theorem rp_K5_2 (K A B k n : Int) (C : Nat) : (askN askOr cmO 12 41 #[opV K A B C, .int .i64 k, .int .i64 n] #[] [yes false, yes false, yes false, yes false, yes false, yes true, yes true, yes true, yes false]).map (fun r => (r.1, r.2.2)) = some (.bool false, [cpB .eql K 0 false, cpB .eql K 1 false, cpB .eql K 2 false, cpB .eql K 3 false, cpB .eql K 4 false, cpB .eql K 5 true, cpB .geq A 0 true, cpB .lss A k true, cpB .geq B 0 false]) := by kernel_rfl
theorem rp_K5_3 (K A B k n : Int) (C : Nat) : (askN askOr cmO 12 41 #[opV K A B C, .int .i64 k, .int .i64 n] #[] [yes false, yes false, yes false, yes false, yes false, yes true, yes true, yes true, yes true, yes false]).map (fun r => (r.1, r.2.2)) = some (.bool false, [cpB .eql K 0 false, cpB .eql K 1 false, cpB .eql K 2 false, cpB .eql K 3 false, cpB .eql K 4 false, cpB .eql K 5 true, cpB .geq A 0 true, cpB .lss A k true, cpB .geq B 0 true, cpB .lss B k false]) := by kernel_rfl
theorem rp_K5_4 (K A B k n : Int) (C : Nat) (c : Bool) : (askN askOr cmO 12 41 #[opV K A B C, .int .i64 k, .int .i64 n] #[] [yes false, yes false, yes false, yes false, yes false, yes true, yes true, yes true, yes true, yes true, yes c]).map (fun r => (r.1, r.2.2)) = some (.bool c, [cpB .eql K 0 false, cpB .eql K 1 false, cpB .eql K 2 false, cpB .eql K 3 false, cpB .eql K 4 false, cpB .eql K 5 true, cpB .geq A 0 true, cpB .lss A k true, cpB .geq B 0 true, cpB .lss B k true, cmpF .eql C 0 c]) := by cases c <;> kernel_rfl
theorem rp_KN_0 (K A B k n : Int) (C : Nat) : (askN askOr cmO 12 41 #[opV K A B C, .int .i64 k, .int .i64 n] #[] [yes false, yes false, yes false, yes false, yes false, yes false]).map (fun r => (r.1, r.2.2)) = some (.bool false, [cpB .eql K 0 false, cpB .eql K 1 false, cpB .eql K 2 false, cpB .eql K 3 false, cpB .eql K 4 false, cpB .eql K 5 false]) := by kernel_rfl
theorem op_any (K A B k n : Int) {C : Nat} (hC : NaC C) : ∃ b, Both 39 41 #[opV K A B C, .int .i64 k, .int .i64 n] b := by
  obtain ⟨f, f1, f2⟩ := fin_any hC
  obtain ⟨z, hz⟩ := zc_any C
  have t : ∀ {a b : Int}, a = b → (cpB .eql a b true).ok Try.prog := fun h => cpB_eql _ _ _ (decide_eq_true h)
  have e : ∀ {a b : Int}, a ≠ b → (cpB .eql a b false).ok Try.prog := fun h => cpB_eql _ _ _ (decide_eq_false h)
  have g : ∀ {a : Int}, 0 ≤ a → (cpB .geq a 0 true).ok Try.prog := fun h => cpB_geq _ _ _ (decide_eq_true h)
  have gn : ∀ {a : Int}, ¬ 0 ≤ a → (cpB .geq a 0 false).ok Try.prog := fun h => cpB_geq _ _ _ (decide_eq_false h)
  have l : ∀ {a b : Int}, a < b → (cpB .lss a b true).ok Try.prog := fun h => cpB_lss _ _ _ (decide_eq_true h)
  have ln : ∀ {a b : Int}, ¬ a < b → (cpB .lss a b false).ok Try.prog := fun h => cpB_lss _ _ _ (decide_eq_false h)
  have w : ∀ {a b : Int}, 0 ≤ a → a < b → (qtO 40 #[.int .i64 a, .int .i64 b] (.bool true)).ok Try.prog := fun {a b} h1 h2 => by
    have := wn_any a b
    rw [decide_eq_true h1, decide_eq_true h2] at this
    exact this
  have wn : ∀ {a b : Int}, (¬ 0 ≤ a ∨ ¬ a < b) → (qtO 40 #[.int .i64 a, .int .i64 b] (.bool false)).ok Try.prog := fun {a b} h => by
    have := wn_any a b
    rw [show (decide (0 ≤ a) && decide (a < b)) = false by rcases h with h | h <;> simp [h]] at this
    exact this
  by_cases k0 : K = 0
  ·
    cases f with
    | false => exact ⟨false, quiet_of' (op_K0_0 K A B k n C) ⟨t k0, f1, trivial⟩ rfl rfl, quiet_of' (rp_K0_0 K A B k n C) ⟨t k0, f2, trivial⟩ rfl rfl⟩
    | true =>
      by_cases hA : A = 0
      · exact ⟨decide (B = 0), quiet_of' (op_K0_2 K A B k n C _) ⟨t k0, f1, t hA, cpB_eql _ _ _ rfl, trivial⟩ rfl rfl, quiet_of' (rp_K0_2 K A B k n C _) ⟨t k0, f2, t hA, cpB_eql _ _ _ rfl, trivial⟩ rfl rfl⟩
      · exact ⟨false, quiet_of' (op_K0_1 K A B k n C) ⟨t k0, f1, e hA, trivial⟩ rfl rfl, quiet_of' (rp_K0_1 K A B k n C) ⟨t k0, f2, e hA, trivial⟩ rfl rfl⟩
  by_cases k1 : K = 1
  ·
    by_cases a0 : 0 ≤ A
    · by_cases a1 : A < n
      · by_cases hB : B = 0
        · exact ⟨z, quiet_of' (op_K1_2 K A B k n C _) ⟨e k0, t k1, w a0 a1, t hB, hz, trivial⟩ rfl rfl, quiet_of' (rp_K1_3 K A B k n C _) ⟨e k0, t k1, g a0, l a1, t hB, hz, trivial⟩ rfl rfl⟩
        · exact ⟨false, quiet_of' (op_K1_1 K A B k n C) ⟨e k0, t k1, w a0 a1, e hB, trivial⟩ rfl rfl, quiet_of' (rp_K1_2 K A B k n C) ⟨e k0, t k1, g a0, l a1, e hB, trivial⟩ rfl rfl⟩
      · exact ⟨false, quiet_of' (op_K1_0 K A B k n C) ⟨e k0, t k1, wn (.inr a1), trivial⟩ rfl rfl, quiet_of' (rp_K1_1 K A B k n C) ⟨e k0, t k1, g a0, ln a1, trivial⟩ rfl rfl⟩
    · exact ⟨false, quiet_of' (op_K1_0 K A B k n C) ⟨e k0, t k1, wn (.inl a0), trivial⟩ rfl rfl, quiet_of' (rp_K1_0 K A B k n C) ⟨e k0, t k1, gn a0, trivial⟩ rfl rfl⟩
  by_cases k2 : K = 2
  ·
    by_cases a0 : 0 ≤ A
    · by_cases a1 : A < k
      · by_cases b0 : 0 ≤ B
        · by_cases b1 : B < k
          · exact ⟨z, quiet_of' (op_K2_2 K A B k n C _) ⟨e k0, e k1, t k2, w a0 a1, w b0 b1, hz, trivial⟩ rfl rfl, quiet_of' (rp_K2_4 K A B k n C _) ⟨e k0, e k1, t k2, g a0, l a1, g b0, l b1, hz, trivial⟩ rfl rfl⟩
          · exact ⟨false, quiet_of' (op_K2_1 K A B k n C) ⟨e k0, e k1, t k2, w a0 a1, wn (.inr b1), trivial⟩ rfl rfl, quiet_of' (rp_K2_3 K A B k n C) ⟨e k0, e k1, t k2, g a0, l a1, g b0, ln b1, trivial⟩ rfl rfl⟩
        · exact ⟨false, quiet_of' (op_K2_1 K A B k n C) ⟨e k0, e k1, t k2, w a0 a1, wn (.inl b0), trivial⟩ rfl rfl, quiet_of' (rp_K2_2 K A B k n C) ⟨e k0, e k1, t k2, g a0, l a1, gn b0, trivial⟩ rfl rfl⟩
      · exact ⟨false, quiet_of' (op_K2_0 K A B k n C) ⟨e k0, e k1, t k2, wn (.inr a1), trivial⟩ rfl rfl, quiet_of' (rp_K2_1 K A B k n C) ⟨e k0, e k1, t k2, g a0, ln a1, trivial⟩ rfl rfl⟩
    · exact ⟨false, quiet_of' (op_K2_0 K A B k n C) ⟨e k0, e k1, t k2, wn (.inl a0), trivial⟩ rfl rfl, quiet_of' (rp_K2_0 K A B k n C) ⟨e k0, e k1, t k2, gn a0, trivial⟩ rfl rfl⟩
  by_cases k3 : K = 3
  ·
    by_cases a0 : 0 ≤ A
    · by_cases a1 : A < k
      · by_cases b0 : 0 ≤ B
        · by_cases b1 : B < k
          · exact ⟨z, quiet_of' (op_K3_2 K A B k n C _) ⟨e k0, e k1, e k2, t k3, w a0 a1, w b0 b1, hz, trivial⟩ rfl rfl, quiet_of' (rp_K3_4 K A B k n C _) ⟨e k0, e k1, e k2, t k3, g a0, l a1, g b0, l b1, hz, trivial⟩ rfl rfl⟩
          · exact ⟨false, quiet_of' (op_K3_1 K A B k n C) ⟨e k0, e k1, e k2, t k3, w a0 a1, wn (.inr b1), trivial⟩ rfl rfl, quiet_of' (rp_K3_3 K A B k n C) ⟨e k0, e k1, e k2, t k3, g a0, l a1, g b0, ln b1, trivial⟩ rfl rfl⟩
        · exact ⟨false, quiet_of' (op_K3_1 K A B k n C) ⟨e k0, e k1, e k2, t k3, w a0 a1, wn (.inl b0), trivial⟩ rfl rfl, quiet_of' (rp_K3_2 K A B k n C) ⟨e k0, e k1, e k2, t k3, g a0, l a1, gn b0, trivial⟩ rfl rfl⟩
      · exact ⟨false, quiet_of' (op_K3_0 K A B k n C) ⟨e k0, e k1, e k2, t k3, wn (.inr a1), trivial⟩ rfl rfl, quiet_of' (rp_K3_1 K A B k n C) ⟨e k0, e k1, e k2, t k3, g a0, ln a1, trivial⟩ rfl rfl⟩
    · exact ⟨false, quiet_of' (op_K3_0 K A B k n C) ⟨e k0, e k1, e k2, t k3, wn (.inl a0), trivial⟩ rfl rfl, quiet_of' (rp_K3_0 K A B k n C) ⟨e k0, e k1, e k2, t k3, gn a0, trivial⟩ rfl rfl⟩
  by_cases k4 : K = 4
  ·
    by_cases a0 : 0 ≤ A
    · by_cases a1 : A < k
      · by_cases b0 : 0 ≤ B
        · by_cases b1 : B < k
          · exact ⟨z, quiet_of' (op_K4_2 K A B k n C _) ⟨e k0, e k1, e k2, e k3, t k4, w a0 a1, w b0 b1, hz, trivial⟩ rfl rfl, quiet_of' (rp_K4_4 K A B k n C _) ⟨e k0, e k1, e k2, e k3, t k4, g a0, l a1, g b0, l b1, hz, trivial⟩ rfl rfl⟩
          · exact ⟨false, quiet_of' (op_K4_1 K A B k n C) ⟨e k0, e k1, e k2, e k3, t k4, w a0 a1, wn (.inr b1), trivial⟩ rfl rfl, quiet_of' (rp_K4_3 K A B k n C) ⟨e k0, e k1, e k2, e k3, t k4, g a0, l a1, g b0, ln b1, trivial⟩ rfl rfl⟩
        · exact ⟨false, quiet_of' (op_K4_1 K A B k n C) ⟨e k0, e k1, e k2, e k3, t k4, w a0 a1, wn (.inl b0), trivial⟩ rfl rfl, quiet_of' (rp_K4_2 K A B k n C) ⟨e k0, e k1, e k2, e k3, t k4, g a0, l a1, gn b0, trivial⟩ rfl rfl⟩
      · exact ⟨false, quiet_of' (op_K4_0 K A B k n C) ⟨e k0, e k1, e k2, e k3, t k4, wn (.inr a1), trivial⟩ rfl rfl, quiet_of' (rp_K4_1 K A B k n C) ⟨e k0, e k1, e k2, e k3, t k4, g a0, ln a1, trivial⟩ rfl rfl⟩
    · exact ⟨false, quiet_of' (op_K4_0 K A B k n C) ⟨e k0, e k1, e k2, e k3, t k4, wn (.inl a0), trivial⟩ rfl rfl, quiet_of' (rp_K4_0 K A B k n C) ⟨e k0, e k1, e k2, e k3, t k4, gn a0, trivial⟩ rfl rfl⟩
  by_cases k5 : K = 5
  ·
    by_cases a0 : 0 ≤ A
    · by_cases a1 : A < k
      · by_cases b0 : 0 ≤ B
        · by_cases b1 : B < k
          · exact ⟨z, quiet_of' (op_K5_2 K A B k n C _) ⟨e k0, e k1, e k2, e k3, e k4, t k5, w a0 a1, w b0 b1, hz, trivial⟩ rfl rfl, quiet_of' (rp_K5_4 K A B k n C _) ⟨e k0, e k1, e k2, e k3, e k4, t k5, g a0, l a1, g b0, l b1, hz, trivial⟩ rfl rfl⟩
          · exact ⟨false, quiet_of' (op_K5_1 K A B k n C) ⟨e k0, e k1, e k2, e k3, e k4, t k5, w a0 a1, wn (.inr b1), trivial⟩ rfl rfl, quiet_of' (rp_K5_3 K A B k n C) ⟨e k0, e k1, e k2, e k3, e k4, t k5, g a0, l a1, g b0, ln b1, trivial⟩ rfl rfl⟩
        · exact ⟨false, quiet_of' (op_K5_1 K A B k n C) ⟨e k0, e k1, e k2, e k3, e k4, t k5, w a0 a1, wn (.inl b0), trivial⟩ rfl rfl, quiet_of' (rp_K5_2 K A B k n C) ⟨e k0, e k1, e k2, e k3, e k4, t k5, g a0, l a1, gn b0, trivial⟩ rfl rfl⟩
      · exact ⟨false, quiet_of' (op_K5_0 K A B k n C) ⟨e k0, e k1, e k2, e k3, e k4, t k5, wn (.inr a1), trivial⟩ rfl rfl, quiet_of' (rp_K5_1 K A B k n C) ⟨e k0, e k1, e k2, e k3, e k4, t k5, g a0, ln a1, trivial⟩ rfl rfl⟩
    · exact ⟨false, quiet_of' (op_K5_0 K A B k n C) ⟨e k0, e k1, e k2, e k3, e k4, t k5, wn (.inl a0), trivial⟩ rfl rfl, quiet_of' (rp_K5_0 K A B k n C) ⟨e k0, e k1, e k2, e k3, e k4, t k5, gn a0, trivial⟩ rfl rfl⟩
  ·
    exact ⟨false, quiet_of' (op_KN_0 K A B k n C) ⟨e k0, e k1, e k2, e k3, e k4, e k5, trivial⟩ rfl rfl, quiet_of' (rp_KN_0 K A B k n C) ⟨e k0, e k1, e k2, e k3, e k4, e k5, trivial⟩ rfl rfl⟩

end Go.Proofs.Ytpmdpbljgidllaa
