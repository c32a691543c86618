/- What the other functions of from-tos return, of any ends that are no NaN; and the laws' questions in short. -/
import Derived.Test.YtpmdpbljgidllaaIvCore
import Derived.Test.YtpmdpbljgidllaaNum
namespace Go.Proofs.Ytpmdpbljgidllaa
open Go
set_option linter.unusedVariables false
set_option linter.unusedSimpArgs false
set_option maxRecDepth 100000



def eqC : BinOp → Value → Value → Bool
  | _, .float _ _, _ => true
  | _, .agg _, _ => true
  | _, _, _ => false

noncomputable def mkO (m k w : Int) (a b : Nat) : Obl := .run 36 #[.int .i64 m, .int .i64 k, .int .i64 w] #[] (fl2 a b) #[]
noncomputable def opO (f : FuncId) (a b c d p q : Nat) : Obl := .run f #[fl2 a b, fl2 c d] #[] (fl2 p q) #[]
noncomputable def inX (x a b : Nat) (t : Bool) : Obl := .run 80 #[.float .f64 x, fl2 a b] #[] (.bool t) #[]
noncomputable def riO (a b : Nat) (t : Bool) : Obl := .run 100 #[fl2 a b] #[] (.bool t) #[]
noncomputable def imO (x y a b : Nat) : Obl := .run 92 #[.float .f64 x, .float .f64 y] #[] (fl2 a b) #[]
noncomputable def eqO (a b c d : Nat) (t : Bool) : Obl := .bin binIv .eql 39 (fl2 a b) (fl2 c d) t

theorem floatEq_ix {a c : Nat} (ha : NN a) (hc : NN c) : Op.floatEq .f64 a c = decide (ix a = ix c) := by
  have := eql_ix ha hc
  simp only [fcmp] at this
  injection this
theorem eq_at {a b c d : Nat} {t : Bool} (ha : NN a) (hb : NN b) (hc : NN c) (hd : NN d) (ht : t = decide (ix a = ix c ∧ ix b = ix d)) : (eqO a b c d t).ok Try.prog := by
  show binIv .eql 39 (fl2 a b) (fl2 c d) = some (.bool t)
  have e : binIv .eql 39 (fl2 a b) (fl2 c d) = some (.bool (Op.floatEq .f64 a c && Op.floatEq .f64 b d)) := rfl
  rw [e, floatEq_ix ha hc, floatEq_ix hb hd, ht]
  by_cases h1 : ix a = ix c <;> by_cases h2 : ix b = ix d <;> simp [h1, h2]

theorem right_at {a b : Nat} {t : Bool} (h : fcmp .leq .f64 a b = some t) : Runs Try.prog 100 #[fl2 a b] #[] (.bool t) #[] :=
  quiet_of' (ask := noF) (askC := fltC) (s := [yes t]) (l := [cmpF .leq a b t]) (by kernel_rfl) ⟨(fc _ rfl _ _).trans h, trivial⟩ rfl rfl
theorem imake_at {a b : Nat} (h : fcmp .leq .f64 a b = some true) : Runs Try.prog 92 #[.float .f64 a, .float .f64 b] #[] (fl2 a b) #[] :=
  quiet_of' (ask := fun _ => 2) (askC := fltC) (s := [yes true]) (l := [cmpF .leq a b true]) (by kernel_rfl) ⟨(fc _ rfl _ _).trans h, trivial⟩ rfl rfl
/-- The size: the greater of the two ends' sizes. -/

theorem read_mod (x : Nat) : Ieee.double.read x = Ieee.double.read (x % 18446744073709551616) := by
  unfold Ieee.Format.read
  simp only [d_sign, d_binade, d_inf, d_least]
  have e1 : x % 18446744073709551616 % 9223372036854775808 = x % 9223372036854775808 := by omega
  have e2 : x % 18446744073709551616 / 9223372036854775808 % 2 = x / 9223372036854775808 % 2 := by omega
  rw [e1, e2]
theorem fcmp_mod (op : BinOp) (x y : Nat) : fcmp op .f64 x y = fcmp op .f64 (x % 18446744073709551616) (y % 18446744073709551616) := by
  have : FloatKind.f64.format.order x y = FloatKind.f64.format.order (x % 18446744073709551616) (y % 18446744073709551616) := by
    show (Ieee.double.read x).order (Ieee.double.read y) = (Ieee.double.read _).order (Ieee.double.read _)
    rw [← read_mod, ← read_mod]
  simp only [fcmp, this]
theorem nan_read {x : Nat} (hx : x < 18446744073709551616) (h : ¬ NN x) : ∃ s f, Ieee.double.read x = .nan s f := by
  unfold NN at h
  unfold Ieee.Format.read
  simp only [d_sign, d_binade, d_inf, d_least]
  by_cases c : x < 9223372036854775808
  · rw [ix_pos c] at h
    rw [if_neg (by omega), if_neg (by omega), if_neg (by omega)]
    exact ⟨_, _, rfl⟩
  · rw [ix_neg c] at h
    rw [if_neg (by omega), if_neg (by omega), if_neg (by omega)]
    exact ⟨_, _, rfl⟩
/-- Whether any number, or none, is within. -/
theorem in_any (x : Nat) {a b : Nat} (ha : NN a) (hb : NN b) : ∃ t, Runs Try.prog 80 #[.float .f64 x, fl2 a b] #[] (.bool t) #[] ∧
    (t = true → NN (x % 18446744073709551616) ∧ ix a ≤ ix (x % 18446744073709551616) ∧ ix (x % 18446744073709551616) ≤ ix b) := by
  have ma : a % 18446744073709551616 = a := Nat.mod_eq_of_lt ha.1
  have mb : b % 18446744073709551616 = b := Nat.mod_eq_of_lt hb.1
  have l1 : fcmp .leq .f64 a x = fcmp .leq .f64 a (x % 18446744073709551616) := by rw [fcmp_mod, ma]
  have l2 : fcmp .leq .f64 x b = fcmp .leq .f64 (x % 18446744073709551616) b := by rw [fcmp_mod, mb]
  by_cases hx : NN (x % 18446744073709551616)
  · rw [leq_ix ha hx] at l1
    rw [leq_ix hx hb] at l2
    by_cases h1 : ix a ≤ ix (x % 18446744073709551616)
    · by_cases h2 : ix (x % 18446744073709551616) ≤ ix b
      · exact ⟨true, in_runs (l1.trans (congrArg some (decide_eq_true h1))) (l2.trans (congrArg some (decide_eq_true h2))), fun _ => ⟨hx, h1, h2⟩⟩
      · exact ⟨false, quiet_of' (ask := noF) (askC := fltC) (s := [yes true, yes false]) (l := [cmpF .leq a x true, cmpF .leq x b false]) (by kernel_rfl) ⟨(fc _ rfl _ _).trans (l1.trans (congrArg some (decide_eq_true h1))), (fc _ rfl _ _).trans (l2.trans (congrArg some (decide_eq_false h2))), trivial⟩ rfl rfl, fun h => by cases h⟩
    · exact ⟨false, quiet_of' (ask := noF) (askC := fltC) (s := [yes false]) (l := [cmpF .leq a x false]) (by kernel_rfl) ⟨(fc _ rfl _ _).trans (l1.trans (congrArg some (decide_eq_false h1))), trivial⟩ rfl rfl, fun h => by cases h⟩
  · obtain ⟨s, f, hr⟩ := nan_read (Nat.mod_lt _ (by decide)) hx
    have : fcmp .leq .f64 a (x % 18446744073709551616) = some false := by
      have ho : FloatKind.f64.format.order a (x % 18446744073709551616) = none := by
        show (Ieee.double.read a).order (Ieee.double.read _) = none
        rw [hr]
        cases Ieee.double.read a <;> rfl
      simp only [fcmp, ho]
      rfl
    exact ⟨false, quiet_of' (ask := noF) (askC := fltC) (s := [yes false]) (l := [cmpF .leq a x false]) (by kernel_rfl) ⟨(fc _ rfl _ _).trans (l1.trans this), trivial⟩ rfl rfl, fun h => by cases h⟩
/-- What is within one that is within another. -/
theorem in_of {x a b : Nat} (ha : NN a) (hb : NN b) (hx : NN (x % 18446744073709551616)) (h1 : ix a ≤ ix (x % 18446744073709551616)) (h2 : ix (x % 18446744073709551616) ≤ ix b) : Runs Try.prog 80 #[.float .f64 x, fl2 a b] #[] (.bool true) #[] := by
  have ma : a % 18446744073709551616 = a := Nat.mod_eq_of_lt ha.1
  have mb : b % 18446744073709551616 = b := Nat.mod_eq_of_lt hb.1
  have l1 : fcmp .leq .f64 a x = fcmp .leq .f64 a (x % 18446744073709551616) := by rw [fcmp_mod, ma]
  have l2 : fcmp .leq .f64 x b = fcmp .leq .f64 (x % 18446744073709551616) b := by rw [fcmp_mod, mb]
  rw [leq_ix ha hx] at l1
  rw [leq_ix hx hb] at l2
  exact in_runs (l1.trans (congrArg some (decide_eq_true h1))) (l2.trans (congrArg some (decide_eq_true h2)))

end Go.Proofs.Ytpmdpbljgidllaa
