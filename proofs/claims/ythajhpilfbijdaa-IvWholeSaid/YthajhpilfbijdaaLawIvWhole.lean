/- The law IvWhole returns true, whatever it is handed. -/
import Derived.Test.YthajhpilfbijdaaIvInf
namespace Go.Proofs.Ythajhpilfbijdaa
open Go
set_option linter.unusedVariables false
set_option linter.unusedSimpArgs false
set_option maxRecDepth 100000

noncomputable def wholeL (m k w : Int) (a b : Nat) (l : List Obl) : List Obl :=
  [knO, mkO m k w a b, opO 19 a b ninf pinf ninf pinf, eqO ninf pinf ninf pinf true, opO 20 ninf pinf a b ninf pinf, eqO ninf pinf ninf pinf true, opO 21 ninf pinf ninf pinf ninf pinf, eqO ninf pinf ninf pinf true,
   opO 32 a b ninf pinf ninf pinf, eqO ninf pinf ninf pinf true, opO 22 ninf pinf ninf pinf ninf pinf, eqO ninf pinf ninf pinf true, wiO a b ninf pinf true] ++ l
noncomputable def wholeR (m k w : Int) (a b : Nat) (s : List Ans) : Option (Value × List Obl) :=
  (askN askV1 eqC 12 15 #[.int .i64 m, .int .i64 k, .int .i64 w] #[] ([yes true, isV (fl2 a b), isV (fl2 ninf pinf), yes true, isV (fl2 ninf pinf), yes true, isV (fl2 ninf pinf), yes true, isV (fl2 ninf pinf), yes true, isV (fl2 ninf pinf), yes true, yes true] ++ s)).map (fun r => (r.1, r.2.2))
theorem whole0 (m k w : Int) (a b : Nat) : wholeR m k w a b [yes true, yes true] = some (.bool true, wholeL m k w a b [cmpF .leq a 0 true, cmpF .leq 0 b true]) := by kernel_rfl
theorem whole1 (m k w : Int) (a b : Nat) : wholeR m k w a b [yes true, yes false, isV (fl2 ninf pinf), yes true, isV (fl2 ninf pinf), yes true] =
    some (.bool true, wholeL m k w a b [cmpF .leq a 0 true, cmpF .leq 0 b false, opO 22 ninf pinf a b ninf pinf, eqO ninf pinf ninf pinf true, opO 21 ninf pinf a b ninf pinf, eqO ninf pinf ninf pinf true]) := by kernel_rfl
theorem whole2 (m k w : Int) (a b : Nat) : wholeR m k w a b [yes false, isV (fl2 ninf pinf), yes true, isV (fl2 ninf pinf), yes true] =
    some (.bool true, wholeL m k w a b [cmpF .leq a 0 false, opO 22 ninf pinf a b ninf pinf, eqO ninf pinf ninf pinf true, opO 21 ninf pinf a b ninf pinf, eqO ninf pinf ninf pinf true]) := by kernel_rfl

/-- Where the four are infinities of both kinds. -/
theorem ends_inf {a b c d lo hi : Nat} (he : Ends a b c d lo hi) (h1 : a = ninf ∨ b = ninf ∨ c = ninf ∨ d = ninf) (h2 : a = pinf ∨ b = pinf ∨ c = pinf ∨ d = pinf) : dn lo = ninf ∧ up hi = pinf := by
  have l := he.nlo.2
  have u := he.nhi.2
  have e1 : ix ninf = -9218868437227405312 := ninf_nn.2
  have e2 : ix pinf = 9218868437227405312 := pinf_nn.2
  have i1 : ix lo = -9218868437227405312 := by
    rcases h1 with h | h | h | h
    · have := he.lo_a; rw [h, e1] at this; omega
    · have := he.lo_b; rw [h, e1] at this; omega
    · have := he.lo_c; rw [h, e1] at this; omega
    · have := he.lo_d; rw [h, e1] at this; omega
  have i2 : ix hi = 9218868437227405312 := by
    rcases h2 with h | h | h | h
    · have := he.hi_a; rw [h, e2] at this; omega
    · have := he.hi_b; rw [h, e2] at this; omega
    · have := he.hi_c; rw [h, e2] at this; omega
    · have := he.hi_d; rw [h, e2] at this; omega
  have w1 : lo = ninf := by
    rcases nn_cases he.nlo with h | h | h
    · have := h.2.1; omega
    · rw [h, e2] at i1; omega
    · exact h
  have w2 : hi = pinf := by
    rcases nn_cases he.nhi with h | h | h
    · have := h.2.2; omega
    · exact h
    · rw [h, e1] at i2; omega
  rw [w1, w2]
  exact ⟨dn_ninf, up_pinf⟩

theorem inf_ops {a b : Nat} (fa : Fi a) (fb : Fi b) (hab : ix a ≤ ix b) (h : 0 < ix a ∨ ix b < 0) :
    Runs Try.prog 22 #[fl2 ninf pinf, fl2 a b] #[] (fl2 ninf pinf) #[] ∧ Runs Try.prog 21 #[fl2 ninf pinf, fl2 a b] #[] (fl2 ninf pinf) #[] := by
  have m := fun (s : Bool) {x : Nat} (hx : Fi x) (h0 : ix x ≠ 0) => mul_inf s hx h0
  have q := fun (s : Bool) {x : Nat} (hx : Fi x) (h0 : ix x ≠ 0) => quo_inf s hx h0
  have ea : ix a ≠ 0 := by omega
  have eb : ix b ≠ 0 := by omega
  have mn : ∀ {x : Nat}, Fi x → ix x ≠ 0 → fop .mul .f64 ninf x = infW (true ^^ decide (ix x < 0)) ∧ fop .mul .f64 pinf x = infW (false ^^ decide (ix x < 0)) := fun hx h0 => ⟨m true hx h0, m false hx h0⟩
  have qn : ∀ {x : Nat}, Fi x → ix x ≠ 0 → fop .quo .f64 ninf x = infW (true ^^ decide (ix x < 0)) ∧ fop .quo .f64 pinf x = infW (false ^^ decide (ix x < 0)) := fun hx h0 => ⟨q true hx h0, q false hx h0⟩
  obtain ⟨m1, m2⟩ := mn fa ea
  obtain ⟨m3, m4⟩ := mn fb eb
  obtain ⟨q1, q2⟩ := qn fa ea
  obtain ⟨q3, q4⟩ := qn fb eb
  have hin : Runs Try.prog 18 #[.float .f64 0, ivV a b] #[] (.bool false) #[] := in_no nn_zero.1 fa.nn fb.nn (by rw [nn_zero.2]; exact h)
  constructor
  · obtain ⟨lo, hi, he, hr⟩ := span_runs (a := fop .quo .f64 ninf a) (b := fop .quo .f64 ninf b) (c := fop .quo .f64 pinf a) (d := fop .quo .f64 pinf b) (by rw [q1]; exact infW_nn _) (by rw [q3]; exact infW_nn _) (by rw [q2]; exact infW_nn _) (by rw [q4]; exact infW_nn _)
    obtain ⟨e1, e2⟩ : dn lo = ninf ∧ up hi = pinf := by
      refine ends_inf he ?_ ?_
      · rw [q1, q2]; cases decide (ix a < 0)
        · exact .inl rfl
        · exact .inr (.inr (.inl rfl))
      · rw [q1, q2]; cases decide (ix a < 0)
        · exact .inr (.inr (.inl rfl))
        · exact .inl rfl
    rw [e1, e2] at hr
    exact div_runs hin hr
  · obtain ⟨lo, hi, he, hr⟩ := span_runs (a := fop .mul .f64 ninf a) (b := fop .mul .f64 ninf b) (c := fop .mul .f64 pinf a) (d := fop .mul .f64 pinf b) (by rw [m1]; exact infW_nn _) (by rw [m3]; exact infW_nn _) (by rw [m2]; exact infW_nn _) (by rw [m4]; exact infW_nn _)
    obtain ⟨e1, e2⟩ : dn lo = ninf ∧ up hi = pinf := by
      refine ends_inf he ?_ ?_
      · rw [m1, m2]; cases decide (ix a < 0)
        · exact .inl rfl
        · exact .inr (.inr (.inl rfl))
      · rw [m1, m2]; cases decide (ix a < 0)
        · exact .inr (.inr (.inl rfl))
        · exact .inl rfl
    rw [e1, e2] at hr
    exact mul_runs hr

theorem ivWhole_tells (m k w : Int) : Tells 15 #[.int .i64 m, .int .i64 k, .int .i64 w] #[] (.bool true) := by
  obtain ⟨a, b, r1, ba, bb, hab⟩ := make_runs m k w
  have fa := ba.fi (by decide)
  have fb := bb.fi (by decide)
  have en := eq_at ninf_nn.1 pinf_nn.1 ninf_nn.1 pinf_nn.1 (t := true) (decide_eq_true ⟨rfl, rfl⟩).symm
  have hadd : Runs Try.prog 19 #[fl2 a b, fl2 ninf pinf] #[] (fl2 ninf pinf) #[] := by
    have e1 : fop .add .f64 a ninf = ninf := add_inf_r true fa
    have e2 : fop .add .f64 b pinf = pinf := add_inf_r false fb
    have := add_at (a := a) (b := b) (c := ninf) (e := pinf) (by rw [e1]; exact ninf_nn.1) (by rw [e2]; exact pinf_nn.1) (by rw [e1, e2]; decide)
    rw [e1, e2, dn_ninf, up_pinf] at this
    exact this
  have hsub : Runs Try.prog 20 #[fl2 ninf pinf, fl2 a b] #[] (fl2 ninf pinf) #[] := by
    have e1 : fop .sub .f64 ninf b = ninf := sub_inf_l true fb
    have e2 : fop .sub .f64 pinf a = pinf := sub_inf_l false fa
    have := sub_at (a := ninf) (b := pinf) (c := a) (e := b) (by rw [e1]; exact ninf_nn.1) (by rw [e2]; exact pinf_nn.1) (by rw [e1, e2]; decide)
    rw [e1, e2, dn_ninf, up_pinf] at this
    exact this
  have hmul : Runs Try.prog 21 #[fl2 ninf pinf, fl2 ninf pinf] #[] (fl2 ninf pinf) #[] := by
    have h : (callD 12 21 #[fl2 ninf pinf, fl2 ninf pinf] #[]).map (·.1) = some (fl2 ninf pinf) := by kernel_rfl
    simp only [Option.map_eq_some_iff] at h
    obtain ⟨⟨v, H'⟩, h1, h2⟩ := h
    simp only at h2
    subst h2
    exact (callD_runs h1).quiet rfl rfl #[]
  have hdiv : Runs Try.prog 22 #[fl2 ninf pinf, fl2 ninf pinf] #[] (fl2 ninf pinf) #[] := div_zero (in_yes nn_zero.1 ninf_nn.1 pinf_nn.1 (by decide) (by decide))
  have hjoin : Runs Try.prog 32 #[fl2 a b, fl2 ninf pinf] #[] (fl2 ninf pinf) #[] := by
    have := join_at fa.nn fb.nn ninf_nn.1 pinf_nn.1
    rw [decide_eq_true (by rw [ninf_nn.2]; exact fa.2.1), decide_eq_true (by rw [pinf_nn.2]; exact fb.2.2)] at this
    exact this
  have hwi : Runs Try.prog 35 #[fl2 a b, fl2 ninf pinf] #[] (.bool true) #[] := within_at fa.nn fb.nn ninf_nn.1 pinf_nn.1 (decide_eq_true ⟨by rw [ninf_nn.2]; exact Int.le_of_lt fa.2.1, by rw [pinf_nn.2]; exact Int.le_of_lt fb.2.2⟩).symm
  have first : okAll Try.prog [knO, mkO m k w a b, opO 19 a b ninf pinf ninf pinf, eqO ninf pinf ninf pinf true, opO 20 ninf pinf a b ninf pinf, eqO ninf pinf ninf pinf true, opO 21 ninf pinf ninf pinf ninf pinf, eqO ninf pinf ninf pinf true,
      opO 32 a b ninf pinf ninf pinf, eqO ninf pinf ninf pinf true, opO 22 ninf pinf ninf pinf ninf pinf, eqO ninf pinf ninf pinf true, wiO a b ninf pinf true] :=
    ⟨known_runs, r1, hadd, en, hsub, en, hmul, en, hjoin, en, hdiv, en, hwi, trivial⟩
  have q1 : fcmp .leq .f64 a 0 = some (decide (ix a ≤ 0)) := by have := leq_ix fa.nn nn_zero.1; rw [nn_zero.2] at this; exact this
  have q2 : fcmp .leq .f64 0 b = some (decide (0 ≤ ix b)) := by have := leq_ix nn_zero.1 fb.nn; rw [nn_zero.2] at this; exact this
  by_cases h1 : ix a ≤ 0
  · by_cases h2 : 0 ≤ ix b
    · exact tells_of (whole0 m k w a b) (okAll_append first ⟨(fc _ rfl _ _).trans (q1.trans (congrArg some (decide_eq_true h1))), (fc _ rfl _ _).trans (q2.trans (congrArg some (decide_eq_true h2))), trivial⟩)
    · obtain ⟨i1, i2⟩ := inf_ops fa fb hab (.inr (by omega))
      exact tells_of (whole1 m k w a b) (okAll_append first ⟨(fc _ rfl _ _).trans (q1.trans (congrArg some (decide_eq_true h1))), (fc _ rfl _ _).trans (q2.trans (congrArg some (decide_eq_false h2))), i1, en, i2, en, trivial⟩)
  · obtain ⟨i1, i2⟩ := inf_ops fa fb hab (.inl (by omega))
    exact tells_of (whole2 m k w a b) (okAll_append first ⟨(fc _ rfl _ _).trans (q1.trans (congrArg some (decide_eq_false h1))), i1, en, i2, en, trivial⟩)

end Go.Proofs.Ythajhpilfbijdaa
