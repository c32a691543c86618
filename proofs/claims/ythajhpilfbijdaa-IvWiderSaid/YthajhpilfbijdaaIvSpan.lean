/- From the least to the greatest of four; product and quotient of two from-tos. -/
import Derived.Test.YthajhpilfbijdaaStep
import Derived.Test.YthajhpilfbijdaaIvOps
namespace Go.Proofs.Ythajhpilfbijdaa
open Go
set_option linter.unusedVariables false
set_option maxRecDepth 100000

def sel (c : Bool) (x y : Nat) : Nat := bif c then x else y

def spanS (u v : Nat) (c1 d1 c2 d2 c3 d3 : Bool) : List Ans := [yes false, yes false, yes false, yes false, yes c1, yes d1, yes false, yes c2, yes d2, yes false, yes c3, yes d3, isF u, isF v, yes true]
def spanL (a b c d u v : Nat) (c1 d1 c2 d2 c3 d3 : Bool) : List Obl := [cmpO .neq a a false, cmpO .lss a a false, cmpO .gtr a a false, cmpO .neq b b false, cmpO .lss b a c1, cmpO .gtr b a d1, cmpO .neq c c false, cmpO .lss c (sel c1 b a) c2, cmpO .gtr c (sel d1 b a) d2, cmpO .neq d d false, cmpO .lss d (sel c2 c (sel c1 b a)) c3, cmpO .gtr d (sel d2 c (sel d1 b a)) d3,
      downO (sel c3 d (sel c2 c (sel c1 b a))) u, upO (sel d3 d (sel d2 c (sel d1 b a))) v, cmpO .leq u v true]

theorem span_came (a b c d u v : Nat) (c1 d1 c2 d2 c3 d3 : Bool) :
    (askN askI fltC 12 51 #[.agg #[.float .f64 a, .float .f64 b, .float .f64 c, .float .f64 d]] #[] (spanS u v c1 d1 c2 d2 c3 d3)).map (fun r => (r.1, r.2.2)) = some (ivV u v, spanL a b c d u v c1 d1 c2 d2 c3 d3) := by
  cases c1 <;> cases d1 <;> cases c2 <;> cases d2 <;> cases c3 <;> cases d3 <;> kernel_rfl

theorem span_bits (a b c d u v : Nat) (c1 d1 c2 d2 c3 d3 : Bool) (na : fcmp .neq .f64 a a = some false) (nb : fcmp .neq .f64 b b = some false) (nc : fcmp .neq .f64 c c = some false) (nd : fcmp .neq .f64 d d = some false)
    (l0 : fcmp .lss .f64 a a = some false) (g0 : fcmp .gtr .f64 a a = some false) (l1 : fcmp .lss .f64 b a = some c1) (g1 : fcmp .gtr .f64 b a = some d1)
    (l2 : fcmp .lss .f64 c (sel c1 b a) = some c2) (g2 : fcmp .gtr .f64 c (sel d1 b a) = some d2) (l3 : fcmp .lss .f64 d (sel c2 c (sel c1 b a)) = some c3) (g3 : fcmp .gtr .f64 d (sel d2 c (sel d1 b a)) = some d3)
    (hd : Runs Try.prog 67 #[.float .f64 (sel c3 d (sel c2 c (sel c1 b a)))] #[] (.float .f64 u) #[]) (hu : Runs Try.prog 68 #[.float .f64 (sel d3 d (sel d2 c (sel d1 b a)))] #[] (.float .f64 v) #[])
    (hle : fcmp .leq .f64 u v = some true) : Runs Try.prog 51 #[.agg #[.float .f64 a, .float .f64 b, .float .f64 c, .float .f64 d]] #[] (ivV u v) #[] :=
  quiet_of (span_came a b c d u v c1 d1 c2 d2 c3 d3)
    ⟨(fc _ rfl _ _).trans na, (fc _ rfl _ _).trans l0, (fc _ rfl _ _).trans g0, (fc _ rfl _ _).trans nb, (fc _ rfl _ _).trans l1, (fc _ rfl _ _).trans g1, (fc _ rfl _ _).trans nc, (fc _ rfl _ _).trans l2, (fc _ rfl _ _).trans g2, (fc _ rfl _ _).trans nd, (fc _ rfl _ _).trans l3, (fc _ rfl _ _).trans g3, hd, hu, (fc _ rfl _ _).trans hle, trivial⟩ rfl rfl

theorem sel_lo {c : Bool} {x y : Nat} (hx : NN x) (hy : NN y) (h : c = decide (ix x < ix y)) : NN (sel c x y) ∧ ix (sel c x y) ≤ ix x ∧ ix (sel c x y) ≤ ix y ∧ (sel c x y = x ∨ sel c x y = y) := by
  subst h
  by_cases h : ix x < ix y
  · rw [decide_eq_true h]; exact ⟨hx, Int.le_refl _, Int.le_of_lt h, .inl rfl⟩
  · rw [decide_eq_false h]; exact ⟨hy, by show ix y ≤ ix x; omega, Int.le_refl _, .inr rfl⟩
theorem sel_hi {c : Bool} {x y : Nat} (hx : NN x) (hy : NN y) (h : c = decide (ix y < ix x)) : NN (sel c x y) ∧ ix x ≤ ix (sel c x y) ∧ ix y ≤ ix (sel c x y) ∧ (sel c x y = x ∨ sel c x y = y) := by
  subst h
  by_cases h : ix y < ix x
  · rw [decide_eq_true h]; exact ⟨hx, Int.le_refl _, Int.le_of_lt h, .inl rfl⟩
  · rw [decide_eq_false h]; exact ⟨hy, by show ix x ≤ ix y; omega, Int.le_refl _, .inr rfl⟩

theorem nn_self {x : Nat} (h : NN x) : fcmp .neq .f64 x x = some false ∧ fcmp .lss .f64 x x = some false ∧ fcmp .gtr .f64 x x = some false := by
  rw [neq_ix h h, lss_ix h h, gtr_ix h h]
  refine ⟨?_, ?_, ?_⟩
  · rw [decide_eq_false (by simp)]
  · rw [decide_eq_false (by omega)]
  · rw [decide_eq_false (by omega)]

theorem out_le {x y : Nat} (hx : NN x) (hy : NN y) (h : ix x ≤ ix y) : ix (dn x) ≤ ix (up y) := by
  rw [(dn_ix hx).2, (up_ix hy).2]
  have := hx.2; have := hy.2
  split <;> split <;> omega

/-- What the least and the greatest of four are. -/
structure Ends (a b c d lo hi : Nat) : Prop where
  nlo : NN lo
  nhi : NN hi
  lo_a : ix lo ≤ ix a
  lo_b : ix lo ≤ ix b
  lo_c : ix lo ≤ ix c
  lo_d : ix lo ≤ ix d
  hi_a : ix a ≤ ix hi
  hi_b : ix b ≤ ix hi
  hi_c : ix c ≤ ix hi
  hi_d : ix d ≤ ix hi
  lo_is : lo = a ∨ lo = b ∨ lo = c ∨ lo = d
  hi_is : hi = a ∨ hi = b ∨ hi = c ∨ hi = d

theorem span_runs {a b c d : Nat} (ha : NN a) (hb : NN b) (hc : NN c) (hd : NN d) :
    ∃ lo hi, Ends a b c d lo hi ∧ Runs Try.prog 51 #[.agg #[.float .f64 a, .float .f64 b, .float .f64 c, .float .f64 d]] #[] (ivV (dn lo) (up hi)) #[] := by
  obtain ⟨s1, s2, s3, s4⟩ := sel_lo hb ha rfl
  obtain ⟨t1, t2, t3, t4⟩ := sel_lo hc s1 rfl
  obtain ⟨u1, u2, u3, u4⟩ := sel_lo hd t1 rfl
  obtain ⟨v1, v2, v3, v4⟩ := sel_hi hb ha rfl
  obtain ⟨w1, w2, w3, w4⟩ := sel_hi hc v1 rfl
  obtain ⟨x1, x2, x3, x4⟩ := sel_hi hd w1 rfl
  refine ⟨_, _, ⟨u1, x1, by omega, by omega, by omega, by omega, by omega, by omega, by omega, by omega, ?_, ?_⟩,
    span_bits a b c d _ _ _ _ _ _ _ _ (nn_self ha).1 (nn_self hb).1 (nn_self hc).1 (nn_self hd).1 (nn_self ha).2.1 (nn_self ha).2.2 (lss_ix hb ha) (gtr_ix hb ha) (lss_ix hc s1) (gtr_ix hc v1) (lss_ix hd t1) (gtr_ix hd w1) (down_runs u1) (up_runs x1)
      ((leq_ix (dn_ix u1).1 (up_ix x1).1).trans (congrArg some (decide_eq_true (out_le u1 x1 (by omega)))))⟩
  · rcases u4 with h | h
    · exact .inr (.inr (.inr h))
    · rw [h]; rcases t4 with h | h
      · exact .inr (.inr (.inl h))
      · rw [h]; rcases s4 with h | h
        · exact .inr (.inl h)
        · exact .inl h
  · rcases x4 with h | h
    · exact .inr (.inr (.inr h))
    · rw [h]; rcases w4 with h | h
      · exact .inr (.inr (.inl h))
      · rw [h]; rcases v4 with h | h
        · exact .inr (.inl h)
        · exact .inl h

noncomputable def askM (f : FuncId) : Nat := if f == 51 || f == 18 then 1 else if f == 56 || f == 53 then 0 else 2
def isV (v : Value) : Ans := ⟨fun _ => v, []⟩

theorem mul_runs {a b c e u v : Nat} (h : Runs Try.prog 51 #[.agg #[.float .f64 (fop .mul .f64 a c), .float .f64 (fop .mul .f64 a e), .float .f64 (fop .mul .f64 b c), .float .f64 (fop .mul .f64 b e)]] #[] (ivV u v) #[]) :
    Runs Try.prog 21 #[ivV a b, ivV c e] #[] (ivV u v) #[] :=
  quiet_of (ask := askM) (s := [isV (ivV u v)]) (l := [.run 51 #[.agg #[.float .f64 (fop .mul .f64 a c), .float .f64 (fop .mul .f64 a e), .float .f64 (fop .mul .f64 b c), .float .f64 (fop .mul .f64 b e)]] #[] (ivV u v) #[]]) (by kernel_rfl) ⟨h, trivial⟩ rfl rfl

theorem div_runs {a b c e u v : Nat} (hi : Runs Try.prog 18 #[.float .f64 0, ivV c e] #[] (.bool false) #[])
    (h : Runs Try.prog 51 #[.agg #[.float .f64 (fop .quo .f64 a c), .float .f64 (fop .quo .f64 a e), .float .f64 (fop .quo .f64 b c), .float .f64 (fop .quo .f64 b e)]] #[] (ivV u v) #[]) :
    Runs Try.prog 22 #[ivV a b, ivV c e] #[] (ivV u v) #[] :=
  quiet_of (ask := askM) (s := [yes false, isV (ivV u v)]) (l := [.run 18 #[.float .f64 0, ivV c e] #[] (.bool false) #[], .run 51 #[.agg #[.float .f64 (fop .quo .f64 a c), .float .f64 (fop .quo .f64 a e), .float .f64 (fop .quo .f64 b c), .float .f64 (fop .quo .f64 b e)]] #[] (ivV u v) #[]]) (by kernel_rfl) ⟨hi, h, trivial⟩ rfl rfl

def wholeV : Value := ivV 18442240474082181120 9218868437227405312
theorem div_zero {a b c e : Nat} (hi : Runs Try.prog 18 #[.float .f64 0, ivV c e] #[] (.bool true) #[]) : Runs Try.prog 22 #[ivV a b, ivV c e] #[] wholeV #[] :=
  quiet_of (ask := askM) (s := [yes true]) (l := [.run 18 #[.float .f64 0, ivV c e] #[] (.bool true) #[]]) (by kernel_rfl) ⟨hi, trivial⟩ rfl rfl

theorem in_yes {x a b : Nat} (hx : NN x) (ha : NN a) (hb : NN b) (h1 : ix a ≤ ix x) (h2 : ix x ≤ ix b) : Runs Try.prog 18 #[.float .f64 x, ivV a b] #[] (.bool true) #[] :=
  in_runs ((leq_ix ha hx).trans (congrArg some (decide_eq_true h1))) ((leq_ix hx hb).trans (congrArg some (decide_eq_true h2)))
theorem in_no {x a b : Nat} (hx : NN x) (ha : NN a) (hb : NN b) (h : ix x < ix a ∨ ix b < ix x) : Runs Try.prog 18 #[.float .f64 x, ivV a b] #[] (.bool false) #[] := by
  by_cases h1 : ix a ≤ ix x
  · exact quiet_of (ask := askI) (s := [yes true, yes false]) (l := [cmpO .leq a x true, cmpO .leq x b false]) (by kernel_rfl) ⟨(fc _ rfl _ _).trans ((leq_ix ha hx).trans (congrArg some (decide_eq_true h1))), (fc _ rfl _ _).trans ((leq_ix hx hb).trans (congrArg some (decide_eq_false (by omega)))), trivial⟩ rfl rfl
  · exact quiet_of (ask := askI) (s := [yes false]) (l := [cmpO .leq a x false]) (by kernel_rfl) ⟨(fc _ rfl _ _).trans ((leq_ix ha hx).trans (congrArg some (decide_eq_false h1))), trivial⟩ rfl rfl

theorem nn_zero : NN 0 ∧ ix 0 = 0 := ⟨⟨by decide, by decide, by decide⟩, by decide⟩

/-- The sum and the difference of two. -/
theorem add_at {a b c e : Nat} (h1 : NN (fop .add .f64 a c)) (h2 : NN (fop .add .f64 b e)) (h : ix (fop .add .f64 a c) ≤ ix (fop .add .f64 b e)) :
    Runs Try.prog 19 #[ivV a b, ivV c e] #[] (ivV (dn (fop .add .f64 a c)) (up (fop .add .f64 b e))) #[] :=
  add_runs (down_runs h1) (up_runs h2) ((leq_ix (dn_ix h1).1 (up_ix h2).1).trans (congrArg some (decide_eq_true (out_le h1 h2 h))))
theorem sub_at {a b c e : Nat} (h1 : NN (fop .sub .f64 a e)) (h2 : NN (fop .sub .f64 b c)) (h : ix (fop .sub .f64 a e) ≤ ix (fop .sub .f64 b c)) :
    Runs Try.prog 20 #[ivV a b, ivV c e] #[] (ivV (dn (fop .sub .f64 a e)) (up (fop .sub .f64 b c))) #[] :=
  sub_runs (down_runs h1) (up_runs h2) ((leq_ix (dn_ix h1).1 (up_ix h2).1).trans (congrArg some (decide_eq_true (out_le h1 h2 h))))

end Go.Proofs.Ythajhpilfbijdaa
