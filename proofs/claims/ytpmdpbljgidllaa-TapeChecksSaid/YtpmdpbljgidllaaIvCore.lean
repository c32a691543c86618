/- IvAdd / IvOps / IvSpan / IvZ / IvCore: several texts in one. -/
import Derived.Test.YtpmdpbljgidllaaBound
/-!  Down and up of whole numbers; the sum of two from-tos of whole numbers. -/
namespace Go.Proofs.Ytpmdpbljgidllaa
open Go
set_option linter.unusedVariables false
set_option maxRecDepth 100000

theorem rung_big (r k : Nat) (hr : r = 9218868437227405311) (hk : k = 971) : rungK r = 9007199254740991 * (2 ^ 1074 * 2 ^ k) := by
  have q1 : r / 4503599627370496 - 1 = 1074 + k := by omega
  have q2 : 4503599627370496 + r % 4503599627370496 = 9007199254740991 := by omega
  have q3 : ¬ r < 4503599627370496 := by omega
  unfold rungK
  rw [if_neg q3, q1, q2, Nat.pow_add]

theorem rung_no {N P Q : Nat} (hn : N < 9007199254740992) (hP : 0 < P) (hQ : 2 ≤ Q) (h : N * P = 9007199254740991 * (P * Q)) : False := by
  have h5 : 9007199254740991 * P * 2 ≤ 9007199254740991 * P * Q := Nat.mul_le_mul_left _ hQ
  have h6 : N * P ≤ 9007199254740991 * P := Nat.mul_le_mul_right _ (by omega)
  have h7 : 0 < 9007199254740991 * P := Nat.mul_pos (by decide) hP
  rw [← Nat.mul_assoc] at h
  omega
theorem two_le (k : Nat) (hk : 1 ≤ k) : 2 ≤ 2 ^ k := by
  have := Nat.pow_le_pow_right (n := 2) (by decide) hk
  simpa using this

theorem rung_small {x : Nat} {n : Int} (hx : x < 18446744073709551616) (h : IsZ x n) (hn : n.natAbs < 9007199254740992) : x % 9223372036854775808 + 1 < 9218868437227405312 := by
  obtain ⟨hf, hk⟩ := h.key
  obtain ⟨s, r, hr, hw, hrx⟩ := fin_word hx hf
  rw [← hrx]
  rcases Nat.lt_or_ge (r + 1) 9218868437227405312 with hlt | hge
  · exact hlt
  · exfalso
    have hr2 : r = 9218868437227405311 := by omega
    have h2 := (key_word s hr).2
    rw [← hw, hk] at h2
    have h3 : n.natAbs * 2 ^ 1074 = rungK r := by
      have : (n * ((2 ^ 1074 : Nat) : Int)).natAbs = rungK r := by
        rw [h2]
        cases s <;> simp
      rw [Int.natAbs_mul, Int.natAbs_natCast] at this
      exact this
    have h4 := rung_big r 971 hr2 rfl
    exact rung_no hn (Nat.two_pow_pos 1074) (two_le 971 (by decide)) (h3.trans h4)

theorem down_z {x : Nat} {n : Int} (hx : x < 18446744073709551616) (h : IsZ x n) (hn : n.natAbs < 9007199254740992) : ∃ d, Runs Try.prog 93 #[.float .f64 x] #[] (.float .f64 d) #[] ∧ Fin d ∧ key d < key x := by
  by_cases h0 : key x = 0
  · obtain ⟨g1, g2⟩ := key_word true (r := 1) (by decide)
    have e : Ieee.double.word true 1 = 9223372036854775809 := by decide +kernel
    rw [e] at g1 g2
    have e1 : rungK 1 = 1 := rfl
    rw [e1] at g2
    exact ⟨_, down_zero h.key.1 h0, g1, by rw [g2, h0]; decide⟩
  · obtain ⟨d, _, h1, h2, h3⟩ := down_key hx h.key.1 h0 (rung_small hx h hn)
    exact ⟨d, h1, h2, h3⟩

theorem up_z {x : Nat} {n : Int} (hx : x < 18446744073709551616) (h : IsZ x n) (hn : n.natAbs < 9007199254740992) : ∃ d, Runs Try.prog 94 #[.float .f64 x] #[] (.float .f64 d) #[] ∧ Fin d ∧ key x < key d := by
  by_cases h0 : key x = 0
  · obtain ⟨g1, g2⟩ := key_word false (r := 1) (by decide)
    have e : Ieee.double.word false 1 = 1 := by decide +kernel
    rw [e] at g1 g2
    have e1 : rungK 1 = 1 := rfl
    rw [e1] at g2
    exact ⟨_, up_zero h.key.1 h0, g1, by rw [g2, h0]; decide⟩
  · obtain ⟨d, _, h1, h2, h3⟩ := up_key hx h.key.1 h0 (rung_small hx h hn)
    exact ⟨d, h1, h2, h3⟩

end Go.Proofs.Ytpmdpbljgidllaa

/-!  The sum and the difference of two from-tos, and whether a number is within, by what is told of the ends. -/
namespace Go.Proofs.Ytpmdpbljgidllaa
open Go
set_option linter.unusedVariables false
set_option maxRecDepth 100000

noncomputable def askI (f : FuncId) : Nat := if f == 93 || f == 94 then 1 else if f == 52 || f == 46 then 0 else 2
theorem quiet_of {ask : FuncId → Nat} {f : FuncId} {args : Array Value} {s : List Ans} {v : Value} {l : List Obl} (h : (askN ask fltC 12 f args #[] s).map (fun r => (r.1, r.2.2)) = some (v, l)) (hl : okAll Try.prog l) (ha : closA args = true) (hv : closN 4 v = true) : Runs Try.prog f args #[] v #[] := by
  obtain ⟨H', h⟩ := tells_of h hl
  exact h.quiet ha hv #[]
def isF (n : Nat) : Ans := ⟨fun _ => .float .f64 n, []⟩
def ivV (a b : Nat) : Value := .agg #[.float .f64 a, .float .f64 b]
def downO (x d : Nat) : Obl := .run 93 #[.float .f64 x] #[] (.float .f64 d) #[]
def upO (x d : Nat) : Obl := .run 94 #[.float .f64 x] #[] (.float .f64 d) #[]
def cmpO (op : BinOp) (x y : Nat) (c : Bool) : Obl := .cmp op 30 (.float .f64 x) (.float .f64 y) c

theorem add_runs {a b c e d u : Nat} (hd : Runs Try.prog 93 #[.float .f64 (fop .add .f64 a c)] #[] (.float .f64 d) #[]) (hu : Runs Try.prog 94 #[.float .f64 (fop .add .f64 b e)] #[] (.float .f64 u) #[])
    (hle : fcmp .leq .f64 d u = some true) : Runs Try.prog 60 #[ivV a b, ivV c e] #[] (ivV d u) #[] :=
  quiet_of (ask := askI) (s := [isF d, isF u, yes true]) (l := [downO (fop .add .f64 a c) d, upO (fop .add .f64 b e) u, cmpO .leq d u true]) (by kernel_rfl) ⟨hd, hu, (fc _ rfl _ _).trans hle, trivial⟩ rfl rfl

theorem sub_runs {a b c e d u : Nat} (hd : Runs Try.prog 93 #[.float .f64 (fop .sub .f64 a e)] #[] (.float .f64 d) #[]) (hu : Runs Try.prog 94 #[.float .f64 (fop .sub .f64 b c)] #[] (.float .f64 u) #[])
    (hle : fcmp .leq .f64 d u = some true) : Runs Try.prog 61 #[ivV a b, ivV c e] #[] (ivV d u) #[] :=
  quiet_of (ask := askI) (s := [isF d, isF u, yes true]) (l := [downO (fop .sub .f64 a e) d, upO (fop .sub .f64 b c) u, cmpO .leq d u true]) (by kernel_rfl) ⟨hd, hu, (fc _ rfl _ _).trans hle, trivial⟩ rfl rfl

theorem in_runs {x a b : Nat} (h1 : fcmp .leq .f64 a x = some true) (h2 : fcmp .leq .f64 x b = some true) : Runs Try.prog 80 #[.float .f64 x, ivV a b] #[] (.bool true) #[] :=
  quiet_of (ask := askI) (s := [yes true, yes true]) (l := [cmpO .leq a x true, cmpO .leq x b true]) (by kernel_rfl) ⟨(fc _ rfl _ _).trans h1, (fc _ rfl _ _).trans h2, trivial⟩ rfl rfl

theorem leq_key {x y : Nat} (hx : Fin x) (hy : Fin y) (h : key x ≤ key y) : fcmp .leq .f64 x y = some true := by
  have o : FloatKind.f64.format.order x y = some (compare (key x) (key y)) := order_key hx hy
  simp only [fcmp, o]
  simp only [compare, compareOfLessAndEq]
  by_cases hl : key x < key y
  · simp [hl]
  · have : key x = key y := by omega
    simp [this]

end Go.Proofs.Ytpmdpbljgidllaa

/-!  From the least to the greatest of four; product and quotient of two from-tos. -/
namespace Go.Proofs.Ytpmdpbljgidllaa
open Go
set_option linter.unusedVariables false
set_option maxRecDepth 100000

def sel (c : Bool) (x y : Nat) : Nat := bif c then x else y

def spanS (u v : Nat) (c1 d1 c2 d2 c3 d3 : Bool) : List Ans := [yes false, yes false, yes false, yes false, yes c1, yes d1, yes false, yes c2, yes d2, yes false, yes c3, yes d3, isF u, isF v, yes true]
def spanL (a b c d u v : Nat) (c1 d1 c2 d2 c3 d3 : Bool) : List Obl := [cmpO .neq a a false, cmpO .lss a a false, cmpO .gtr a a false, cmpO .neq b b false, cmpO .lss b a c1, cmpO .gtr b a d1, cmpO .neq c c false, cmpO .lss c (sel c1 b a) c2, cmpO .gtr c (sel d1 b a) d2, cmpO .neq d d false, cmpO .lss d (sel c2 c (sel c1 b a)) c3, cmpO .gtr d (sel d2 c (sel d1 b a)) d3,
      downO (sel c3 d (sel c2 c (sel c1 b a))) u, upO (sel d3 d (sel d2 c (sel d1 b a))) v, cmpO .leq u v true]

theorem span_came (a b c d u v : Nat) (c1 d1 c2 d2 c3 d3 : Bool) :
    (askN askI fltC 12 79 #[.agg #[.float .f64 a, .float .f64 b, .float .f64 c, .float .f64 d]] #[] (spanS u v c1 d1 c2 d2 c3 d3)).map (fun r => (r.1, r.2.2)) = some (ivV u v, spanL a b c d u v c1 d1 c2 d2 c3 d3) := by
  cases c1 <;> cases d1 <;> cases c2 <;> cases d2 <;> cases c3 <;> cases d3 <;> kernel_rfl

theorem span_bits (a b c d u v : Nat) (c1 d1 c2 d2 c3 d3 : Bool) (na : fcmp .neq .f64 a a = some false) (nb : fcmp .neq .f64 b b = some false) (nc : fcmp .neq .f64 c c = some false) (nd : fcmp .neq .f64 d d = some false)
    (l0 : fcmp .lss .f64 a a = some false) (g0 : fcmp .gtr .f64 a a = some false) (l1 : fcmp .lss .f64 b a = some c1) (g1 : fcmp .gtr .f64 b a = some d1)
    (l2 : fcmp .lss .f64 c (sel c1 b a) = some c2) (g2 : fcmp .gtr .f64 c (sel d1 b a) = some d2) (l3 : fcmp .lss .f64 d (sel c2 c (sel c1 b a)) = some c3) (g3 : fcmp .gtr .f64 d (sel d2 c (sel d1 b a)) = some d3)
    (hd : Runs Try.prog 93 #[.float .f64 (sel c3 d (sel c2 c (sel c1 b a)))] #[] (.float .f64 u) #[]) (hu : Runs Try.prog 94 #[.float .f64 (sel d3 d (sel d2 c (sel d1 b a)))] #[] (.float .f64 v) #[])
    (hle : fcmp .leq .f64 u v = some true) : Runs Try.prog 79 #[.agg #[.float .f64 a, .float .f64 b, .float .f64 c, .float .f64 d]] #[] (ivV u v) #[] :=
  quiet_of (span_came a b c d u v c1 d1 c2 d2 c3 d3)
    ⟨(fc _ rfl _ _).trans na, (fc _ rfl _ _).trans l0, (fc _ rfl _ _).trans g0, (fc _ rfl _ _).trans nb, (fc _ rfl _ _).trans l1, (fc _ rfl _ _).trans g1, (fc _ rfl _ _).trans nc, (fc _ rfl _ _).trans l2, (fc _ rfl _ _).trans g2, (fc _ rfl _ _).trans nd, (fc _ rfl _ _).trans l3, (fc _ rfl _ _).trans g3, hd, hu, (fc _ rfl _ _).trans hle, trivial⟩ rfl rfl

theorem sel_lo {c : Bool} {x y : Nat} (hx : NN x) (hy : NN y) (h : c = decide (ix x < ix y)) : NN (sel c x y) ∧ ix (sel c x y) ≤ ix x ∧ ix (sel c x y) ≤ ix y ∧ (sel c x y = x ∨ sel c x y = y) := by
  subst h
  by_cases h : ix x < ix y
  · rw [decide_eq_true h]; exact ⟨hx, Int.le_refl _, Int.le_of_lt h, .inl rfl⟩
  · rw [decide_eq_false h]; exact ⟨hy, by show ix y ≤ ix x; omega, Int.le_refl _, .inr rfl⟩
theorem sel_hi {c : Bool} {x y : Nat} (hx : NN x) (hy : NN y) (h : c = decide (ix y < ix x)) : NN (sel c x y) ∧ ix x ≤ ix (sel c x y) ∧ ix y ≤ ix (sel c x y) ∧ (sel c x y = x ∨ sel c x y = y) := by
  subst h
  by_cases h : ix y < ix x
  · rw [decide_eq_true h]; exact ⟨hx, Int.le_refl _, Int.le_of_lt h, .inl rfl⟩
  · rw [decide_eq_false h]; exact ⟨hy, by show ix x ≤ ix y; omega, Int.le_refl _, .inr rfl⟩

theorem nn_self {x : Nat} (h : NN x) : fcmp .neq .f64 x x = some false ∧ fcmp .lss .f64 x x = some false ∧ fcmp .gtr .f64 x x = some false := by
  rw [neq_ix h h, lss_ix h h, gtr_ix h h]
  refine ⟨?_, ?_, ?_⟩
  · rw [decide_eq_false (by simp)]
  · rw [decide_eq_false (by omega)]
  · rw [decide_eq_false (by omega)]

theorem out_le {x y : Nat} (hx : NN x) (hy : NN y) (h : ix x ≤ ix y) : ix (dn x) ≤ ix (up y) := by
  rw [(dn_ix hx).2, (up_ix hy).2]
  have := hx.2; have := hy.2
  split <;> split <;> omega

/-- What the least and the greatest of four are. -/
structure Ends (a b c d lo hi : Nat) : Prop where
  nlo : NN lo
  nhi : NN hi
  lo_a : ix lo ≤ ix a
  lo_b : ix lo ≤ ix b
  lo_c : ix lo ≤ ix c
  lo_d : ix lo ≤ ix d
  hi_a : ix a ≤ ix hi
  hi_b : ix b ≤ ix hi
  hi_c : ix c ≤ ix hi
  hi_d : ix d ≤ ix hi
  lo_is : lo = a ∨ lo = b ∨ lo = c ∨ lo = d
  hi_is : hi = a ∨ hi = b ∨ hi = c ∨ hi = d

theorem span_runs {a b c d : Nat} (ha : NN a) (hb : NN b) (hc : NN c) (hd : NN d) :
    ∃ lo hi, Ends a b c d lo hi ∧ Runs Try.prog 79 #[.agg #[.float .f64 a, .float .f64 b, .float .f64 c, .float .f64 d]] #[] (ivV (dn lo) (up hi)) #[] := by
  obtain ⟨s1, s2, s3, s4⟩ := sel_lo hb ha rfl
  obtain ⟨t1, t2, t3, t4⟩ := sel_lo hc s1 rfl
  obtain ⟨u1, u2, u3, u4⟩ := sel_lo hd t1 rfl
  obtain ⟨v1, v2, v3, v4⟩ := sel_hi hb ha rfl
  obtain ⟨w1, w2, w3, w4⟩ := sel_hi hc v1 rfl
  obtain ⟨x1, x2, x3, x4⟩ := sel_hi hd w1 rfl
  refine ⟨_, _, ⟨u1, x1, by omega, by omega, by omega, by omega, by omega, by omega, by omega, by omega, ?_, ?_⟩,
    span_bits a b c d _ _ _ _ _ _ _ _ (nn_self ha).1 (nn_self hb).1 (nn_self hc).1 (nn_self hd).1 (nn_self ha).2.1 (nn_self ha).2.2 (lss_ix hb ha) (gtr_ix hb ha) (lss_ix hc s1) (gtr_ix hc v1) (lss_ix hd t1) (gtr_ix hd w1) (down_runs u1) (up_runs x1)
      ((leq_ix (dn_ix u1).1 (up_ix x1).1).trans (congrArg some (decide_eq_true (out_le u1 x1 (by omega)))))⟩
  · rcases u4 with h | h
    · exact .inr (.inr (.inr h))
    · rw [h]; rcases t4 with h | h
      · exact .inr (.inr (.inl h))
      · rw [h]; rcases s4 with h | h
        · exact .inr (.inl h)
        · exact .inl h
  · rcases x4 with h | h
    · exact .inr (.inr (.inr h))
    · rw [h]; rcases w4 with h | h
      · exact .inr (.inr (.inl h))
      · rw [h]; rcases v4 with h | h
        · exact .inr (.inl h)
        · exact .inl h

noncomputable def askM (f : FuncId) : Nat := if f == 79 || f == 80 then 1 else if f == 52 || f == 46 then 0 else 2
def isV (v : Value) : Ans := ⟨fun _ => v, []⟩

theorem mul_runs {a b c e u v : Nat} (h : Runs Try.prog 79 #[.agg #[.float .f64 (fop .mul .f64 a c), .float .f64 (fop .mul .f64 a e), .float .f64 (fop .mul .f64 b c), .float .f64 (fop .mul .f64 b e)]] #[] (ivV u v) #[]) :
    Runs Try.prog 62 #[ivV a b, ivV c e] #[] (ivV u v) #[] :=
  quiet_of (ask := askM) (s := [isV (ivV u v)]) (l := [.run 79 #[.agg #[.float .f64 (fop .mul .f64 a c), .float .f64 (fop .mul .f64 a e), .float .f64 (fop .mul .f64 b c), .float .f64 (fop .mul .f64 b e)]] #[] (ivV u v) #[]]) (by kernel_rfl) ⟨h, trivial⟩ rfl rfl

theorem div_runs {a b c e u v : Nat} (hi : Runs Try.prog 80 #[.float .f64 0, ivV c e] #[] (.bool false) #[])
    (h : Runs Try.prog 79 #[.agg #[.float .f64 (fop .quo .f64 a c), .float .f64 (fop .quo .f64 a e), .float .f64 (fop .quo .f64 b c), .float .f64 (fop .quo .f64 b e)]] #[] (ivV u v) #[]) :
    Runs Try.prog 63 #[ivV a b, ivV c e] #[] (ivV u v) #[] :=
  quiet_of (ask := askM) (s := [yes false, isV (ivV u v)]) (l := [.run 80 #[.float .f64 0, ivV c e] #[] (.bool false) #[], .run 79 #[.agg #[.float .f64 (fop .quo .f64 a c), .float .f64 (fop .quo .f64 a e), .float .f64 (fop .quo .f64 b c), .float .f64 (fop .quo .f64 b e)]] #[] (ivV u v) #[]]) (by kernel_rfl) ⟨hi, h, trivial⟩ rfl rfl

def wholeV : Value := ivV 18442240474082181120 9218868437227405312
theorem div_zero {a b c e : Nat} (hi : Runs Try.prog 80 #[.float .f64 0, ivV c e] #[] (.bool true) #[]) : Runs Try.prog 63 #[ivV a b, ivV c e] #[] wholeV #[] :=
  quiet_of (ask := askM) (s := [yes true]) (l := [.run 80 #[.float .f64 0, ivV c e] #[] (.bool true) #[]]) (by kernel_rfl) ⟨hi, trivial⟩ rfl rfl

theorem in_yes {x a b : Nat} (hx : NN x) (ha : NN a) (hb : NN b) (h1 : ix a ≤ ix x) (h2 : ix x ≤ ix b) : Runs Try.prog 80 #[.float .f64 x, ivV a b] #[] (.bool true) #[] :=
  in_runs ((leq_ix ha hx).trans (congrArg some (decide_eq_true h1))) ((leq_ix hx hb).trans (congrArg some (decide_eq_true h2)))
theorem in_no {x a b : Nat} (hx : NN x) (ha : NN a) (hb : NN b) (h : ix x < ix a ∨ ix b < ix x) : Runs Try.prog 80 #[.float .f64 x, ivV a b] #[] (.bool false) #[] := by
  by_cases h1 : ix a ≤ ix x
  · exact quiet_of (ask := askI) (s := [yes true, yes false]) (l := [cmpO .leq a x true, cmpO .leq x b false]) (by kernel_rfl) ⟨(fc _ rfl _ _).trans ((leq_ix ha hx).trans (congrArg some (decide_eq_true h1))), (fc _ rfl _ _).trans ((leq_ix hx hb).trans (congrArg some (decide_eq_false (by omega)))), trivial⟩ rfl rfl
  · exact quiet_of (ask := askI) (s := [yes false]) (l := [cmpO .leq a x false]) (by kernel_rfl) ⟨(fc _ rfl _ _).trans ((leq_ix ha hx).trans (congrArg some (decide_eq_false h1))), trivial⟩ rfl rfl

theorem nn_zero : NN 0 ∧ ix 0 = 0 := ⟨⟨by decide, by decide, by decide⟩, by decide⟩

/-- The sum and the difference of two. -/
theorem add_at {a b c e : Nat} (h1 : NN (fop .add .f64 a c)) (h2 : NN (fop .add .f64 b e)) (h : ix (fop .add .f64 a c) ≤ ix (fop .add .f64 b e)) :
    Runs Try.prog 60 #[ivV a b, ivV c e] #[] (ivV (dn (fop .add .f64 a c)) (up (fop .add .f64 b e))) #[] :=
  add_runs (down_runs h1) (up_runs h2) ((leq_ix (dn_ix h1).1 (up_ix h2).1).trans (congrArg some (decide_eq_true (out_le h1 h2 h))))
theorem sub_at {a b c e : Nat} (h1 : NN (fop .sub .f64 a e)) (h2 : NN (fop .sub .f64 b c)) (h : ix (fop .sub .f64 a e) ≤ ix (fop .sub .f64 b c)) :
    Runs Try.prog 61 #[ivV a b, ivV c e] #[] (ivV (dn (fop .sub .f64 a e)) (up (fop .sub .f64 b c))) #[] :=
  sub_runs (down_runs h1) (up_runs h2) ((leq_ix (dn_ix h1).1 (up_ix h2).1).trans (congrArg some (decide_eq_true (out_le h1 h2 h))))

end Go.Proofs.Ytpmdpbljgidllaa

/-!  From-tos of whole numbers: what their sums, differences, products and quotients hold. -/
namespace Go.Proofs.Ytpmdpbljgidllaa
open Go
set_option linter.unusedVariables false
set_option linter.unusedSimpArgs false
set_option maxRecDepth 100000

/-- The sum of two of whole numbers holds what is between. -/
theorem add_z {x v y w : Int} (hx : x.natAbs < 9007199254740992) (hv : v.natAbs < 9007199254740992) (hy : y.natAbs < 9007199254740992) (hw : w.natAbs < 9007199254740992) (h1 : x ≤ v) (h2 : y ≤ w) :
    ∃ A B, Runs Try.prog 60 #[ivV (F x) (F v), ivV (F y) (F w)] #[] (ivV A B) #[] ∧ ∀ n, x + y ≤ n → n ≤ v + w → Runs Try.prog 80 #[.float .f64 (F n), ivV A B] #[] (.bool true) #[] := by
  obtain ⟨a1, a2⟩ := F_add hx hy
  obtain ⟨b1, b2⟩ := F_add hv hw
  have hle := F_le (n := x + y) (m := v + w) (by omega)
  refine ⟨_, _, add_at a1 b1 (by omega), fun n h3 h4 => ?_⟩
  have l1 := F_le h3
  have l2 := F_le h4
  obtain ⟨d1, d2⟩ := dn_ix a1
  obtain ⟨u1, u2⟩ := up_ix b1
  have := (F_nn n).2
  refine in_yes (F_nn n) d1 u1 ?_ ?_
  · rw [d2]; split <;> omega
  · rw [u2]; split <;> omega
theorem sub_z {x v y w : Int} (hx : x.natAbs < 9007199254740992) (hv : v.natAbs < 9007199254740992) (hy : y.natAbs < 9007199254740992) (hw : w.natAbs < 9007199254740992) (h1 : x ≤ v) (h2 : y ≤ w) :
    ∃ A B, Runs Try.prog 61 #[ivV (F x) (F v), ivV (F y) (F w)] #[] (ivV A B) #[] ∧ ∀ n, x - w ≤ n → n ≤ v - y → Runs Try.prog 80 #[.float .f64 (F n), ivV A B] #[] (.bool true) #[] := by
  obtain ⟨a1, a2⟩ := F_sub hx hw
  obtain ⟨b1, b2⟩ := F_sub hv hy
  have hle := F_le (n := x - w) (m := v - y) (by omega)
  refine ⟨_, _, sub_at a1 b1 (by omega), fun n h3 h4 => ?_⟩
  have l1 := F_le h3
  have l2 := F_le h4
  obtain ⟨d1, d2⟩ := dn_ix a1
  obtain ⟨u1, u2⟩ := up_ix b1
  have := (F_nn n).2
  refine in_yes (F_nn n) d1 u1 ?_ ?_
  · rw [d2]; split <;> omega
  · rw [u2]; split <;> omega

/-- What a span holds. -/
theorem span_in {a b c d lo hi x : Nat} (he : Ends a b c d lo hi) (hx : NN x) (h1 : ix a ≤ ix x ∨ ix b ≤ ix x ∨ ix c ≤ ix x ∨ ix d ≤ ix x) (h2 : ix x ≤ ix a ∨ ix x ≤ ix b ∨ ix x ≤ ix c ∨ ix x ≤ ix d) :
    Runs Try.prog 80 #[.float .f64 x, ivV (dn lo) (up hi)] #[] (.bool true) #[] := by
  obtain ⟨d1, d2⟩ := dn_ix he.nlo
  obtain ⟨u1, u2⟩ := up_ix he.nhi
  have := hx.2
  have := he.lo_a; have := he.lo_b; have := he.lo_c; have := he.lo_d
  have := he.hi_a; have := he.hi_b; have := he.hi_c; have := he.hi_d
  refine in_yes hx d1 u1 ?_ ?_
  · rw [d2]; split <;> omega
  · rw [u2]; split <;> omega

/-- A product of two numbers is between two of the products of the ends. -/
theorem mul_ends {x v y w s t : Int} (h1 : x ≤ s) (h2 : s ≤ v) (h3 : y ≤ t) (h4 : t ≤ w) :
    (x * y ≤ s * t ∨ x * w ≤ s * t ∨ v * y ≤ s * t ∨ v * w ≤ s * t) ∧ (s * t ≤ x * y ∨ s * t ≤ x * w ∨ s * t ≤ v * y ∨ s * t ≤ v * w) := by
  -- first move s, then t
  have m : ∀ {a b c : Int}, a ≤ b → 0 ≤ c → a * c ≤ b * c := fun h hc => Int.mul_le_mul_of_nonneg_right h hc
  have n : ∀ {a b c : Int}, a ≤ b → c ≤ 0 → b * c ≤ a * c := fun h hc => Int.mul_le_mul_of_nonpos_right h hc
  have m' : ∀ {a b c : Int}, a ≤ b → 0 ≤ c → c * a ≤ c * b := fun h hc => Int.mul_le_mul_of_nonneg_left h hc
  have n' : ∀ {a b c : Int}, a ≤ b → c ≤ 0 → c * b ≤ c * a := fun h hc => Int.mul_le_mul_of_nonpos_left hc h
  rcases Int.le_total 0 t with ht | ht
  · have p1 := m h1 ht
    have p2 := m h2 ht
    refine ⟨?_, ?_⟩
    · rcases Int.le_total 0 x with hx | hx
      · have := m' h3 hx; omega
      · have := n' h4 hx; omega
    · rcases Int.le_total 0 v with hx | hx
      · have := m' h4 hx; omega
      · have := n' h3 hx; omega
  · have p1 := n h1 ht
    have p2 := n h2 ht
    refine ⟨?_, ?_⟩
    · rcases Int.le_total 0 v with hx | hx
      · have := m' h3 hx; omega
      · have := n' h4 hx; omega
    · rcases Int.le_total 0 x with hx | hx
      · have := m' h4 hx; omega
      · have := n' h3 hx; omega

theorem mul_z {x v y w : Int} (hx : x.natAbs < 9007199254740992) (hv : v.natAbs < 9007199254740992) (hy : y.natAbs < 9007199254740992) (hw : w.natAbs < 9007199254740992) :
    ∃ A B, Runs Try.prog 62 #[ivV (F x) (F v), ivV (F y) (F w)] #[] (ivV A B) #[] ∧ ∀ s t, x ≤ s → s ≤ v → y ≤ t → t ≤ w → Runs Try.prog 80 #[.float .f64 (F (s * t)), ivV A B] #[] (.bool true) #[] := by
  obtain ⟨a1, a2⟩ := F_mul hx hy
  obtain ⟨b1, b2⟩ := F_mul hx hw
  obtain ⟨c1, c2⟩ := F_mul hv hy
  obtain ⟨d1, d2⟩ := F_mul hv hw
  obtain ⟨lo, hi, he, hr⟩ := span_runs a1 b1 c1 d1
  refine ⟨_, _, mul_runs hr, fun s t h1 h2 h3 h4 => ?_⟩
  obtain ⟨m1, m2⟩ := mul_ends h1 h2 h3 h4
  refine span_in he (F_nn _) ?_ ?_
  · rw [a2, b2, c2, d2]
    rcases m1 with h | h | h | h <;> have := F_le h <;> omega
  · rw [a2, b2, c2, d2]
    rcases m2 with h | h | h | h <;> have := F_le h <;> omega

theorem div_z {x v t : Int} (hx : (x * t).natAbs < 9007199254740992) (hv : (v * t).natAbs < 9007199254740992) (ht : t.natAbs < 9007199254740992) (h0 : t ≠ 0) :
    ∃ A B, Runs Try.prog 63 #[ivV (F (x * t)) (F (v * t)), ivV (F t) (F t)] #[] (ivV A B) #[] ∧ ∀ s, (x ≤ s ∧ s ≤ v) ∨ (v ≤ s ∧ s ≤ x) → Runs Try.prog 80 #[.float .f64 (F s), ivV A B] #[] (.bool true) #[] := by
  obtain ⟨a1, a2⟩ := F_quo hx ht h0
  obtain ⟨b1, b2⟩ := F_quo hv ht h0
  obtain ⟨lo, hi, he, hr⟩ := span_runs a1 a1 b1 b1
  have hin : Runs Try.prog 80 #[.float .f64 0, ivV (F t) (F t)] #[] (.bool false) #[] := by
    refine in_no nn_zero.1 (F_nn _) (F_nn _) ?_
    rw [nn_zero.2]
    rcases Int.lt_or_lt_of_ne h0 with h | h
    · exact .inr (F_neg ht h)
    · exact .inl (F_pos ht h)
  refine ⟨_, _, div_runs hin hr, fun s h => ?_⟩
  refine span_in he (F_nn _) ?_ ?_
  · rw [a2, b2]
    rcases h with ⟨h1, h2⟩ | ⟨h1, h2⟩ <;> have := F_le h1 <;> omega
  · rw [a2, b2]
    rcases h with ⟨h1, h2⟩ | ⟨h1, h2⟩ <;> have := F_le h2 <;> omega

theorem cmp_eql (x y : Int) : cmpV Try.prog .eql 3 (.int .i64 x) (.int .i64 y) = some (decide (x = y)) := by kernel_rfl

def W (n : Int) : Int := IntKind.i64.wrap n
theorem W_id {x : Int} (h1 : -9223372036854775808 ≤ x) (h2 : x < 9223372036854775808) : W x = x := wrap_id h1 h2
noncomputable def ivO (f : FuncId) (a b c e A B : Nat) : Obl := .run f #[ivV a b, ivV c e] #[] (ivV A B) #[]
noncomputable def inO (n : Int) (A B : Nat) : Obl := .run 80 #[.float .f64 (F n), ivV A B] #[] (.bool true) #[]

theorem okAll_append {P : Program} : ∀ {l m : List Obl}, okAll P l → okAll P m → okAll P (l ++ m)
  | [], _, _, h => h
  | _ :: _, _, h, g => ⟨h.1, okAll_append h.2 g⟩

theorem small_mul {a b : Int} (ha : a.natAbs ≤ 2000) (hb : b.natAbs ≤ 2000) : (a * b).natAbs ≤ 4000000 := by
  rw [Int.natAbs_mul]
  exact Nat.mul_le_mul ha hb

end Go.Proofs.Ytpmdpbljgidllaa

/-!  Sums, differences, products, quotients of from-tos with finite ends. -/
namespace Go.Proofs.Ytpmdpbljgidllaa
open Go
set_option linter.unusedVariables false
set_option linter.unusedSimpArgs false
set_option maxRecDepth 100000

theorem Bd.dn {n x : Nat} (h : Bd n x) (hn : n < 2046) : Bd (n + 1) (dn x) ∧ ix (dn x) = ix x - 1 := by
  have h2 := h.2
  obtain ⟨d1, d2⟩ := dn_ix (h.fi (by omega)).nn
  rw [if_neg (by omega)] at d2
  exact ⟨⟨d1.1, by rw [d2, Nat.add_mul]; omega⟩, d2⟩
theorem Bd.up {n x : Nat} (h : Bd n x) (hn : n < 2046) : Bd (n + 1) (up x) ∧ ix (up x) = ix x + 1 := by
  have h2 := h.2
  obtain ⟨d1, d2⟩ := up_ix (h.fi (by omega)).nn
  rw [if_neg (by omega)] at d2
  exact ⟨⟨d1.1, by rw [d2, Nat.add_mul]; omega⟩, d2⟩

theorem dn_mono {x y : Nat} (hx : NN x) (hy : NN y) (h : ix x ≤ ix y) : ix (dn x) ≤ ix (dn y) := by
  rw [(dn_ix hx).2, (dn_ix hy).2]
  have := hx.2; have := hy.2
  split <;> split <;> omega
theorem up_mono {x y : Nat} (hx : NN x) (hy : NN y) (h : ix x ≤ ix y) : ix (up x) ≤ ix (up y) := by
  rw [(up_ix hx).2, (up_ix hy).2]
  have := hx.2; have := hy.2
  split <;> split <;> omega
theorem dn_le {x : Nat} (hx : NN x) : ix (dn x) ≤ ix x := by
  rw [(dn_ix hx).2]
  have := hx.2
  split <;> omega
theorem le_up {x : Nat} (hx : NN x) : ix x ≤ ix (up x) := by
  rw [(up_ix hx).2]
  have := hx.2
  split <;> omega

/-- Sums of what is in order are in order. -/
theorem add_mono {x y z w : Nat} (hx : Fi x) (hy : Fi y) (hz : Fi z) (hw : Fi w) (h1 : ix x ≤ ix z) (h2 : ix y ≤ ix w) : ix (fop .add .f64 x y) ≤ ix (fop .add .f64 z w) := by
  refine (add_rd hx hy).2.mono (by decide) (by decide) (add_rd hz hw).2 ?_
  have := rk_le h1
  have := rk_le h2
  unfold kv
  omega
theorem sub_mono {x y z w : Nat} (hx : Fi x) (hy : Fi y) (hz : Fi z) (hw : Fi w) (h1 : ix x ≤ ix z) (h2 : ix w ≤ ix y) : ix (fop .sub .f64 x y) ≤ ix (fop .sub .f64 z w) := by
  refine (sub_rd hx hy).2.mono (by decide) (by decide) (sub_rd hz hw).2 ?_
  have := rk_le h1
  have := rk_le h2
  unfold kv
  omega

/-- The sum and the difference of two that are right. -/
theorem add_fi {a b c d : Nat} (ha : Fi a) (hb : Fi b) (hc : Fi c) (hd : Fi d) (h1 : ix a ≤ ix b) (h2 : ix c ≤ ix d) :
    Runs Try.prog 60 #[fl2 a b, fl2 c d] #[] (fl2 (dn (fop .add .f64 a c)) (up (fop .add .f64 b d))) #[] :=
  add_at (add_rd ha hc).nn (add_rd hb hd).nn (add_mono ha hc hb hd h1 h2)
theorem sub_fi {a b c d : Nat} (ha : Fi a) (hb : Fi b) (hc : Fi c) (hd : Fi d) (h1 : ix a ≤ ix b) (h2 : ix c ≤ ix d) :
    Runs Try.prog 61 #[fl2 a b, fl2 c d] #[] (fl2 (dn (fop .sub .f64 a d)) (up (fop .sub .f64 b c))) #[] :=
  sub_at (sub_rd ha hd).nn (sub_rd hb hc).nn (sub_mono ha hd hb hc h1 h2)
/-- The product of two. -/
theorem mul_fi {a b c d : Nat} (ha : Fi a) (hb : Fi b) (hc : Fi c) (hd : Fi d) :
    ∃ lo hi, Ends (fop .mul .f64 a c) (fop .mul .f64 a d) (fop .mul .f64 b c) (fop .mul .f64 b d) lo hi ∧ Runs Try.prog 62 #[fl2 a b, fl2 c d] #[] (fl2 (dn lo) (up hi)) #[] := by
  obtain ⟨lo, hi, he, hr⟩ := span_runs (mul_rd ha hc).nn (mul_rd ha hd).nn (mul_rd hb hc).nn (mul_rd hb hd).nn
  exact ⟨lo, hi, he, mul_runs hr⟩

theorem nz {x : Nat} (h : ix x ≠ 0) : kv x ≠ 0 := fun h2 => h (rk_inj (h2.trans rk_zero.symm))
/-- The quotient of two, the second of which holds no nought. -/
theorem div_fi {a b c d : Nat} (ha : Fi a) (hb : Fi b) (hc : Fi c) (hd : Fi d) (h : 0 < ix c ∨ ix d < 0) (h2 : ix c ≤ ix d) :
    ∃ lo hi, Ends (fop .quo .f64 a c) (fop .quo .f64 a d) (fop .quo .f64 b c) (fop .quo .f64 b d) lo hi ∧ Runs Try.prog 63 #[fl2 a b, fl2 c d] #[] (fl2 (dn lo) (up hi)) #[] := by
  have zc : kv c ≠ 0 := nz (by omega)
  have zd : kv d ≠ 0 := nz (by omega)
  obtain ⟨lo, hi, he, hr⟩ := span_runs (quo_rd ha hc zc).nn (quo_rd ha hd zd).nn (quo_rd hb hc zc).nn (quo_rd hb hd zd).nn
  exact ⟨lo, hi, he, div_runs (in_no nn_zero.1 hc.nn hd.nn (by rw [nn_zero.2]; exact h)) hr⟩

end Go.Proofs.Ytpmdpbljgidllaa
