/- From-tos with infinite ends, and what is told where a NaN comes of the ends. -/
import Derived.Test.YtpmdpbljgidllaaIvMore
namespace Go.Proofs.Ytpmdpbljgidllaa
open Go
set_option linter.unusedVariables false
set_option linter.unusedSimpArgs false
set_option maxRecDepth 100000

def pinf : Nat := 9218868437227405312
def ninf : Nat := 18442240474082181120
theorem pinf_nn : NN pinf ∧ ix pinf = 9218868437227405312 := ⟨⟨by decide, by decide, by decide⟩, by decide⟩
theorem ninf_nn : NN ninf ∧ ix ninf = -9218868437227405312 := ⟨⟨by decide, by decide, by decide⟩, by decide⟩
theorem read_pinf : Ieee.double.read pinf = .infinity false := by decide +kernel
theorem read_ninf : Ieee.double.read ninf = .infinity true := by decide +kernel
theorem write_pinf : Ieee.double.write (.infinity false) = pinf := by decide +kernel
theorem write_ninf : Ieee.double.write (.infinity true) = ninf := by decide +kernel
theorem dn_ninf : dn ninf = ninf := by decide +kernel
theorem up_pinf : up pinf = pinf := by decide +kernel

def infW (s : Bool) : Nat := bif s then ninf else pinf
theorem read_infW : ∀ s : Bool, Ieee.double.read (infW s) = .infinity s
  | false => read_pinf
  | true => read_ninf
theorem write_infW : ∀ s : Bool, Ieee.double.write (.infinity s) = infW s
  | false => write_pinf
  | true => write_ninf
theorem infW_nn : ∀ s : Bool, NN (infW s)
  | false => pinf_nn.1
  | true => ninf_nn.1
theorem nn_cases {x : Nat} (h : NN x) : Fi x ∨ x = pinf ∨ x = ninf := by
  by_cases hf : Fi x
  · exact .inl hf
  · rcases read_inf h hf with ⟨h, _⟩ | ⟨h, _⟩
    · exact .inr (.inl h)
    · exact .inr (.inr h)

theorem fop_of {op : BinOp} {x y r : Nat} (h : floatBits op .f64 x y = some r) : fop op .f64 x y = r := by unfold fop; rw [h]; rfl
theorem add_inf_r {x : Nat} (s : Bool) (h : Fi x) : fop .add .f64 x (infW s) = infW s := by
  obtain ⟨t, m, e, h1, _, _⟩ := read_fi h
  refine fop_of (show ((Ieee.double.read x).sum (Ieee.double.read (infW s))).map Ieee.double.write = _ from ?_)
  rw [h1, read_infW]
  show some (Ieee.double.write (.infinity s)) = _
  rw [write_infW]
theorem add_inf_l {x : Nat} (s : Bool) (h : Fi x) : fop .add .f64 (infW s) x = infW s := by
  obtain ⟨t, m, e, h1, _, _⟩ := read_fi h
  refine fop_of (show ((Ieee.double.read (infW s)).sum (Ieee.double.read x)).map Ieee.double.write = _ from ?_)
  rw [h1, read_infW]
  show some (Ieee.double.write (.infinity s)) = _
  rw [write_infW]
theorem sub_inf_l {x : Nat} (s : Bool) (h : Fi x) : fop .sub .f64 (infW s) x = infW s := by
  obtain ⟨t, m, e, h1, _, _⟩ := read_fi h
  refine fop_of (show ((Ieee.double.read (infW s)).sum (Ieee.double.read x).opposite).map Ieee.double.write = _ from ?_)
  rw [h1, read_infW]
  show some (Ieee.double.write (.infinity s)) = _
  rw [write_infW]

/-- The sign of a finite number that is not nought. -/
theorem read_sign {x : Nat} (h : Fi x) (h0 : ix x ≠ 0) : ∃ m e, Ieee.double.read x = .number (decide (ix x < 0)) m e ∧ m ≠ 0 := by
  obtain ⟨s, m, e, h1, h2, h3⟩ := read_fi h
  have hk := nz h0
  have hm : m ≠ 0 := by
    intro hm
    rw [hm, signed_val] at h3
    simp at h3
    omega
  refine ⟨m, e, ?_, hm⟩
  rw [h1]
  congr 1
  rw [signed_val] at h3
  have hp : 0 < m * 2 ^ (e + 1074).toNat := Nat.mul_pos (by omega) (Nat.two_pow_pos _)
  generalize m * 2 ^ (e + 1074).toNat = q at h3 hp
  cases s
  · have : ¬ kv x < 0 := by rw [← h3]; simp
    rw [kv_neg] at this
    rw [decide_eq_false this]
  · have : kv x < 0 := by rw [← h3]; simp; omega
    rw [kv_neg] at this
    rw [decide_eq_true this]
theorem mul_inf {x : Nat} (s : Bool) (h : Fi x) (h0 : ix x ≠ 0) : fop .mul .f64 (infW s) x = infW (s ^^ decide (ix x < 0)) := by
  obtain ⟨m, e, h1, hm⟩ := read_sign h h0
  refine fop_of (show ((Ieee.double.read (infW s)).product (Ieee.double.read x)).map Ieee.double.write = _ from ?_)
  rw [h1, read_infW]
  unfold Ieee.Datum.product
  simp only [if_neg hm, Option.map_some, write_infW]
theorem quo_inf {x : Nat} (s : Bool) (h : Fi x) (h0 : ix x ≠ 0) : fop .quo .f64 (infW s) x = infW (s ^^ decide (ix x < 0)) := by
  obtain ⟨m, e, h1, hm⟩ := read_sign h h0
  refine fop_of (show ((Ieee.double.read (infW s)).quotient 54 (Ieee.double.read x)).map Ieee.double.write = _ from ?_)
  rw [h1, read_infW]
  unfold Ieee.Datum.quotient
  simp only [Option.map_some, write_infW]

/-! what is no number -/
theorem write_nn {d : Ieee.Datum} (h : d.isNaN = false) : NN (Ieee.double.write d) := by
  cases d with
  | number s m e =>
    unfold Ieee.Format.write
    simp only
    rw [nearest_eq]
    have hr : nearR m e ≤ 9218868437227405312 := by
      unfold nearR
      split
      · omega
      · exact Nat.min_le_right _ _
    obtain ⟨w1, w2⟩ := ix_word s hr
    refine ⟨w1, ?_, ?_⟩ <;> rw [w2] <;> split <;> omega
  | infinity s => rw [write_infW]; exact infW_nn s
  | nan s f => cases h
theorem sum_num (dx dy d : Ieee.Datum) (h : dx.sum dy = some d) : d.isNaN = false := by
  unfold Ieee.Datum.sum at h
  split at h <;> first | (cases h; done) | (injection h with h; subst h; rfl) | (split at h <;> first | (cases h; done) | (injection h with h; subst h; rfl))
theorem product_num (dx dy d : Ieee.Datum) (h : dx.product dy = some d) : d.isNaN = false := by
  unfold Ieee.Datum.product at h
  split at h <;> first | (cases h; done) | (injection h with h; subst h; rfl) | (split at h <;> first | (cases h; done) | (injection h with h; subst h; rfl))
theorem quotient_num (n : Nat) (dx dy d : Ieee.Datum) (h : Ieee.Datum.quotient n dx dy = some d) : d.isNaN = false := by
  unfold Ieee.Datum.quotient at h
  split at h <;> first | (cases h; done) | (injection h with h; subst h; rfl) | (split at h <;> first | (cases h; done) | (injection h with h; subst h; rfl) | (split at h <;> first | (cases h; done) | (injection h with h; subst h; rfl)))
theorem fop_nan {op : BinOp} {x y : Nat} (hop : op = .add ∨ op = .sub ∨ op = .mul ∨ op = .quo) : NN (fop op .f64 x y) ∨ fop op .f64 x y = nanW .f64 := by
  have key : ∀ o : Option Ieee.Datum, (∀ d, o = some d → d.isNaN = false) → NN ((o.map Ieee.double.write).getD (nanW .f64)) ∨ (o.map Ieee.double.write).getD (nanW .f64) = nanW .f64 := by
    intro o h
    cases o with
    | none => exact .inr rfl
    | some d => exact .inl (write_nn (h d rfl))
  rcases hop with rfl | rfl | rfl | rfl
  · exact key ((Ieee.double.read x).sum (Ieee.double.read y)) fun d h => sum_num _ _ _ h
  · exact key ((Ieee.double.read x).sum (Ieee.double.read y).opposite) fun d h => sum_num _ _ _ h
  · exact key ((Ieee.double.read x).product (Ieee.double.read y)) fun d h => product_num _ _ _ h
  · exact key ((Ieee.double.read x).quotient 54 (Ieee.double.read y)) fun d h => quotient_num _ _ _ _ h

/-- The NaN that Go's library tells. -/
def nanN : Nat := 9221120237041090561
theorem down_nan : Runs Try.prog 93 #[.float .f64 (nanW .f64)] #[] (.float .f64 nanN) #[] := callD_runs (d := 12) (by kernel_rfl)
theorem up_nan : Runs Try.prog 94 #[.float .f64 (nanW .f64)] #[] (.float .f64 nanN) #[] := callD_runs (d := 12) (by kernel_rfl)
theorem nan_leq (x : Nat) : fcmp .leq .f64 nanN x = some false ∧ fcmp .leq .f64 x nanN = some false := by
  have hn : Ieee.double.read nanN = .nan false 2251799813685249 := by decide +kernel
  constructor
  · have : FloatKind.f64.format.order nanN x = none := by
      show (Ieee.double.read nanN).order (Ieee.double.read x) = none
      rw [hn]; rfl
    simp only [fcmp, this]; rfl
  · have : FloatKind.f64.format.order x nanN = none := by
      show (Ieee.double.read x).order (Ieee.double.read nanN) = none
      rw [hn]; cases Ieee.double.read x <;> rfl
    simp only [fcmp, this]; rfl
theorem nan_neq : fcmp .neq .f64 (nanW .f64) (nanW .f64) = some true := by decide +kernel

/-- From, to: one that is right, or all. -/
structure Told (s t p q : Nat) : Prop where
  np : NN p
  nq : NN q
  le : ix p ≤ ix q
  is : (NN s ∧ NN t ∧ p = dn s ∧ q = up t) ∨ (p = ninf ∧ q = pinf)

theorem all_told (s t : Nat) : Told s t ninf pinf := ⟨ninf_nn.1, pinf_nn.1, by decide, .inr ⟨rfl, rfl⟩⟩

def NaNor (x : Nat) : Prop := NN x ∨ x = nanW .f64
theorem down_any {x : Nat} (h : NaNor x) : ∃ y, Runs Try.prog 93 #[.float .f64 x] #[] (.float .f64 y) #[] ∧ ((NN x ∧ y = dn x) ∨ (y = nanN)) := by
  rcases h with h | h
  · exact ⟨_, down_runs h, .inl ⟨h, rfl⟩⟩
  · subst h; exact ⟨_, down_nan, .inr rfl⟩
theorem up_any {x : Nat} (h : NaNor x) : ∃ y, Runs Try.prog 94 #[.float .f64 x] #[] (.float .f64 y) #[] ∧ ((NN x ∧ y = up x) ∨ (y = nanN)) := by
  rcases h with h | h
  · exact ⟨_, up_runs h, .inl ⟨h, rfl⟩⟩
  · subst h; exact ⟨_, up_nan, .inr rfl⟩

/-- How two ends, one further out each, are told. -/
theorem out_any {x y : Nat} (hx : NaNor x) (hy : NaNor y) : ∃ u v, Runs Try.prog 93 #[.float .f64 x] #[] (.float .f64 u) #[] ∧ Runs Try.prog 94 #[.float .f64 y] #[] (.float .f64 v) #[] ∧
    ((fcmp .leq .f64 u v = some true ∧ Told x y u v) ∨ fcmp .leq .f64 u v = some false) := by
  obtain ⟨u, hu, cu⟩ := down_any hx
  obtain ⟨v, hv, cv⟩ := up_any hy
  refine ⟨u, v, hu, hv, ?_⟩
  rcases cu with ⟨nx, rfl⟩ | rfl
  · rcases cv with ⟨ny, rfl⟩ | rfl
    · have d := (dn_ix nx).1
      have e := (up_ix ny).1
      rw [leq_ix d e]
      by_cases h : ix (dn x) ≤ ix (up y)
      · exact .inl ⟨congrArg some (decide_eq_true h), d, e, h, .inl ⟨nx, ny, rfl, rfl⟩⟩
      · exact .inr (congrArg some (decide_eq_false h))
    · exact .inr (nan_leq _).2
  · exact .inr (nan_leq _).1

theorem add_all {a b c e d u : Nat} (hd : Runs Try.prog 93 #[.float .f64 (fop .add .f64 a c)] #[] (.float .f64 d) #[]) (hu : Runs Try.prog 94 #[.float .f64 (fop .add .f64 b e)] #[] (.float .f64 u) #[])
    (hle : fcmp .leq .f64 d u = some false) : Runs Try.prog 60 #[fl2 a b, fl2 c e] #[] (fl2 ninf pinf) #[] :=
  quiet_of (ask := askI) (s := [isF d, isF u, yes false]) (l := [downO (fop .add .f64 a c) d, upO (fop .add .f64 b e) u, cmpO .leq d u false]) (by kernel_rfl) ⟨hd, hu, (fc _ rfl _ _).trans hle, trivial⟩ rfl rfl
theorem sub_all {a b c e d u : Nat} (hd : Runs Try.prog 93 #[.float .f64 (fop .sub .f64 a e)] #[] (.float .f64 d) #[]) (hu : Runs Try.prog 94 #[.float .f64 (fop .sub .f64 b c)] #[] (.float .f64 u) #[])
    (hle : fcmp .leq .f64 d u = some false) : Runs Try.prog 61 #[fl2 a b, fl2 c e] #[] (fl2 ninf pinf) #[] :=
  quiet_of (ask := askI) (s := [isF d, isF u, yes false]) (l := [downO (fop .sub .f64 a e) d, upO (fop .sub .f64 b c) u, cmpO .leq d u false]) (by kernel_rfl) ⟨hd, hu, (fc _ rfl _ _).trans hle, trivial⟩ rfl rfl

/-- The sum of any two. -/
theorem add_any (a b c e : Nat) : ∃ p q, Runs Try.prog 60 #[fl2 a b, fl2 c e] #[] (fl2 p q) #[] ∧ Told (fop .add .f64 a c) (fop .add .f64 b e) p q := by
  obtain ⟨u, v, h1, h2, h3⟩ := out_any (fop_nan (op := .add) (x := a) (y := c) (.inl rfl)) (fop_nan (op := .add) (x := b) (y := e) (.inl rfl))
  rcases h3 with ⟨h, ht⟩ | h
  · exact ⟨u, v, add_runs h1 h2 h, ht⟩
  · exact ⟨_, _, add_all h1 h2 h, all_told _ _⟩
theorem sub_any (a b c e : Nat) : ∃ p q, Runs Try.prog 61 #[fl2 a b, fl2 c e] #[] (fl2 p q) #[] ∧ Told (fop .sub .f64 a e) (fop .sub .f64 b c) p q := by
  obtain ⟨u, v, h1, h2, h3⟩ := out_any (fop_nan (op := .sub) (x := a) (y := e) (.inr (.inl rfl))) (fop_nan (op := .sub) (x := b) (y := c) (.inr (.inl rfl)))
  rcases h3 with ⟨h, ht⟩ | h
  · exact ⟨u, v, sub_runs h1 h2 h, ht⟩
  · exact ⟨_, _, sub_all h1 h2 h, all_told _ _⟩

def a4 (a b c d : Nat) : Value := .agg #[.float .f64 a, .float .f64 b, .float .f64 c, .float .f64 d]
theorem nan0 (a b c d : Nat) : (askN askI fltC 12 79 #[a4 a b c d] #[] [yes true]).map (fun r => (r.1, r.2.2)) = some (fl2 ninf pinf, [cmpO .neq a a true]) := by kernel_rfl
theorem nan1 (a b c d : Nat) : (askN askI fltC 12 79 #[a4 a b c d] #[] [yes false, yes false, yes false, yes true]).map (fun r => (r.1, r.2.2)) = some (fl2 ninf pinf, [cmpO .neq a a false, cmpO .lss a a false, cmpO .gtr a a false, cmpO .neq b b true]) := by kernel_rfl
theorem nan2 (a b c d : Nat) (c1 d1 : Bool) : (askN askI fltC 12 79 #[a4 a b c d] #[] [yes false, yes false, yes false, yes false, yes c1, yes d1, yes true]).map (fun r => (r.1, r.2.2)) = some (fl2 ninf pinf, [cmpO .neq a a false, cmpO .lss a a false, cmpO .gtr a a false, cmpO .neq b b false, cmpO .lss b a c1, cmpO .gtr b a d1, cmpO .neq c c true]) := by
  cases c1 <;> cases d1 <;> kernel_rfl
theorem nan3 (a b c d : Nat) (c1 d1 c2 d2 : Bool) : (askN askI fltC 12 79 #[a4 a b c d] #[] [yes false, yes false, yes false, yes false, yes c1, yes d1, yes false, yes c2, yes d2, yes true]).map (fun r => (r.1, r.2.2)) =
    some (fl2 ninf pinf, [cmpO .neq a a false, cmpO .lss a a false, cmpO .gtr a a false, cmpO .neq b b false, cmpO .lss b a c1, cmpO .gtr b a d1, cmpO .neq c c false, cmpO .lss c (sel c1 b a) c2, cmpO .gtr c (sel d1 b a) d2, cmpO .neq d d true]) := by
  cases c1 <;> cases d1 <;> cases c2 <;> cases d2 <;> kernel_rfl

/-- What a span tells of any four: right. -/
theorem span_any {a b c d : Nat} (ha : NaNor a) (hb : NaNor b) (hc : NaNor c) (hd : NaNor d) : ∃ p q, Runs Try.prog 79 #[a4 a b c d] #[] (fl2 p q) #[] ∧ NN p ∧ NN q ∧ ix p ≤ ix q := by
  have all : NN ninf ∧ NN pinf ∧ ix ninf ≤ ix pinf := ⟨ninf_nn.1, pinf_nn.1, by decide⟩
  rcases ha with ha | rfl
  · obtain ⟨x1, x2, x3⟩ := nn_self ha
    rcases hb with hb | rfl
    · obtain ⟨y1, y2, y3⟩ := nn_self hb
      obtain ⟨s1, s2, s3, s4⟩ := sel_lo hb ha rfl
      obtain ⟨v1, v2, v3, v4⟩ := sel_hi hb ha rfl
      rcases hc with hc | rfl
      · obtain ⟨z1, z2, z3⟩ := nn_self hc
        rcases hd with hd | rfl
        · obtain ⟨lo, hi, he, hr⟩ := span_runs ha hb hc hd
          refine ⟨_, _, hr, (dn_ix he.nlo).1, (up_ix he.nhi).1, out_le he.nlo he.nhi ?_⟩
          have := he.lo_a; have := he.hi_a; omega
        · exact ⟨_, _, quiet_of (nan3 _ _ _ _ _ _ _ _) ⟨(fc _ rfl _ _).trans x1, (fc _ rfl _ _).trans x2, (fc _ rfl _ _).trans x3, (fc _ rfl _ _).trans y1, (fc _ rfl _ _).trans (lss_ix hb ha), (fc _ rfl _ _).trans (gtr_ix hb ha), (fc _ rfl _ _).trans z1, (fc _ rfl _ _).trans (lss_ix hc s1), (fc _ rfl _ _).trans (gtr_ix hc v1), (fc _ rfl _ _).trans nan_neq, trivial⟩ rfl rfl, all⟩
      · exact ⟨_, _, quiet_of (nan2 _ _ _ _ _ _) ⟨(fc _ rfl _ _).trans x1, (fc _ rfl _ _).trans x2, (fc _ rfl _ _).trans x3, (fc _ rfl _ _).trans y1, (fc _ rfl _ _).trans (lss_ix hb ha), (fc _ rfl _ _).trans (gtr_ix hb ha), (fc _ rfl _ _).trans nan_neq, trivial⟩ rfl rfl, all⟩
    · exact ⟨_, _, quiet_of (nan1 _ _ _ _) ⟨(fc _ rfl _ _).trans x1, (fc _ rfl _ _).trans x2, (fc _ rfl _ _).trans x3, (fc _ rfl _ _).trans nan_neq, trivial⟩ rfl rfl, all⟩
  · exact ⟨_, _, quiet_of (nan0 _ _ _ _) ⟨(fc _ rfl _ _).trans nan_neq, trivial⟩ rfl rfl, all⟩

theorem mul_any (a b c e : Nat) : ∃ p q, Runs Try.prog 62 #[fl2 a b, fl2 c e] #[] (fl2 p q) #[] ∧ NN p ∧ NN q ∧ ix p ≤ ix q := by
  have h := fun x y => fop_nan (op := .mul) (x := x) (y := y) (.inr (.inr (.inl rfl)))
  obtain ⟨p, q, hr, hn⟩ := span_any (h a c) (h a e) (h b c) (h b e)
  exact ⟨p, q, mul_runs hr, hn⟩
theorem div_any (a b : Nat) {c e : Nat} (hc : NN c) (he : NN e) : ∃ p q, Runs Try.prog 63 #[fl2 a b, fl2 c e] #[] (fl2 p q) #[] ∧ NN p ∧ NN q ∧ ix p ≤ ix q := by
  have h := fun x y => fop_nan (op := .quo) (x := x) (y := y) (.inr (.inr (.inr rfl)))
  obtain ⟨p, q, hr, hn⟩ := span_any (h a c) (h a e) (h b c) (h b e)
  by_cases hi : 0 < ix c ∨ ix e < 0
  · exact ⟨p, q, div_runs (in_no nn_zero.1 hc he (by rw [nn_zero.2]; exact hi)) hr, hn⟩
  · exact ⟨ninf, pinf, div_zero (in_yes nn_zero.1 hc he (by rw [nn_zero.2]; omega) (by rw [nn_zero.2]; omega)), ninf_nn.1, pinf_nn.1, by decide⟩

end Go.Proofs.Ytpmdpbljgidllaa
