/- IvMore / IvInf / IvBoth / IvW / IvMono: several texts in one. -/
import Derived.Test.YtdlinjijccnaeaaIvCore
import Derived.Test.YtdlinjijccnaeaaNum
/-!  What the other functions of from-tos return, of any ends that are no NaN; and the laws' questions in short. -/
namespace Go.Proofs.Ytdlinjijccnaeaa
open Go
set_option linter.unusedVariables false
set_option linter.unusedSimpArgs false
set_option maxRecDepth 100000



def eqC : BinOp → Value → Value → Bool
  | _, .float _ _, _ => true
  | _, .agg _, _ => true
  | _, _, _ => false

noncomputable def mkO (m k w : Int) (a b : Nat) : Obl := .run 31 #[.int .i64 m, .int .i64 k, .int .i64 w] #[] (fl2 a b) #[]
noncomputable def opO (f : FuncId) (a b c d p q : Nat) : Obl := .run f #[fl2 a b, fl2 c d] #[] (fl2 p q) #[]
noncomputable def inX (x a b : Nat) (t : Bool) : Obl := .run 92 #[.float .f64 x, fl2 a b] #[] (.bool t) #[]
noncomputable def mgO (a b e : Nat) : Obl := .run 35 #[fl2 a b] #[] (.float .f64 e) #[]
noncomputable def riO (a b : Nat) (t : Bool) : Obl := .run 103 #[fl2 a b] #[] (.bool t) #[]
noncomputable def imO (x y a b : Nat) : Obl := .run 98 #[.float .f64 x, .float .f64 y] #[] (fl2 a b) #[]
noncomputable def eqO (a b c d : Nat) (t : Bool) : Obl := .bin binIv .eql 29 (fl2 a b) (fl2 c d) t

theorem floatEq_ix {a c : Nat} (ha : NN a) (hc : NN c) : Op.floatEq .f64 a c = decide (ix a = ix c) := by
  have := eql_ix ha hc
  simp only [fcmp] at this
  injection this
theorem eq_at {a b c d : Nat} {t : Bool} (ha : NN a) (hb : NN b) (hc : NN c) (hd : NN d) (ht : t = decide (ix a = ix c ∧ ix b = ix d)) : (eqO a b c d t).ok Try.prog := by
  show binIv .eql 29 (fl2 a b) (fl2 c d) = some (.bool t)
  have e : binIv .eql 29 (fl2 a b) (fl2 c d) = some (.bool (Op.floatEq .f64 a c && Op.floatEq .f64 b d)) := rfl
  rw [e, floatEq_ix ha hc, floatEq_ix hb hd, ht]
  by_cases h1 : ix a = ix c <;> by_cases h2 : ix b = ix d <;> simp [h1, h2]

theorem right_at {a b : Nat} {t : Bool} (h : fcmp .leq .f64 a b = some t) : Runs Try.prog 103 #[fl2 a b] #[] (.bool t) #[] :=
  quiet_of' (ask := noF) (askC := fltC) (s := [yes t]) (l := [cmpF .leq a b t]) (by kernel_rfl) ⟨(fc _ rfl _ _).trans h, trivial⟩ rfl rfl
theorem imake_at {a b : Nat} (h : fcmp .leq .f64 a b = some true) : Runs Try.prog 98 #[.float .f64 a, .float .f64 b] #[] (fl2 a b) #[] :=
  quiet_of' (ask := fun _ => 2) (askC := fltC) (s := [yes true]) (l := [cmpF .leq a b true]) (by kernel_rfl) ⟨(fc _ rfl _ _).trans h, trivial⟩ rfl rfl
noncomputable def askAb (f : FuncId) : Nat := if f == 60 then 1 else 0
theorem mag_came (a b x y : Nat) (c : Bool) : (askN askAb fltC 12 35 #[fl2 a b] #[] [isG x, isG y, yes c]).map (fun r => (r.1, r.2.2)) = some (.float .f64 (sel c y x), [absO a x, absO b y, cmpF .gtr y x c]) := by
  cases c <;> kernel_rfl
/-- The size: the greater of the two ends' sizes. -/
theorem mag_at {a b : Nat} (ha : NN a) (hb : NN b) : ∃ e, Runs Try.prog 35 #[fl2 a b] #[] (.float .f64 e) #[] ∧ NN e ∧ (ix a).natAbs ≤ ix e ∧ (ix b).natAbs ≤ ix e ∧ (ix e = (ix a).natAbs ∨ ix e = (ix b).natAbs) := by
  obtain ⟨a1, a2⟩ := abs_ix ha
  obtain ⟨b1, b2⟩ := abs_ix hb
  obtain ⟨s1, s2, s3, s4⟩ := sel_hi b1 a1 rfl
  refine ⟨_, quiet_of' (mag_came a b _ _ _) ⟨abs_runs ha, abs_runs hb, (fc _ rfl _ _).trans (gtr_ix b1 a1), trivial⟩ rfl rfl, s1, by omega, by omega, ?_⟩
  rcases s4 with h | h <;> rw [h] <;> omega

theorem read_mod (x : Nat) : Ieee.double.read x = Ieee.double.read (x % 18446744073709551616) := by
  unfold Ieee.Format.read
  simp only [d_sign, d_binade, d_inf, d_least]
  have e1 : x % 18446744073709551616 % 9223372036854775808 = x % 9223372036854775808 := by omega
  have e2 : x % 18446744073709551616 / 9223372036854775808 % 2 = x / 9223372036854775808 % 2 := by omega
  rw [e1, e2]
theorem fcmp_mod (op : BinOp) (x y : Nat) : fcmp op .f64 x y = fcmp op .f64 (x % 18446744073709551616) (y % 18446744073709551616) := by
  have : FloatKind.f64.format.order x y = FloatKind.f64.format.order (x % 18446744073709551616) (y % 18446744073709551616) := by
    show (Ieee.double.read x).order (Ieee.double.read y) = (Ieee.double.read _).order (Ieee.double.read _)
    rw [← read_mod, ← read_mod]
  simp only [fcmp, this]
theorem nan_read {x : Nat} (hx : x < 18446744073709551616) (h : ¬ NN x) : ∃ s f, Ieee.double.read x = .nan s f := by
  unfold NN at h
  unfold Ieee.Format.read
  simp only [d_sign, d_binade, d_inf, d_least]
  by_cases c : x < 9223372036854775808
  · rw [ix_pos c] at h
    rw [if_neg (by omega), if_neg (by omega), if_neg (by omega)]
    exact ⟨_, _, rfl⟩
  · rw [ix_neg c] at h
    rw [if_neg (by omega), if_neg (by omega), if_neg (by omega)]
    exact ⟨_, _, rfl⟩
/-- Whether any number, or none, is within. -/
theorem in_any (x : Nat) {a b : Nat} (ha : NN a) (hb : NN b) : ∃ t, Runs Try.prog 92 #[.float .f64 x, fl2 a b] #[] (.bool t) #[] ∧
    (t = true → NN (x % 18446744073709551616) ∧ ix a ≤ ix (x % 18446744073709551616) ∧ ix (x % 18446744073709551616) ≤ ix b) := by
  have ma : a % 18446744073709551616 = a := Nat.mod_eq_of_lt ha.1
  have mb : b % 18446744073709551616 = b := Nat.mod_eq_of_lt hb.1
  have l1 : fcmp .leq .f64 a x = fcmp .leq .f64 a (x % 18446744073709551616) := by rw [fcmp_mod, ma]
  have l2 : fcmp .leq .f64 x b = fcmp .leq .f64 (x % 18446744073709551616) b := by rw [fcmp_mod, mb]
  by_cases hx : NN (x % 18446744073709551616)
  · rw [leq_ix ha hx] at l1
    rw [leq_ix hx hb] at l2
    by_cases h1 : ix a ≤ ix (x % 18446744073709551616)
    · by_cases h2 : ix (x % 18446744073709551616) ≤ ix b
      · exact ⟨true, in_runs (l1.trans (congrArg some (decide_eq_true h1))) (l2.trans (congrArg some (decide_eq_true h2))), fun _ => ⟨hx, h1, h2⟩⟩
      · exact ⟨false, quiet_of' (ask := noF) (askC := fltC) (s := [yes true, yes false]) (l := [cmpF .leq a x true, cmpF .leq x b false]) (by kernel_rfl) ⟨(fc _ rfl _ _).trans (l1.trans (congrArg some (decide_eq_true h1))), (fc _ rfl _ _).trans (l2.trans (congrArg some (decide_eq_false h2))), trivial⟩ rfl rfl, fun h => by cases h⟩
    · exact ⟨false, quiet_of' (ask := noF) (askC := fltC) (s := [yes false]) (l := [cmpF .leq a x false]) (by kernel_rfl) ⟨(fc _ rfl _ _).trans (l1.trans (congrArg some (decide_eq_false h1))), trivial⟩ rfl rfl, fun h => by cases h⟩
  · obtain ⟨s, f, hr⟩ := nan_read (Nat.mod_lt _ (by decide)) hx
    have : fcmp .leq .f64 a (x % 18446744073709551616) = some false := by
      have ho : FloatKind.f64.format.order a (x % 18446744073709551616) = none := by
        show (Ieee.double.read a).order (Ieee.double.read _) = none
        rw [hr]
        cases Ieee.double.read a <;> rfl
      simp only [fcmp, ho]
      rfl
    exact ⟨false, quiet_of' (ask := noF) (askC := fltC) (s := [yes false]) (l := [cmpF .leq a x false]) (by kernel_rfl) ⟨(fc _ rfl _ _).trans (l1.trans this), trivial⟩ rfl rfl, fun h => by cases h⟩
/-- What is within one that is within another. -/
theorem in_of {x a b : Nat} (ha : NN a) (hb : NN b) (hx : NN (x % 18446744073709551616)) (h1 : ix a ≤ ix (x % 18446744073709551616)) (h2 : ix (x % 18446744073709551616) ≤ ix b) : Runs Try.prog 92 #[.float .f64 x, fl2 a b] #[] (.bool true) #[] := by
  have ma : a % 18446744073709551616 = a := Nat.mod_eq_of_lt ha.1
  have mb : b % 18446744073709551616 = b := Nat.mod_eq_of_lt hb.1
  have l1 : fcmp .leq .f64 a x = fcmp .leq .f64 a (x % 18446744073709551616) := by rw [fcmp_mod, ma]
  have l2 : fcmp .leq .f64 x b = fcmp .leq .f64 (x % 18446744073709551616) b := by rw [fcmp_mod, mb]
  rw [leq_ix ha hx] at l1
  rw [leq_ix hx hb] at l2
  exact in_runs (l1.trans (congrArg some (decide_eq_true h1))) (l2.trans (congrArg some (decide_eq_true h2)))

end Go.Proofs.Ytdlinjijccnaeaa

/-!  From-tos with infinite ends, and what is told where a NaN comes of the ends. -/
namespace Go.Proofs.Ytdlinjijccnaeaa
open Go
set_option linter.unusedVariables false
set_option linter.unusedSimpArgs false
set_option maxRecDepth 100000

def pinf : Nat := 9218868437227405312
def ninf : Nat := 18442240474082181120
theorem pinf_nn : NN pinf ∧ ix pinf = 9218868437227405312 := ⟨⟨by decide, by decide, by decide⟩, by decide⟩
theorem ninf_nn : NN ninf ∧ ix ninf = -9218868437227405312 := ⟨⟨by decide, by decide, by decide⟩, by decide⟩
theorem read_pinf : Ieee.double.read pinf = .infinity false := by decide +kernel
theorem read_ninf : Ieee.double.read ninf = .infinity true := by decide +kernel
theorem write_pinf : Ieee.double.write (.infinity false) = pinf := by decide +kernel
theorem write_ninf : Ieee.double.write (.infinity true) = ninf := by decide +kernel
theorem dn_ninf : dn ninf = ninf := by decide +kernel
theorem up_pinf : up pinf = pinf := by decide +kernel

def infW (s : Bool) : Nat := bif s then ninf else pinf
theorem read_infW : ∀ s : Bool, Ieee.double.read (infW s) = .infinity s
  | false => read_pinf
  | true => read_ninf
theorem write_infW : ∀ s : Bool, Ieee.double.write (.infinity s) = infW s
  | false => write_pinf
  | true => write_ninf
theorem infW_nn : ∀ s : Bool, NN (infW s)
  | false => pinf_nn.1
  | true => ninf_nn.1
theorem nn_cases {x : Nat} (h : NN x) : Fi x ∨ x = pinf ∨ x = ninf := by
  by_cases hf : Fi x
  · exact .inl hf
  · rcases read_inf h hf with ⟨h, _⟩ | ⟨h, _⟩
    · exact .inr (.inl h)
    · exact .inr (.inr h)

theorem fop_of {op : BinOp} {x y r : Nat} (h : floatBits op .f64 x y = some r) : fop op .f64 x y = r := by unfold fop; rw [h]; rfl
theorem add_inf_r {x : Nat} (s : Bool) (h : Fi x) : fop .add .f64 x (infW s) = infW s := by
  obtain ⟨t, m, e, h1, _, _⟩ := read_fi h
  refine fop_of (show ((Ieee.double.read x).sum (Ieee.double.read (infW s))).map Ieee.double.write = _ from ?_)
  rw [h1, read_infW]
  show some (Ieee.double.write (.infinity s)) = _
  rw [write_infW]
theorem add_inf_l {x : Nat} (s : Bool) (h : Fi x) : fop .add .f64 (infW s) x = infW s := by
  obtain ⟨t, m, e, h1, _, _⟩ := read_fi h
  refine fop_of (show ((Ieee.double.read (infW s)).sum (Ieee.double.read x)).map Ieee.double.write = _ from ?_)
  rw [h1, read_infW]
  show some (Ieee.double.write (.infinity s)) = _
  rw [write_infW]
theorem sub_inf_l {x : Nat} (s : Bool) (h : Fi x) : fop .sub .f64 (infW s) x = infW s := by
  obtain ⟨t, m, e, h1, _, _⟩ := read_fi h
  refine fop_of (show ((Ieee.double.read (infW s)).sum (Ieee.double.read x).opposite).map Ieee.double.write = _ from ?_)
  rw [h1, read_infW]
  show some (Ieee.double.write (.infinity s)) = _
  rw [write_infW]

/-- The sign of a finite number that is not nought. -/
theorem read_sign {x : Nat} (h : Fi x) (h0 : ix x ≠ 0) : ∃ m e, Ieee.double.read x = .number (decide (ix x < 0)) m e ∧ m ≠ 0 := by
  obtain ⟨s, m, e, h1, h2, h3⟩ := read_fi h
  have hk := nz h0
  have hm : m ≠ 0 := by
    intro hm
    rw [hm, signed_val] at h3
    simp at h3
    omega
  refine ⟨m, e, ?_, hm⟩
  rw [h1]
  congr 1
  rw [signed_val] at h3
  have hp : 0 < m * 2 ^ (e + 1074).toNat := Nat.mul_pos (by omega) (Nat.two_pow_pos _)
  generalize m * 2 ^ (e + 1074).toNat = q at h3 hp
  cases s
  · have : ¬ kv x < 0 := by rw [← h3]; simp
    rw [kv_neg] at this
    rw [decide_eq_false this]
  · have : kv x < 0 := by rw [← h3]; simp; omega
    rw [kv_neg] at this
    rw [decide_eq_true this]
theorem mul_inf {x : Nat} (s : Bool) (h : Fi x) (h0 : ix x ≠ 0) : fop .mul .f64 (infW s) x = infW (s ^^ decide (ix x < 0)) := by
  obtain ⟨m, e, h1, hm⟩ := read_sign h h0
  refine fop_of (show ((Ieee.double.read (infW s)).product (Ieee.double.read x)).map Ieee.double.write = _ from ?_)
  rw [h1, read_infW]
  unfold Ieee.Datum.product
  simp only [if_neg hm, Option.map_some, write_infW]
theorem quo_inf {x : Nat} (s : Bool) (h : Fi x) (h0 : ix x ≠ 0) : fop .quo .f64 (infW s) x = infW (s ^^ decide (ix x < 0)) := by
  obtain ⟨m, e, h1, hm⟩ := read_sign h h0
  refine fop_of (show ((Ieee.double.read (infW s)).quotient 54 (Ieee.double.read x)).map Ieee.double.write = _ from ?_)
  rw [h1, read_infW]
  unfold Ieee.Datum.quotient
  simp only [Option.map_some, write_infW]

/-! what is no number -/
theorem write_nn {d : Ieee.Datum} (h : d.isNaN = false) : NN (Ieee.double.write d) := by
  cases d with
  | number s m e =>
    unfold Ieee.Format.write
    simp only
    rw [nearest_eq]
    have hr : nearR m e ≤ 9218868437227405312 := by
      unfold nearR
      split
      · omega
      · exact Nat.min_le_right _ _
    obtain ⟨w1, w2⟩ := ix_word s hr
    refine ⟨w1, ?_, ?_⟩ <;> rw [w2] <;> split <;> omega
  | infinity s => rw [write_infW]; exact infW_nn s
  | nan s f => cases h
theorem sum_num (dx dy d : Ieee.Datum) (h : dx.sum dy = some d) : d.isNaN = false := by
  unfold Ieee.Datum.sum at h
  split at h <;> first | (cases h; done) | (injection h with h; subst h; rfl) | (split at h <;> first | (cases h; done) | (injection h with h; subst h; rfl))
theorem product_num (dx dy d : Ieee.Datum) (h : dx.product dy = some d) : d.isNaN = false := by
  unfold Ieee.Datum.product at h
  split at h <;> first | (cases h; done) | (injection h with h; subst h; rfl) | (split at h <;> first | (cases h; done) | (injection h with h; subst h; rfl))
theorem quotient_num (n : Nat) (dx dy d : Ieee.Datum) (h : Ieee.Datum.quotient n dx dy = some d) : d.isNaN = false := by
  unfold Ieee.Datum.quotient at h
  split at h <;> first | (cases h; done) | (injection h with h; subst h; rfl) | (split at h <;> first | (cases h; done) | (injection h with h; subst h; rfl) | (split at h <;> first | (cases h; done) | (injection h with h; subst h; rfl)))
theorem fop_nan {op : BinOp} {x y : Nat} (hop : op = .add ∨ op = .sub ∨ op = .mul ∨ op = .quo) : NN (fop op .f64 x y) ∨ fop op .f64 x y = nanW .f64 := by
  have key : ∀ o : Option Ieee.Datum, (∀ d, o = some d → d.isNaN = false) → NN ((o.map Ieee.double.write).getD (nanW .f64)) ∨ (o.map Ieee.double.write).getD (nanW .f64) = nanW .f64 := by
    intro o h
    cases o with
    | none => exact .inr rfl
    | some d => exact .inl (write_nn (h d rfl))
  rcases hop with rfl | rfl | rfl | rfl
  · exact key ((Ieee.double.read x).sum (Ieee.double.read y)) fun d h => sum_num _ _ _ h
  · exact key ((Ieee.double.read x).sum (Ieee.double.read y).opposite) fun d h => sum_num _ _ _ h
  · exact key ((Ieee.double.read x).product (Ieee.double.read y)) fun d h => product_num _ _ _ h
  · exact key ((Ieee.double.read x).quotient 54 (Ieee.double.read y)) fun d h => quotient_num _ _ _ _ h

/-- The NaN that Go's library tells. -/
def nanN : Nat := 9221120237041090561
theorem down_nan : Runs Try.prog 99 #[.float .f64 (nanW .f64)] #[] (.float .f64 nanN) #[] := callD_runs (d := 12) (by kernel_rfl)
theorem up_nan : Runs Try.prog 34 #[.float .f64 (nanW .f64)] #[] (.float .f64 nanN) #[] := callD_runs (d := 12) (by kernel_rfl)
theorem nan_leq (x : Nat) : fcmp .leq .f64 nanN x = some false ∧ fcmp .leq .f64 x nanN = some false := by
  have hn : Ieee.double.read nanN = .nan false 2251799813685249 := by decide +kernel
  constructor
  · have : FloatKind.f64.format.order nanN x = none := by
      show (Ieee.double.read nanN).order (Ieee.double.read x) = none
      rw [hn]; rfl
    simp only [fcmp, this]; rfl
  · have : FloatKind.f64.format.order x nanN = none := by
      show (Ieee.double.read x).order (Ieee.double.read nanN) = none
      rw [hn]; cases Ieee.double.read x <;> rfl
    simp only [fcmp, this]; rfl
theorem nan_neq : fcmp .neq .f64 (nanW .f64) (nanW .f64) = some true := by decide +kernel

/-- From, to: one that is right, or all. -/
structure Told (s t p q : Nat) : Prop where
  np : NN p
  nq : NN q
  le : ix p ≤ ix q
  is : (NN s ∧ NN t ∧ p = dn s ∧ q = up t) ∨ (p = ninf ∧ q = pinf)

theorem all_told (s t : Nat) : Told s t ninf pinf := ⟨ninf_nn.1, pinf_nn.1, by decide, .inr ⟨rfl, rfl⟩⟩

def NaNor (x : Nat) : Prop := NN x ∨ x = nanW .f64
theorem down_any {x : Nat} (h : NaNor x) : ∃ y, Runs Try.prog 99 #[.float .f64 x] #[] (.float .f64 y) #[] ∧ ((NN x ∧ y = dn x) ∨ (y = nanN)) := by
  rcases h with h | h
  · exact ⟨_, down_runs h, .inl ⟨h, rfl⟩⟩
  · subst h; exact ⟨_, down_nan, .inr rfl⟩
theorem up_any {x : Nat} (h : NaNor x) : ∃ y, Runs Try.prog 34 #[.float .f64 x] #[] (.float .f64 y) #[] ∧ ((NN x ∧ y = up x) ∨ (y = nanN)) := by
  rcases h with h | h
  · exact ⟨_, up_runs h, .inl ⟨h, rfl⟩⟩
  · subst h; exact ⟨_, up_nan, .inr rfl⟩

/-- How two ends, one further out each, are told. -/
theorem out_any {x y : Nat} (hx : NaNor x) (hy : NaNor y) : ∃ u v, Runs Try.prog 99 #[.float .f64 x] #[] (.float .f64 u) #[] ∧ Runs Try.prog 34 #[.float .f64 y] #[] (.float .f64 v) #[] ∧
    ((fcmp .leq .f64 u v = some true ∧ Told x y u v) ∨ fcmp .leq .f64 u v = some false) := by
  obtain ⟨u, hu, cu⟩ := down_any hx
  obtain ⟨v, hv, cv⟩ := up_any hy
  refine ⟨u, v, hu, hv, ?_⟩
  rcases cu with ⟨nx, rfl⟩ | rfl
  · rcases cv with ⟨ny, rfl⟩ | rfl
    · have d := (dn_ix nx).1
      have e := (up_ix ny).1
      rw [leq_ix d e]
      by_cases h : ix (dn x) ≤ ix (up y)
      · exact .inl ⟨congrArg some (decide_eq_true h), d, e, h, .inl ⟨nx, ny, rfl, rfl⟩⟩
      · exact .inr (congrArg some (decide_eq_false h))
    · exact .inr (nan_leq _).2
  · exact .inr (nan_leq _).1

theorem add_all {a b c e d u : Nat} (hd : Runs Try.prog 99 #[.float .f64 (fop .add .f64 a c)] #[] (.float .f64 d) #[]) (hu : Runs Try.prog 34 #[.float .f64 (fop .add .f64 b e)] #[] (.float .f64 u) #[])
    (hle : fcmp .leq .f64 d u = some false) : Runs Try.prog 72 #[fl2 a b, fl2 c e] #[] (fl2 ninf pinf) #[] :=
  quiet_of (ask := askI) (s := [isF d, isF u, yes false]) (l := [downO (fop .add .f64 a c) d, upO (fop .add .f64 b e) u, cmpO .leq d u false]) (by kernel_rfl) ⟨hd, hu, (fc _ rfl _ _).trans hle, trivial⟩ rfl rfl
theorem sub_all {a b c e d u : Nat} (hd : Runs Try.prog 99 #[.float .f64 (fop .sub .f64 a e)] #[] (.float .f64 d) #[]) (hu : Runs Try.prog 34 #[.float .f64 (fop .sub .f64 b c)] #[] (.float .f64 u) #[])
    (hle : fcmp .leq .f64 d u = some false) : Runs Try.prog 73 #[fl2 a b, fl2 c e] #[] (fl2 ninf pinf) #[] :=
  quiet_of (ask := askI) (s := [isF d, isF u, yes false]) (l := [downO (fop .sub .f64 a e) d, upO (fop .sub .f64 b c) u, cmpO .leq d u false]) (by kernel_rfl) ⟨hd, hu, (fc _ rfl _ _).trans hle, trivial⟩ rfl rfl

/-- The sum of any two. -/
theorem add_any (a b c e : Nat) : ∃ p q, Runs Try.prog 72 #[fl2 a b, fl2 c e] #[] (fl2 p q) #[] ∧ Told (fop .add .f64 a c) (fop .add .f64 b e) p q := by
  obtain ⟨u, v, h1, h2, h3⟩ := out_any (fop_nan (op := .add) (x := a) (y := c) (.inl rfl)) (fop_nan (op := .add) (x := b) (y := e) (.inl rfl))
  rcases h3 with ⟨h, ht⟩ | h
  · exact ⟨u, v, add_runs h1 h2 h, ht⟩
  · exact ⟨_, _, add_all h1 h2 h, all_told _ _⟩
theorem sub_any (a b c e : Nat) : ∃ p q, Runs Try.prog 73 #[fl2 a b, fl2 c e] #[] (fl2 p q) #[] ∧ Told (fop .sub .f64 a e) (fop .sub .f64 b c) p q := by
  obtain ⟨u, v, h1, h2, h3⟩ := out_any (fop_nan (op := .sub) (x := a) (y := e) (.inr (.inl rfl))) (fop_nan (op := .sub) (x := b) (y := c) (.inr (.inl rfl)))
  rcases h3 with ⟨h, ht⟩ | h
  · exact ⟨u, v, sub_runs h1 h2 h, ht⟩
  · exact ⟨_, _, sub_all h1 h2 h, all_told _ _⟩

def a4 (a b c d : Nat) : Value := .agg #[.float .f64 a, .float .f64 b, .float .f64 c, .float .f64 d]
theorem nan0 (a b c d : Nat) : (askN askI fltC 12 91 #[a4 a b c d] #[] [yes true]).map (fun r => (r.1, r.2.2)) = some (fl2 ninf pinf, [cmpO .neq a a true]) := by kernel_rfl
theorem nan1 (a b c d : Nat) : (askN askI fltC 12 91 #[a4 a b c d] #[] [yes false, yes false, yes false, yes true]).map (fun r => (r.1, r.2.2)) = some (fl2 ninf pinf, [cmpO .neq a a false, cmpO .lss a a false, cmpO .gtr a a false, cmpO .neq b b true]) := by kernel_rfl
theorem nan2 (a b c d : Nat) (c1 d1 : Bool) : (askN askI fltC 12 91 #[a4 a b c d] #[] [yes false, yes false, yes false, yes false, yes c1, yes d1, yes true]).map (fun r => (r.1, r.2.2)) = some (fl2 ninf pinf, [cmpO .neq a a false, cmpO .lss a a false, cmpO .gtr a a false, cmpO .neq b b false, cmpO .lss b a c1, cmpO .gtr b a d1, cmpO .neq c c true]) := by
  cases c1 <;> cases d1 <;> kernel_rfl
theorem nan3 (a b c d : Nat) (c1 d1 c2 d2 : Bool) : (askN askI fltC 12 91 #[a4 a b c d] #[] [yes false, yes false, yes false, yes false, yes c1, yes d1, yes false, yes c2, yes d2, yes true]).map (fun r => (r.1, r.2.2)) =
    some (fl2 ninf pinf, [cmpO .neq a a false, cmpO .lss a a false, cmpO .gtr a a false, cmpO .neq b b false, cmpO .lss b a c1, cmpO .gtr b a d1, cmpO .neq c c false, cmpO .lss c (sel c1 b a) c2, cmpO .gtr c (sel d1 b a) d2, cmpO .neq d d true]) := by
  cases c1 <;> cases d1 <;> cases c2 <;> cases d2 <;> kernel_rfl

/-- What a span tells of any four: right. -/
theorem span_any {a b c d : Nat} (ha : NaNor a) (hb : NaNor b) (hc : NaNor c) (hd : NaNor d) : ∃ p q, Runs Try.prog 91 #[a4 a b c d] #[] (fl2 p q) #[] ∧ NN p ∧ NN q ∧ ix p ≤ ix q := by
  have all : NN ninf ∧ NN pinf ∧ ix ninf ≤ ix pinf := ⟨ninf_nn.1, pinf_nn.1, by decide⟩
  rcases ha with ha | rfl
  · obtain ⟨x1, x2, x3⟩ := nn_self ha
    rcases hb with hb | rfl
    · obtain ⟨y1, y2, y3⟩ := nn_self hb
      obtain ⟨s1, s2, s3, s4⟩ := sel_lo hb ha rfl
      obtain ⟨v1, v2, v3, v4⟩ := sel_hi hb ha rfl
      rcases hc with hc | rfl
      · obtain ⟨z1, z2, z3⟩ := nn_self hc
        rcases hd with hd | rfl
        · obtain ⟨lo, hi, he, hr⟩ := span_runs ha hb hc hd
          refine ⟨_, _, hr, (dn_ix he.nlo).1, (up_ix he.nhi).1, out_le he.nlo he.nhi ?_⟩
          have := he.lo_a; have := he.hi_a; omega
        · exact ⟨_, _, quiet_of (nan3 _ _ _ _ _ _ _ _) ⟨(fc _ rfl _ _).trans x1, (fc _ rfl _ _).trans x2, (fc _ rfl _ _).trans x3, (fc _ rfl _ _).trans y1, (fc _ rfl _ _).trans (lss_ix hb ha), (fc _ rfl _ _).trans (gtr_ix hb ha), (fc _ rfl _ _).trans z1, (fc _ rfl _ _).trans (lss_ix hc s1), (fc _ rfl _ _).trans (gtr_ix hc v1), (fc _ rfl _ _).trans nan_neq, trivial⟩ rfl rfl, all⟩
      · exact ⟨_, _, quiet_of (nan2 _ _ _ _ _ _) ⟨(fc _ rfl _ _).trans x1, (fc _ rfl _ _).trans x2, (fc _ rfl _ _).trans x3, (fc _ rfl _ _).trans y1, (fc _ rfl _ _).trans (lss_ix hb ha), (fc _ rfl _ _).trans (gtr_ix hb ha), (fc _ rfl _ _).trans nan_neq, trivial⟩ rfl rfl, all⟩
    · exact ⟨_, _, quiet_of (nan1 _ _ _ _) ⟨(fc _ rfl _ _).trans x1, (fc _ rfl _ _).trans x2, (fc _ rfl _ _).trans x3, (fc _ rfl _ _).trans nan_neq, trivial⟩ rfl rfl, all⟩
  · exact ⟨_, _, quiet_of (nan0 _ _ _ _) ⟨(fc _ rfl _ _).trans nan_neq, trivial⟩ rfl rfl, all⟩

theorem mul_any (a b c e : Nat) : ∃ p q, Runs Try.prog 74 #[fl2 a b, fl2 c e] #[] (fl2 p q) #[] ∧ NN p ∧ NN q ∧ ix p ≤ ix q := by
  have h := fun x y => fop_nan (op := .mul) (x := x) (y := y) (.inr (.inr (.inl rfl)))
  obtain ⟨p, q, hr, hn⟩ := span_any (h a c) (h a e) (h b c) (h b e)
  exact ⟨p, q, mul_runs hr, hn⟩
theorem div_any (a b : Nat) {c e : Nat} (hc : NN c) (he : NN e) : ∃ p q, Runs Try.prog 75 #[fl2 a b, fl2 c e] #[] (fl2 p q) #[] ∧ NN p ∧ NN q ∧ ix p ≤ ix q := by
  have h := fun x y => fop_nan (op := .quo) (x := x) (y := y) (.inr (.inr (.inr rfl)))
  obtain ⟨p, q, hr, hn⟩ := span_any (h a c) (h a e) (h b c) (h b e)
  by_cases hi : 0 < ix c ∨ ix e < 0
  · exact ⟨p, q, div_runs (in_no nn_zero.1 hc he (by rw [nn_zero.2]; exact hi)) hr, hn⟩
  · exact ⟨ninf, pinf, div_zero (in_yes nn_zero.1 hc he (by rw [nn_zero.2]; omega) (by rw [nn_zero.2]; omega)), ninf_nn.1, pinf_nn.1, by decide⟩

end Go.Proofs.Ytdlinjijccnaeaa

/-!  StepRef / IvRef / IvBoth: several texts in one. -/
/-!  What the document's own functions for the float below and the float above return. -/
namespace Go.Proofs.Ytdlinjijccnaeaa
open Go
set_option linter.unusedVariables false
set_option maxRecDepth 100000

theorem down_posR {x : Nat} (h : Fin x) (h0 : 0 < key x) : Runs Try.prog 82 #[.float .f64 x] #[] (.float .f64 (IntKind.u64.wrap ((x : Int) - 1)).toNat) #[] := by
  have hk := nObls_ok h (by omega)
  rw [decide_eq_true h0] at hk
  exact askN_runs (ask := askX) (askC := fltC) (d := 12) (s := [yes false, yes false, yes false, yes false, yes false, yes true, isU x]) (l := nObls x true) (by kernel_rfl) hk
theorem down_negR {x : Nat} (h : Fin x) (h0 : key x < 0) : Runs Try.prog 82 #[.float .f64 x] #[] (.float .f64 (IntKind.u64.wrap ((x : Int) + 1)).toNat) #[] := by
  have hk := nObls_ok h (by omega)
  rw [decide_eq_false (by omega)] at hk
  exact askN_runs (ask := askX) (askC := fltC) (d := 12) (s := [yes false, yes false, yes false, yes false, yes false, yes false, isU x]) (l := nObls x false) (by kernel_rfl) hk
theorem up_posR {x : Nat} (h : Fin x) (h0 : 0 < key x) : Runs Try.prog 45 #[.float .f64 x] #[] (.float .f64 (IntKind.u64.wrap ((x : Int) + 1)).toNat) #[] := by
  have hk := uObls_ok h (by omega)
  rw [decide_eq_true h0] at hk
  exact askN_runs (ask := askX) (askC := fltC) (d := 12) (s := [yes false, yes false, yes false, yes false, yes true, yes true, isU x]) (l := uObls x true) (by kernel_rfl) hk
theorem up_negR {x : Nat} (h : Fin x) (h0 : key x < 0) : Runs Try.prog 45 #[.float .f64 x] #[] (.float .f64 (IntKind.u64.wrap ((x : Int) - 1)).toNat) #[] := by
  have hk := uObls_ok h (by omega)
  rw [decide_eq_false (by omega)] at hk
  exact askN_runs (ask := askX) (askC := fltC) (d := 12) (s := [yes false, yes false, yes false, yes false, yes true, yes false, isU x]) (l := uObls x false) (by kernel_rfl) hk
theorem down_zeroR {x : Nat} (h : Fin x) (h0 : key x = 0) : Runs Try.prog 82 #[.float .f64 x] #[] (.float .f64 9223372036854775809) #[] :=
  askN_runs (ask := askX) (askC := fltC) (d := 12) (s := [yes false, yes false, yes false, yes true, isU 1, isU 18442240474082181120])
    (l := [.cmp .neq 27 (.float .f64 x) (.float .f64 x) false, .cmp .neq 27 (.float .f64 18442240474082181120) (.float .f64 18442240474082181120) false, .cmp .eql 27 (.float .f64 x) (.float .f64 18442240474082181120) false, .cmp .eql 27 (.float .f64 x) (.float .f64 0) true,
      .row (orcD 12).row 87 #[.float .f64 1] (.int .u64 (Int.ofNat 1)), .row (orcD 12).row 87 #[.float .f64 18442240474082181120] (.int .u64 (Int.ofNat 18442240474082181120))]) (by kernel_rfl)
    ⟨cmp_self h, ninf_self, (fc _ rfl _ _).trans (eql_ninf h), (fc _ rfl _ _).trans (eql_zero h h0), (by kernel_rfl : (orcD 12).row 87 #[.float .f64 1] = some (.int .u64 (Int.ofNat 1))), (by kernel_rfl : (orcD 12).row 87 #[.float .f64 18442240474082181120] = some (.int .u64 (Int.ofNat 18442240474082181120))), trivial⟩
theorem up_zeroR {x : Nat} (h : Fin x) (h0 : key x = 0) : Runs Try.prog 45 #[.float .f64 x] #[] (.float .f64 1) #[] :=
  askN_runs (ask := askX) (askC := fltC) (d := 12) (s := [yes false, yes false, yes false, yes true, isU 1, isU 9218868437227405312])
    (l := [.cmp .neq 27 (.float .f64 x) (.float .f64 x) false, .cmp .neq 27 (.float .f64 9218868437227405312) (.float .f64 9218868437227405312) false, .cmp .eql 27 (.float .f64 x) (.float .f64 9218868437227405312) false, .cmp .eql 27 (.float .f64 x) (.float .f64 0) true,
      .row (orcD 12).row 87 #[.float .f64 1] (.int .u64 (Int.ofNat 1)), .row (orcD 12).row 87 #[.float .f64 9218868437227405312] (.int .u64 (Int.ofNat 9218868437227405312))]) (by kernel_rfl)
    ⟨cmp_self h, pinf_self, (fc _ rfl _ _).trans (cmps_up h).1, (fc _ rfl _ _).trans (eql_zero h h0), (by kernel_rfl : (orcD 12).row 87 #[.float .f64 1] = some (.int .u64 (Int.ofNat 1))), (by kernel_rfl : (orcD 12).row 87 #[.float .f64 9218868437227405312] = some (.int .u64 (Int.ofNat 9218868437227405312))), trivial⟩
theorem down_infR : Runs Try.prog 82 #[.float .f64 9218868437227405312] #[] (.float .f64 9218868437227405311) #[] := callD_runs (d := 12) (by kernel_rfl)
theorem down_ninfR : Runs Try.prog 82 #[.float .f64 18442240474082181120] #[] (.float .f64 18442240474082181120) #[] := callD_runs (d := 12) (by kernel_rfl)
theorem up_infR : Runs Try.prog 45 #[.float .f64 9218868437227405312] #[] (.float .f64 9218868437227405312) #[] := callD_runs (d := 12) (by kernel_rfl)
theorem up_ninfR : Runs Try.prog 45 #[.float .f64 18442240474082181120] #[] (.float .f64 18442240474082181119) #[] := callD_runs (d := 12) (by kernel_rfl)
theorem down_runsR {x : Nat} (h : NN x) : Runs Try.prog 82 #[.float .f64 x] #[] (.float .f64 (dn x)) #[] := by
  by_cases hf : Fi x
  · obtain ⟨k1, k2⟩ := fi_key hf
    obtain ⟨h1, h2, h3⟩ := hf
    unfold dn
    rw [if_neg (by omega)]
    rcases Int.lt_trichotomy (ix x) 0 with c | c | c
    · have := down_negR k1 (by rw [k2]; exact kv_neg.2 c)
      have c3 : ¬ x < 9223372036854775808 := fun h => by rw [ix_pos h] at c; omega
      rw [if_neg (by omega), if_neg c3]
      rw [ix_neg c3] at *
      rw [wrap_u64 (by omega) (by omega)] at this
      have e : ((x : Int) + 1).toNat = x + 1 := by omega
      rw [e] at this
      exact this
    · rw [if_pos c]
      exact down_zeroR k1 (by rw [k2]; unfold kv; rw [c]; rfl)
    · have := down_posR k1 (by rw [k2]; exact kv_pos.2 c)
      have c3 : x < 9223372036854775808 := by
        rcases Nat.lt_or_ge x 9223372036854775808 with h | h
        · exact h
        · rw [ix_neg (by omega)] at c; omega
      rw [if_neg (by omega), if_pos c3]
      rw [ix_pos c3] at *
      rw [wrap_u64 (by omega) (by omega)] at this
      have e : ((x : Int) - 1).toNat = x - 1 := by omega
      rw [e] at this
      exact this
  · rcases read_inf h hf with ⟨rfl, e⟩ | ⟨rfl, e⟩
    · exact down_infR
    · exact down_ninfR
theorem up_runsR {x : Nat} (h : NN x) : Runs Try.prog 45 #[.float .f64 x] #[] (.float .f64 (up x)) #[] := by
  by_cases hf : Fi x
  · obtain ⟨k1, k2⟩ := fi_key hf
    obtain ⟨h1, h2, h3⟩ := hf
    unfold up
    rw [if_neg (by omega)]
    rcases Int.lt_trichotomy (ix x) 0 with c | c | c
    · have := up_negR k1 (by rw [k2]; exact kv_neg.2 c)
      have c3 : ¬ x < 9223372036854775808 := fun h => by rw [ix_pos h] at c; omega
      rw [if_neg (by omega), if_neg c3]
      rw [ix_neg c3] at *
      rw [wrap_u64 (by omega) (by omega)] at this
      have e : ((x : Int) - 1).toNat = x - 1 := by omega
      rw [e] at this
      exact this
    · rw [if_pos c]
      exact up_zeroR k1 (by rw [k2]; unfold kv; rw [c]; rfl)
    · have := up_posR k1 (by rw [k2]; exact kv_pos.2 c)
      have c3 : x < 9223372036854775808 := by
        rcases Nat.lt_or_ge x 9223372036854775808 with h | h
        · exact h
        · rw [ix_neg (by omega)] at c; omega
      rw [if_neg (by omega), if_pos c3]
      rw [ix_pos c3] at *
      rw [wrap_u64 (by omega) (by omega)] at this
      have e : ((x : Int) + 1).toNat = x + 1 := by omega
      rw [e] at this
      exact this
  · rcases read_inf h hf with ⟨rfl, e⟩ | ⟨rfl, e⟩
    · exact up_infR
    · exact up_ninfR
theorem down_nanR : Runs Try.prog 82 #[.float .f64 (nanW .f64)] #[] (.float .f64 nanN) #[] := callD_runs (d := 12) (by kernel_rfl)
theorem up_nanR : Runs Try.prog 45 #[.float .f64 (nanW .f64)] #[] (.float .f64 nanN) #[] := callD_runs (d := 12) (by kernel_rfl)
theorem down_anyR {x : Nat} (h : NaNor x) : ∃ y, Runs Try.prog 82 #[.float .f64 x] #[] (.float .f64 y) #[] ∧ ((NN x ∧ y = dn x) ∨ (y = nanN)) := by
  rcases h with h | h
  · exact ⟨_, down_runsR h, .inl ⟨h, rfl⟩⟩
  · subst h; exact ⟨_, down_nanR, .inr rfl⟩
theorem up_anyR {x : Nat} (h : NaNor x) : ∃ y, Runs Try.prog 45 #[.float .f64 x] #[] (.float .f64 y) #[] ∧ ((NN x ∧ y = up x) ∨ (y = nanN)) := by
  rcases h with h | h
  · exact ⟨_, up_runsR h, .inl ⟨h, rfl⟩⟩
  · subst h; exact ⟨_, up_nanR, .inr rfl⟩

end Go.Proofs.Ytdlinjijccnaeaa

/-!  What the document's own functions of from-tos return. -/
namespace Go.Proofs.Ytdlinjijccnaeaa
open Go
set_option linter.unusedVariables false
set_option linter.unusedSimpArgs false
set_option maxRecDepth 100000

noncomputable def askIR (f : FuncId) : Nat := if f == 82 || f == 45 then 1 else if f == 87 || f == 63 then 0 else 2
def downOR (x d : Nat) : Obl := .run 82 #[.float .f64 x] #[] (.float .f64 d) #[]
def upOR (x d : Nat) : Obl := .run 45 #[.float .f64 x] #[] (.float .f64 d) #[]
theorem add_runsR {a b c e d u : Nat} (hd : Runs Try.prog 82 #[.float .f64 (fop .add .f64 a c)] #[] (.float .f64 d) #[]) (hu : Runs Try.prog 45 #[.float .f64 (fop .add .f64 b e)] #[] (.float .f64 u) #[])
    (hle : fcmp .leq .f64 d u = some true) : Runs Try.prog 51 #[ivV a b, ivV c e] #[] (ivV d u) #[] :=
  quiet_of (ask := askIR) (s := [isF d, isF u, yes true]) (l := [downOR (fop .add .f64 a c) d, upOR (fop .add .f64 b e) u, cmpO .leq d u true]) (by kernel_rfl) ⟨hd, hu, (fc _ rfl _ _).trans hle, trivial⟩ rfl rfl
theorem sub_runsR {a b c e d u : Nat} (hd : Runs Try.prog 82 #[.float .f64 (fop .sub .f64 a e)] #[] (.float .f64 d) #[]) (hu : Runs Try.prog 45 #[.float .f64 (fop .sub .f64 b c)] #[] (.float .f64 u) #[])
    (hle : fcmp .leq .f64 d u = some true) : Runs Try.prog 52 #[ivV a b, ivV c e] #[] (ivV d u) #[] :=
  quiet_of (ask := askIR) (s := [isF d, isF u, yes true]) (l := [downOR (fop .sub .f64 a e) d, upOR (fop .sub .f64 b c) u, cmpO .leq d u true]) (by kernel_rfl) ⟨hd, hu, (fc _ rfl _ _).trans hle, trivial⟩ rfl rfl
theorem in_runsR {x a b : Nat} (h1 : fcmp .leq .f64 a x = some true) (h2 : fcmp .leq .f64 x b = some true) : Runs Try.prog 21 #[.float .f64 x, ivV a b] #[] (.bool true) #[] :=
  quiet_of (ask := askIR) (s := [yes true, yes true]) (l := [cmpO .leq a x true, cmpO .leq x b true]) (by kernel_rfl) ⟨(fc _ rfl _ _).trans h1, (fc _ rfl _ _).trans h2, trivial⟩ rfl rfl
def spanLR (a b c d u v : Nat) (c1 d1 c2 d2 c3 d3 : Bool) : List Obl := [cmpO .neq a a false, cmpO .lss a a false, cmpO .gtr a a false, cmpO .neq b b false, cmpO .lss b a c1, cmpO .gtr b a d1, cmpO .neq c c false, cmpO .lss c (sel c1 b a) c2, cmpO .gtr c (sel d1 b a) d2, cmpO .neq d d false, cmpO .lss d (sel c2 c (sel c1 b a)) c3, cmpO .gtr d (sel d2 c (sel d1 b a)) d3,
      downOR (sel c3 d (sel c2 c (sel c1 b a))) u, upOR (sel d3 d (sel d2 c (sel d1 b a))) v, cmpO .leq u v true]
theorem span_cameR (a b c d u v : Nat) (c1 d1 c2 d2 c3 d3 : Bool) :
    (askN askIR fltC 12 83 #[.agg #[.float .f64 a, .float .f64 b, .float .f64 c, .float .f64 d]] #[] (spanS u v c1 d1 c2 d2 c3 d3)).map (fun r => (r.1, r.2.2)) = some (ivV u v, spanLR a b c d u v c1 d1 c2 d2 c3 d3) := by
  cases c1 <;> cases d1 <;> cases c2 <;> cases d2 <;> cases c3 <;> cases d3 <;> kernel_rfl
theorem span_bitsR (a b c d u v : Nat) (c1 d1 c2 d2 c3 d3 : Bool) (na : fcmp .neq .f64 a a = some false) (nb : fcmp .neq .f64 b b = some false) (nc : fcmp .neq .f64 c c = some false) (nd : fcmp .neq .f64 d d = some false)
    (l0 : fcmp .lss .f64 a a = some false) (g0 : fcmp .gtr .f64 a a = some false) (l1 : fcmp .lss .f64 b a = some c1) (g1 : fcmp .gtr .f64 b a = some d1)
    (l2 : fcmp .lss .f64 c (sel c1 b a) = some c2) (g2 : fcmp .gtr .f64 c (sel d1 b a) = some d2) (l3 : fcmp .lss .f64 d (sel c2 c (sel c1 b a)) = some c3) (g3 : fcmp .gtr .f64 d (sel d2 c (sel d1 b a)) = some d3)
    (hd : Runs Try.prog 82 #[.float .f64 (sel c3 d (sel c2 c (sel c1 b a)))] #[] (.float .f64 u) #[]) (hu : Runs Try.prog 45 #[.float .f64 (sel d3 d (sel d2 c (sel d1 b a)))] #[] (.float .f64 v) #[])
    (hle : fcmp .leq .f64 u v = some true) : Runs Try.prog 83 #[.agg #[.float .f64 a, .float .f64 b, .float .f64 c, .float .f64 d]] #[] (ivV u v) #[] :=
  quiet_of (span_cameR a b c d u v c1 d1 c2 d2 c3 d3)
    ⟨(fc _ rfl _ _).trans na, (fc _ rfl _ _).trans l0, (fc _ rfl _ _).trans g0, (fc _ rfl _ _).trans nb, (fc _ rfl _ _).trans l1, (fc _ rfl _ _).trans g1, (fc _ rfl _ _).trans nc, (fc _ rfl _ _).trans l2, (fc _ rfl _ _).trans g2, (fc _ rfl _ _).trans nd, (fc _ rfl _ _).trans l3, (fc _ rfl _ _).trans g3, hd, hu, (fc _ rfl _ _).trans hle, trivial⟩ rfl rfl
theorem span_runsR {a b c d : Nat} (ha : NN a) (hb : NN b) (hc : NN c) (hd : NN d) :
    ∃ lo hi, Ends a b c d lo hi ∧ Runs Try.prog 83 #[.agg #[.float .f64 a, .float .f64 b, .float .f64 c, .float .f64 d]] #[] (ivV (dn lo) (up hi)) #[] := by
  obtain ⟨s1, s2, s3, s4⟩ := sel_lo hb ha rfl
  obtain ⟨t1, t2, t3, t4⟩ := sel_lo hc s1 rfl
  obtain ⟨u1, u2, u3, u4⟩ := sel_lo hd t1 rfl
  obtain ⟨v1, v2, v3, v4⟩ := sel_hi hb ha rfl
  obtain ⟨w1, w2, w3, w4⟩ := sel_hi hc v1 rfl
  obtain ⟨x1, x2, x3, x4⟩ := sel_hi hd w1 rfl
  refine ⟨_, _, ⟨u1, x1, by omega, by omega, by omega, by omega, by omega, by omega, by omega, by omega, ?_, ?_⟩,
    span_bitsR a b c d _ _ _ _ _ _ _ _ (nn_self ha).1 (nn_self hb).1 (nn_self hc).1 (nn_self hd).1 (nn_self ha).2.1 (nn_self ha).2.2 (lss_ix hb ha) (gtr_ix hb ha) (lss_ix hc s1) (gtr_ix hc v1) (lss_ix hd t1) (gtr_ix hd w1) (down_runsR u1) (up_runsR x1)
      ((leq_ix (dn_ix u1).1 (up_ix x1).1).trans (congrArg some (decide_eq_true (out_le u1 x1 (by omega)))))⟩
  · rcases u4 with h | h
    · exact .inr (.inr (.inr h))
    · rw [h]; rcases t4 with h | h
      · exact .inr (.inr (.inl h))
      · rw [h]; rcases s4 with h | h
        · exact .inr (.inl h)
        · exact .inl h
  · rcases x4 with h | h
    · exact .inr (.inr (.inr h))
    · rw [h]; rcases w4 with h | h
      · exact .inr (.inr (.inl h))
      · rw [h]; rcases v4 with h | h
        · exact .inr (.inl h)
        · exact .inl h
noncomputable def askMR (f : FuncId) : Nat := if f == 83 || f == 84 then 1 else if f == 87 || f == 63 then 0 else 2
theorem mul_runsR {a b c e u v : Nat} (h : Runs Try.prog 83 #[.agg #[.float .f64 (fop .mul .f64 a c), .float .f64 (fop .mul .f64 a e), .float .f64 (fop .mul .f64 b c), .float .f64 (fop .mul .f64 b e)]] #[] (ivV u v) #[]) :
    Runs Try.prog 53 #[ivV a b, ivV c e] #[] (ivV u v) #[] :=
  quiet_of (ask := askMR) (s := [isV (ivV u v)]) (l := [.run 83 #[.agg #[.float .f64 (fop .mul .f64 a c), .float .f64 (fop .mul .f64 a e), .float .f64 (fop .mul .f64 b c), .float .f64 (fop .mul .f64 b e)]] #[] (ivV u v) #[]]) (by kernel_rfl) ⟨h, trivial⟩ rfl rfl
theorem div_runsR {a b c e u v : Nat} (hi : Runs Try.prog 84 #[ivV c e] #[] (.bool false) #[])
    (h : Runs Try.prog 83 #[.agg #[.float .f64 (fop .quo .f64 a c), .float .f64 (fop .quo .f64 a e), .float .f64 (fop .quo .f64 b c), .float .f64 (fop .quo .f64 b e)]] #[] (ivV u v) #[]) :
    Runs Try.prog 54 #[ivV a b, ivV c e] #[] (ivV u v) #[] :=
  quiet_of (ask := askMR) (s := [yes false, isV (ivV u v)]) (l := [.run 84 #[ivV c e] #[] (.bool false) #[], .run 83 #[.agg #[.float .f64 (fop .quo .f64 a c), .float .f64 (fop .quo .f64 a e), .float .f64 (fop .quo .f64 b c), .float .f64 (fop .quo .f64 b e)]] #[] (ivV u v) #[]]) (by kernel_rfl) ⟨hi, h, trivial⟩ rfl rfl
theorem div_zeroR {a b c e : Nat} (hi : Runs Try.prog 84 #[ivV c e] #[] (.bool true) #[]) : Runs Try.prog 54 #[ivV a b, ivV c e] #[] wholeV #[] :=
  quiet_of (ask := askMR) (s := [yes true]) (l := [.run 84 #[ivV c e] #[] (.bool true) #[]]) (by kernel_rfl) ⟨hi, trivial⟩ rfl rfl
theorem in_yesR {x a b : Nat} (hx : NN x) (ha : NN a) (hb : NN b) (h1 : ix a ≤ ix x) (h2 : ix x ≤ ix b) : Runs Try.prog 21 #[.float .f64 x, ivV a b] #[] (.bool true) #[] :=
  in_runsR ((leq_ix ha hx).trans (congrArg some (decide_eq_true h1))) ((leq_ix hx hb).trans (congrArg some (decide_eq_true h2)))
theorem in_noR {x a b : Nat} (hx : NN x) (ha : NN a) (hb : NN b) (h : ix x < ix a ∨ ix b < ix x) : Runs Try.prog 21 #[.float .f64 x, ivV a b] #[] (.bool false) #[] := by
  by_cases h1 : ix a ≤ ix x
  · exact quiet_of (ask := askIR) (s := [yes true, yes false]) (l := [cmpO .leq a x true, cmpO .leq x b false]) (by kernel_rfl) ⟨(fc _ rfl _ _).trans ((leq_ix ha hx).trans (congrArg some (decide_eq_true h1))), (fc _ rfl _ _).trans ((leq_ix hx hb).trans (congrArg some (decide_eq_false (by omega)))), trivial⟩ rfl rfl
  · exact quiet_of (ask := askIR) (s := [yes false]) (l := [cmpO .leq a x false]) (by kernel_rfl) ⟨(fc _ rfl _ _).trans ((leq_ix ha hx).trans (congrArg some (decide_eq_false h1))), trivial⟩ rfl rfl
/-- How two ends, one further out each, are told. -/
theorem out_anyR {x y : Nat} (hx : NaNor x) (hy : NaNor y) : ∃ u v, Runs Try.prog 82 #[.float .f64 x] #[] (.float .f64 u) #[] ∧ Runs Try.prog 45 #[.float .f64 y] #[] (.float .f64 v) #[] ∧
    ((fcmp .leq .f64 u v = some true ∧ Told x y u v) ∨ fcmp .leq .f64 u v = some false) := by
  obtain ⟨u, hu, cu⟩ := down_anyR hx
  obtain ⟨v, hv, cv⟩ := up_anyR hy
  refine ⟨u, v, hu, hv, ?_⟩
  rcases cu with ⟨nx, rfl⟩ | rfl
  · rcases cv with ⟨ny, rfl⟩ | rfl
    · have d := (dn_ix nx).1
      have e := (up_ix ny).1
      rw [leq_ix d e]
      by_cases h : ix (dn x) ≤ ix (up y)
      · exact .inl ⟨congrArg some (decide_eq_true h), d, e, h, .inl ⟨nx, ny, rfl, rfl⟩⟩
      · exact .inr (congrArg some (decide_eq_false h))
    · exact .inr (nan_leq _).2
  · exact .inr (nan_leq _).1
theorem add_allR {a b c e d u : Nat} (hd : Runs Try.prog 82 #[.float .f64 (fop .add .f64 a c)] #[] (.float .f64 d) #[]) (hu : Runs Try.prog 45 #[.float .f64 (fop .add .f64 b e)] #[] (.float .f64 u) #[])
    (hle : fcmp .leq .f64 d u = some false) : Runs Try.prog 51 #[fl2 a b, fl2 c e] #[] (fl2 ninf pinf) #[] :=
  quiet_of (ask := askIR) (s := [isF d, isF u, yes false]) (l := [downOR (fop .add .f64 a c) d, upOR (fop .add .f64 b e) u, cmpO .leq d u false]) (by kernel_rfl) ⟨hd, hu, (fc _ rfl _ _).trans hle, trivial⟩ rfl rfl
theorem sub_allR {a b c e d u : Nat} (hd : Runs Try.prog 82 #[.float .f64 (fop .sub .f64 a e)] #[] (.float .f64 d) #[]) (hu : Runs Try.prog 45 #[.float .f64 (fop .sub .f64 b c)] #[] (.float .f64 u) #[])
    (hle : fcmp .leq .f64 d u = some false) : Runs Try.prog 52 #[fl2 a b, fl2 c e] #[] (fl2 ninf pinf) #[] :=
  quiet_of (ask := askIR) (s := [isF d, isF u, yes false]) (l := [downOR (fop .sub .f64 a e) d, upOR (fop .sub .f64 b c) u, cmpO .leq d u false]) (by kernel_rfl) ⟨hd, hu, (fc _ rfl _ _).trans hle, trivial⟩ rfl rfl
theorem nan0R (a b c d : Nat) : (askN askIR fltC 12 83 #[a4 a b c d] #[] [yes true]).map (fun r => (r.1, r.2.2)) = some (fl2 ninf pinf, [cmpO .neq a a true]) := by kernel_rfl
theorem nan1R (a b c d : Nat) : (askN askIR fltC 12 83 #[a4 a b c d] #[] [yes false, yes false, yes false, yes true]).map (fun r => (r.1, r.2.2)) = some (fl2 ninf pinf, [cmpO .neq a a false, cmpO .lss a a false, cmpO .gtr a a false, cmpO .neq b b true]) := by kernel_rfl
theorem nan2R (a b c d : Nat) (c1 d1 : Bool) : (askN askIR fltC 12 83 #[a4 a b c d] #[] [yes false, yes false, yes false, yes false, yes c1, yes d1, yes true]).map (fun r => (r.1, r.2.2)) = some (fl2 ninf pinf, [cmpO .neq a a false, cmpO .lss a a false, cmpO .gtr a a false, cmpO .neq b b false, cmpO .lss b a c1, cmpO .gtr b a d1, cmpO .neq c c true]) := by
  cases c1 <;> cases d1 <;> kernel_rfl
theorem nan3R (a b c d : Nat) (c1 d1 c2 d2 : Bool) : (askN askIR fltC 12 83 #[a4 a b c d] #[] [yes false, yes false, yes false, yes false, yes c1, yes d1, yes false, yes c2, yes d2, yes true]).map (fun r => (r.1, r.2.2)) =
    some (fl2 ninf pinf, [cmpO .neq a a false, cmpO .lss a a false, cmpO .gtr a a false, cmpO .neq b b false, cmpO .lss b a c1, cmpO .gtr b a d1, cmpO .neq c c false, cmpO .lss c (sel c1 b a) c2, cmpO .gtr c (sel d1 b a) d2, cmpO .neq d d true]) := by
  cases c1 <;> cases d1 <;> cases c2 <;> cases d2 <;> kernel_rfl

end Go.Proofs.Ytdlinjijccnaeaa

/-!  iv and the document tell the same of all from-tos. -/
namespace Go.Proofs.Ytdlinjijccnaeaa
open Go
set_option linter.unusedVariables false
set_option linter.unusedSimpArgs false
set_option maxRecDepth 100000

theorem down_both {x : Nat} (h : NaNor x) : ∃ y, Runs Try.prog 99 #[.float .f64 x] #[] (.float .f64 y) #[] ∧ Runs Try.prog 82 #[.float .f64 x] #[] (.float .f64 y) #[] ∧ ((NN x ∧ y = dn x) ∨ y = nanN) := by
  rcases h with h | rfl
  · exact ⟨_, down_runs h, down_runsR h, .inl ⟨h, rfl⟩⟩
  · exact ⟨_, down_nan, down_nanR, .inr rfl⟩
theorem up_both {x : Nat} (h : NaNor x) : ∃ y, Runs Try.prog 34 #[.float .f64 x] #[] (.float .f64 y) #[] ∧ Runs Try.prog 45 #[.float .f64 x] #[] (.float .f64 y) #[] ∧ ((NN x ∧ y = up x) ∨ y = nanN) := by
  rcases h with h | rfl
  · exact ⟨_, up_runs h, up_runsR h, .inl ⟨h, rfl⟩⟩
  · exact ⟨_, up_nan, up_nanR, .inr rfl⟩
theorem out_both {x y : Nat} (hx : NaNor x) (hy : NaNor y) : ∃ u v, Runs Try.prog 99 #[.float .f64 x] #[] (.float .f64 u) #[] ∧ Runs Try.prog 82 #[.float .f64 x] #[] (.float .f64 u) #[] ∧
    Runs Try.prog 34 #[.float .f64 y] #[] (.float .f64 v) #[] ∧ Runs Try.prog 45 #[.float .f64 y] #[] (.float .f64 v) #[] ∧
    ((fcmp .leq .f64 u v = some true ∧ NN u ∧ NN v ∧ ix u ≤ ix v) ∨ fcmp .leq .f64 u v = some false) := by
  obtain ⟨u, hu, hu', cu⟩ := down_both hx
  obtain ⟨v, hv, hv', cv⟩ := up_both hy
  refine ⟨u, v, hu, hu', hv, hv', ?_⟩
  rcases cu with ⟨nx, rfl⟩ | rfl
  · rcases cv with ⟨ny, rfl⟩ | rfl
    · have d := (dn_ix nx).1
      have e := (up_ix ny).1
      rw [leq_ix d e]
      by_cases h : ix (dn x) ≤ ix (up y)
      · exact .inl ⟨congrArg some (decide_eq_true h), d, e, h⟩
      · exact .inr (congrArg some (decide_eq_false h))
    · exact .inr (nan_leq _).2
  · exact .inr (nan_leq _).1

/-- Two functions tell the same, that is right. -/
def Both (f g : FuncId) (args : Array Value) : Prop := ∃ p q, Runs Try.prog f args #[] (fl2 p q) #[] ∧ Runs Try.prog g args #[] (fl2 p q) #[] ∧ NN p ∧ NN q ∧ ix p ≤ ix q

theorem all_nn : NN ninf ∧ NN pinf ∧ ix ninf ≤ ix pinf := ⟨ninf_nn.1, pinf_nn.1, by decide⟩

theorem add_both (a b c e : Nat) : Both 72 51 #[fl2 a b, fl2 c e] := by
  obtain ⟨u, v, h1, h2, h3, h4, h5⟩ := out_both (fop_nan (op := .add) (x := a) (y := c) (.inl rfl)) (fop_nan (op := .add) (x := b) (y := e) (.inl rfl))
  rcases h5 with ⟨h, hn⟩ | h
  · exact ⟨u, v, add_runs h1 h3 h, add_runsR h2 h4 h, hn⟩
  · exact ⟨_, _, add_all h1 h3 h, add_allR h2 h4 h, all_nn⟩
theorem sub_both (a b c e : Nat) : Both 73 52 #[fl2 a b, fl2 c e] := by
  obtain ⟨u, v, h1, h2, h3, h4, h5⟩ := out_both (fop_nan (op := .sub) (x := a) (y := e) (.inr (.inl rfl))) (fop_nan (op := .sub) (x := b) (y := c) (.inr (.inl rfl)))
  rcases h5 with ⟨h, hn⟩ | h
  · exact ⟨u, v, sub_runs h1 h3 h, sub_runsR h2 h4 h, hn⟩
  · exact ⟨_, _, sub_all h1 h3 h, sub_allR h2 h4 h, all_nn⟩

theorem span_both {a b c d : Nat} (ha : NaNor a) (hb : NaNor b) (hc : NaNor c) (hd : NaNor d) : Both 91 83 #[a4 a b c d] := by
  rcases ha with ha | rfl
  · obtain ⟨x1, x2, x3⟩ := nn_self ha
    rcases hb with hb | rfl
    · obtain ⟨y1, y2, y3⟩ := nn_self hb
      obtain ⟨s1, s2, s3, s4⟩ := sel_lo hb ha rfl
      obtain ⟨v1, v2, v3, v4⟩ := sel_hi hb ha rfl
      rcases hc with hc | rfl
      · obtain ⟨z1, z2, z3⟩ := nn_self hc
        obtain ⟨t1, t2, t3, t4⟩ := sel_lo hc s1 rfl
        obtain ⟨w1, w2, w3, w4⟩ := sel_hi hc v1 rfl
        rcases hd with hd | rfl
        · obtain ⟨u1, u2, u3, u4⟩ := sel_lo hd t1 rfl
          obtain ⟨k1, k2, k3, k4⟩ := sel_hi hd w1 rfl
          have hle := out_le u1 k1 (by omega)
          have hl := (leq_ix (dn_ix u1).1 (up_ix k1).1).trans (congrArg some (decide_eq_true hle))
          exact ⟨_, _, span_bits a b c d _ _ _ _ _ _ _ _ x1 y1 z1 (nn_self hd).1 x2 x3 (lss_ix hb ha) (gtr_ix hb ha) (lss_ix hc s1) (gtr_ix hc v1) (lss_ix hd t1) (gtr_ix hd w1) (down_runs u1) (up_runs k1) hl,
            span_bitsR a b c d _ _ _ _ _ _ _ _ x1 y1 z1 (nn_self hd).1 x2 x3 (lss_ix hb ha) (gtr_ix hb ha) (lss_ix hc s1) (gtr_ix hc v1) (lss_ix hd t1) (gtr_ix hd w1) (down_runsR u1) (up_runsR k1) hl, (dn_ix u1).1, (up_ix k1).1, hle⟩
        · have ob : okAll Try.prog [cmpO .neq a a false, cmpO .lss a a false, cmpO .gtr a a false, cmpO .neq b b false, cmpO .lss b a _, cmpO .gtr b a _, cmpO .neq c c false, cmpO .lss c (sel _ b a) _, cmpO .gtr c (sel _ b a) _, cmpO .neq (nanW .f64) (nanW .f64) true] :=
            ⟨(fc _ rfl _ _).trans x1, (fc _ rfl _ _).trans x2, (fc _ rfl _ _).trans x3, (fc _ rfl _ _).trans y1, (fc _ rfl _ _).trans (lss_ix hb ha), (fc _ rfl _ _).trans (gtr_ix hb ha), (fc _ rfl _ _).trans z1, (fc _ rfl _ _).trans (lss_ix hc s1), (fc _ rfl _ _).trans (gtr_ix hc v1), (fc _ rfl _ _).trans nan_neq, trivial⟩
          exact ⟨_, _, quiet_of (nan3 _ _ _ _ _ _ _ _) ob rfl rfl, quiet_of (nan3R _ _ _ _ _ _ _ _) ob rfl rfl, all_nn⟩
      · have ob : okAll Try.prog [cmpO .neq a a false, cmpO .lss a a false, cmpO .gtr a a false, cmpO .neq b b false, cmpO .lss b a _, cmpO .gtr b a _, cmpO .neq (nanW .f64) (nanW .f64) true] :=
          ⟨(fc _ rfl _ _).trans x1, (fc _ rfl _ _).trans x2, (fc _ rfl _ _).trans x3, (fc _ rfl _ _).trans y1, (fc _ rfl _ _).trans (lss_ix hb ha), (fc _ rfl _ _).trans (gtr_ix hb ha), (fc _ rfl _ _).trans nan_neq, trivial⟩
        exact ⟨_, _, quiet_of (nan2 _ _ _ _ _ _) ob rfl rfl, quiet_of (nan2R _ _ _ _ _ _) ob rfl rfl, all_nn⟩
    · have ob : okAll Try.prog [cmpO .neq a a false, cmpO .lss a a false, cmpO .gtr a a false, cmpO .neq (nanW .f64) (nanW .f64) true] :=
        ⟨(fc _ rfl _ _).trans x1, (fc _ rfl _ _).trans x2, (fc _ rfl _ _).trans x3, (fc _ rfl _ _).trans nan_neq, trivial⟩
      exact ⟨_, _, quiet_of (nan1 _ _ _ _) ob rfl rfl, quiet_of (nan1R _ _ _ _) ob rfl rfl, all_nn⟩
  · have ob : okAll Try.prog [cmpO .neq (nanW .f64) (nanW .f64) true] := ⟨(fc _ rfl _ _).trans nan_neq, trivial⟩
    exact ⟨_, _, quiet_of (nan0 _ _ _ _) ob rfl rfl, quiet_of (nan0R _ _ _ _) ob rfl rfl, all_nn⟩

theorem mul_both (a b c e : Nat) : Both 74 53 #[fl2 a b, fl2 c e] := by
  have h := fun x y => fop_nan (op := .mul) (x := x) (y := y) (.inr (.inr (.inl rfl)))
  obtain ⟨p, q, h1, h2, hn⟩ := span_both (h a c) (h a e) (h b c) (h b e)
  exact ⟨p, q, mul_runs h1, mul_runsR h2, hn⟩

theorem holds_at {c e : Nat} {t : Bool} (hc : NN c) (he : NN e) (ht : t = decide (ix c ≤ 0 ∧ 0 ≤ ix e)) : Runs Try.prog 84 #[ivV c e] #[] (.bool t) #[] := by
  have q1 : fcmp .leq .f64 c 0 = some (decide (ix c ≤ 0)) := by have := leq_ix hc nn_zero.1; rw [nn_zero.2] at this; exact this
  have q2 : fcmp .leq .f64 0 e = some (decide (0 ≤ ix e)) := by have := leq_ix nn_zero.1 he; rw [nn_zero.2] at this; exact this
  by_cases h1 : ix c ≤ 0
  · by_cases h2 : 0 ≤ ix e
    · rw [decide_eq_true ⟨h1, h2⟩] at ht
      subst ht
      exact quiet_of (ask := noF) (s := [yes true, yes true]) (l := [cmpO .leq c 0 true, cmpO .leq 0 e true]) (by kernel_rfl) ⟨(fc _ rfl _ _).trans (q1.trans (congrArg some (decide_eq_true h1))), (fc _ rfl _ _).trans (q2.trans (congrArg some (decide_eq_true h2))), trivial⟩ rfl rfl
    · rw [decide_eq_false (fun h => h2 h.2)] at ht
      subst ht
      exact quiet_of (ask := noF) (s := [yes true, yes false]) (l := [cmpO .leq c 0 true, cmpO .leq 0 e false]) (by kernel_rfl) ⟨(fc _ rfl _ _).trans (q1.trans (congrArg some (decide_eq_true h1))), (fc _ rfl _ _).trans (q2.trans (congrArg some (decide_eq_false h2))), trivial⟩ rfl rfl
  · rw [decide_eq_false (fun h => h1 h.1)] at ht
    subst ht
    exact quiet_of (ask := noF) (s := [yes false]) (l := [cmpO .leq c 0 false]) (by kernel_rfl) ⟨(fc _ rfl _ _).trans (q1.trans (congrArg some (decide_eq_false h1))), trivial⟩ rfl rfl

theorem div_both (a b : Nat) {c e : Nat} (hc : NN c) (he : NN e) : Both 75 54 #[fl2 a b, fl2 c e] := by
  have h := fun x y => fop_nan (op := .quo) (x := x) (y := y) (.inr (.inr (.inr rfl)))
  by_cases hi : 0 < ix c ∨ ix e < 0
  · obtain ⟨p, q, h1, h2, hn⟩ := span_both (h a c) (h a e) (h b c) (h b e)
    exact ⟨p, q, div_runs (in_no nn_zero.1 hc he (by rw [nn_zero.2]; exact hi)) h1, div_runsR (holds_at hc he (decide_eq_false (by omega)).symm) h2, hn⟩
  · exact ⟨ninf, pinf, div_zero (in_yes nn_zero.1 hc he (by rw [nn_zero.2]; omega) (by rw [nn_zero.2]; omega)), div_zeroR (holds_at hc he (decide_eq_true (by omega)).symm), all_nn⟩

/-! the bound of e to the x -/
noncomputable def opQ (f : FuncId) (a b c d : Nat) (r : Nat × Nat) : Obl := .run f #[fl2 a b, fl2 c d] #[] (fl2 r.1 r.2) #[]
def aP (r : Nat × Nat) : Ans := isV (fl2 r.1 r.2)
noncomputable def sqL (f : FuncId) : List (Nat × Nat) → List Obl
  | r :: s :: l => opQ f r.1 r.2 r.1 r.2 s :: sqL f (s :: l)
  | _ => []

theorem Both.pair {f g : FuncId} {args : Array Value} (h : Both f g args) : ∃ r : Nat × Nat, Runs Try.prog f args #[] (fl2 r.1 r.2) #[] ∧ Runs Try.prog g args #[] (fl2 r.1 r.2) #[] ∧ NN r.1 ∧ NN r.2 ∧ ix r.1 ≤ ix r.2 := by
  obtain ⟨p, q, h⟩ := h
  exact ⟨(p, q), h⟩

theorem fcmp_some (op : BinOp) (h : op = .neq ∨ op = .geq ∨ op = .leq ∨ op = .eql) (x y : Nat) : ∃ t, fcmp op .f64 x y = some t := by
  rcases h with rfl | rfl | rfl | rfl <;> exact ⟨_, rfl⟩


end Go.Proofs.Ytdlinjijccnaeaa

/-!  What iv and the document tell of any two from-tos, as plain functions of the ends' words. -/
namespace Go.Proofs.Ytdlinjijccnaeaa
open Go
set_option linter.unusedVariables false
set_option linter.unusedSimpArgs false
set_option maxRecDepth 100000

abbrev P2 := Nat × Nat
def vI (X : P2) : Value := .agg #[.float .f64 X.1, .float .f64 X.2]
def isN (x : Nat) : Bool := decide (x < 18446744073709551616 ∧ -9218868437227405312 ≤ ix x ∧ ix x ≤ 9218868437227405312)
theorem isN_iff {x : Nat} : isN x = true ↔ NN x := by unfold isN NN; exact decide_eq_true_iff
theorem isN_nan : isN (nanW .f64) = false := by decide +kernel
def outP (s t : Nat) : P2 := bif isN s && isN t && decide (ix (dn s) ≤ ix (up t)) then (dn s, up t) else (ninf, pinf)
def loB (x y : Nat) : Nat := sel (decide (ix x < ix y)) x y
def hiB (x y : Nat) : Nat := sel (decide (ix y < ix x)) x y
def spanP (a b c d : Nat) : P2 := bif isN a && isN b && isN c && isN d then (dn (loB d (loB c (loB b a))), up (hiB d (hiB c (hiB b a)))) else (ninf, pinf)
def addP (X Y : P2) : P2 := outP (fop .add .f64 X.1 Y.1) (fop .add .f64 X.2 Y.2)
def subP (X Y : P2) : P2 := outP (fop .sub .f64 X.1 Y.2) (fop .sub .f64 X.2 Y.1)
def mulP (X Y : P2) : P2 := spanP (fop .mul .f64 X.1 Y.1) (fop .mul .f64 X.1 Y.2) (fop .mul .f64 X.2 Y.1) (fop .mul .f64 X.2 Y.2)
def divP (X Y : P2) : P2 := bif decide (ix Y.1 ≤ 0 ∧ 0 ≤ ix Y.2) then (ninf, pinf) else spanP (fop .quo .f64 X.1 Y.1) (fop .quo .f64 X.1 Y.2) (fop .quo .f64 X.2 Y.1) (fop .quo .f64 X.2 Y.2)

/-- Ends that are no NaN, in their order. -/
structure Rt (X : P2) : Prop where
  l : NN X.1
  h : NN X.2
  le : ix X.1 ≤ ix X.2
theorem rt_all : Rt (ninf, pinf) := ⟨all_nn.1, all_nn.2.1, all_nn.2.2⟩

theorem outP_told {s t : Nat} : Told s t (outP s t).1 (outP s t).2 := by
  unfold outP
  cases h : (isN s && isN t && decide (ix (dn s) ≤ ix (up t))) with
  | true =>
    simp only [Bool.and_eq_true, decide_eq_true_eq] at h
    obtain ⟨⟨h1, h2⟩, h3⟩ := h
    rw [isN_iff] at h1 h2
    exact ⟨(dn_ix h1).1, (up_ix h2).1, h3, .inl ⟨h1, h2, rfl, rfl⟩⟩
  | false => exact all_told s t
theorem outP_rt (s t : Nat) : Rt (outP s t) := ⟨outP_told.np, outP_told.nq, outP_told.le⟩
theorem addP_rt (X Y : P2) : Rt (addP X Y) := outP_rt _ _
theorem subP_rt (X Y : P2) : Rt (subP X Y) := outP_rt _ _
theorem loB_nn {x y : Nat} (hx : NN x) (hy : NN y) : NN (loB x y) ∧ ix (loB x y) ≤ ix x ∧ ix (loB x y) ≤ ix y ∧ (loB x y = x ∨ loB x y = y) := sel_lo hx hy rfl
theorem hiB_nn {x y : Nat} (hx : NN x) (hy : NN y) : NN (hiB x y) ∧ ix x ≤ ix (hiB x y) ∧ ix y ≤ ix (hiB x y) ∧ (hiB x y = x ∨ hiB x y = y) := sel_hi hx hy rfl
theorem or4 {a b c d x y z : Nat} (h : x = d ∨ x = y) (h2 : y = c ∨ y = z) (h3 : z = b ∨ z = a) : x = a ∨ x = b ∨ x = c ∨ x = d := by
  rcases h with h | h
  · exact .inr (.inr (.inr h))
  · rcases h2 with h2 | h2
    · exact .inr (.inr (.inl (h.trans h2)))
    · rcases h3 with h3 | h3
      · exact .inr (.inl (h.trans (h2.trans h3)))
      · exact .inl (h.trans (h2.trans h3))
/-- A span of four that are no NaN. -/
theorem ends_of {a b c d : Nat} (ha : NN a) (hb : NN b) (hc : NN c) (hd : NN d) : Ends a b c d (loB d (loB c (loB b a))) (hiB d (hiB c (hiB b a))) := by
  obtain ⟨s1, s2, s3, s4⟩ := loB_nn hb ha
  obtain ⟨t1, t2, t3, t4⟩ := loB_nn hc s1
  obtain ⟨u1, u2, u3, u4⟩ := loB_nn hd t1
  obtain ⟨v1, v2, v3, v4⟩ := hiB_nn hb ha
  obtain ⟨w1, w2, w3, w4⟩ := hiB_nn hc v1
  obtain ⟨k1, k2, k3, k4⟩ := hiB_nn hd w1
  exact ⟨u1, k1, by omega, by omega, by omega, by omega, by omega, by omega, by omega, by omega,
    or4 u4 t4 s4, or4 k4 w4 v4⟩
theorem spanP_eq {a b c d : Nat} (ha : NN a) (hb : NN b) (hc : NN c) (hd : NN d) : spanP a b c d = (dn (loB d (loB c (loB b a))), up (hiB d (hiB c (hiB b a)))) := by
  unfold spanP
  rw [isN_iff.2 ha, isN_iff.2 hb, isN_iff.2 hc, isN_iff.2 hd]
  rfl
theorem spanP_rt (a b c d : Nat) : Rt (spanP a b c d) := by
  unfold spanP
  cases h : (isN a && isN b && isN c && isN d) with
  | true =>
    simp only [Bool.and_eq_true, isN_iff] at h
    obtain ⟨⟨⟨ha, hb⟩, hc⟩, hd⟩ := h
    have e := ends_of ha hb hc hd
    exact ⟨(dn_ix e.nlo).1, (up_ix e.nhi).1, out_le e.nlo e.nhi (by have := e.lo_a; have := e.hi_a; omega)⟩
  | false => exact rt_all
theorem mulP_rt (X Y : P2) : Rt (mulP X Y) := spanP_rt _ _ _ _
theorem divP_rt (X Y : P2) : Rt (divP X Y) := by
  unfold divP
  cases decide (ix Y.1 ≤ 0 ∧ 0 ≤ ix Y.2) with
  | true => exact rt_all
  | false => exact spanP_rt _ _ _ _

/-- Two functions tell this. -/
def W2 (f g : FuncId) (args : Array Value) (r : P2) : Prop := Runs Try.prog f args #[] (vI r) #[] ∧ Runs Try.prog g args #[] (vI r) #[]

theorem out_w {x y : Nat} (hx : NaNor x) (hy : NaNor y) : ∃ u v, Runs Try.prog 99 #[.float .f64 x] #[] (.float .f64 u) #[] ∧ Runs Try.prog 82 #[.float .f64 x] #[] (.float .f64 u) #[] ∧
    Runs Try.prog 34 #[.float .f64 y] #[] (.float .f64 v) #[] ∧ Runs Try.prog 45 #[.float .f64 y] #[] (.float .f64 v) #[] ∧
    ((fcmp .leq .f64 u v = some true ∧ outP x y = (u, v)) ∨ (fcmp .leq .f64 u v = some false ∧ outP x y = (ninf, pinf))) := by
  rcases hx with nx | rfl
  · rcases hy with ny | rfl
    · refine ⟨_, _, down_runs nx, down_runsR nx, up_runs ny, up_runsR ny, ?_⟩
      rw [leq_ix (dn_ix nx).1 (up_ix ny).1]
      unfold outP
      rw [isN_iff.2 nx, isN_iff.2 ny]
      by_cases h : ix (dn x) ≤ ix (up y)
      · rw [decide_eq_true h]; exact .inl ⟨rfl, rfl⟩
      · rw [decide_eq_false h]; exact .inr ⟨rfl, rfl⟩
    · refine ⟨_, _, down_runs nx, down_runsR nx, up_nan, up_nanR, .inr ⟨(nan_leq _).2, ?_⟩⟩
      unfold outP
      rw [isN_nan, Bool.and_false, Bool.false_and]; rfl
  · obtain ⟨v, h1, h2, _⟩ := up_both hy
    refine ⟨_, v, down_nan, down_nanR, h1, h2, .inr ⟨(nan_leq _).1, ?_⟩⟩
    unfold outP
    rw [isN_nan, Bool.false_and, Bool.false_and]; rfl

theorem add_w (X Y : P2) : W2 72 51 #[vI X, vI Y] (addP X Y) := by
  obtain ⟨a, b⟩ := X
  obtain ⟨c, e⟩ := Y
  obtain ⟨u, v, h1, h2, h3, h4, h5⟩ := out_w (fop_nan (op := .add) (x := a) (y := c) (.inl rfl)) (fop_nan (op := .add) (x := b) (y := e) (.inl rfl))
  rcases h5 with ⟨h, hn⟩ | ⟨h, hn⟩
  · have : addP (a, b) (c, e) = (u, v) := hn
    rw [this]
    exact ⟨add_runs h1 h3 h, add_runsR h2 h4 h⟩
  · have : addP (a, b) (c, e) = (ninf, pinf) := hn
    rw [this]
    exact ⟨add_all h1 h3 h, add_allR h2 h4 h⟩
theorem sub_w (X Y : P2) : W2 73 52 #[vI X, vI Y] (subP X Y) := by
  obtain ⟨a, b⟩ := X
  obtain ⟨c, e⟩ := Y
  obtain ⟨u, v, h1, h2, h3, h4, h5⟩ := out_w (fop_nan (op := .sub) (x := a) (y := e) (.inr (.inl rfl))) (fop_nan (op := .sub) (x := b) (y := c) (.inr (.inl rfl)))
  rcases h5 with ⟨h, hn⟩ | ⟨h, hn⟩
  · have : subP (a, b) (c, e) = (u, v) := hn
    rw [this]
    exact ⟨sub_runs h1 h3 h, sub_runsR h2 h4 h⟩
  · have : subP (a, b) (c, e) = (ninf, pinf) := hn
    rw [this]
    exact ⟨sub_all h1 h3 h, sub_allR h2 h4 h⟩

theorem span_w {a b c d : Nat} (ha : NaNor a) (hb : NaNor b) (hc : NaNor c) (hd : NaNor d) : W2 91 83 #[a4 a b c d] (spanP a b c d) := by
  rcases ha with ha | rfl
  · obtain ⟨x1, x2, x3⟩ := nn_self ha
    rcases hb with hb | rfl
    · obtain ⟨y1, y2, y3⟩ := nn_self hb
      obtain ⟨s1, s2, s3, s4⟩ := loB_nn hb ha
      obtain ⟨v1, v2, v3, v4⟩ := hiB_nn hb ha
      rcases hc with hc | rfl
      · obtain ⟨z1, z2, z3⟩ := nn_self hc
        obtain ⟨t1, t2, t3, t4⟩ := loB_nn hc s1
        obtain ⟨w1, w2, w3, w4⟩ := hiB_nn hc v1
        rcases hd with hd | rfl
        · obtain ⟨u1, u2, u3, u4⟩ := loB_nn hd t1
          obtain ⟨k1, k2, k3, k4⟩ := hiB_nn hd w1
          have hle := out_le u1 k1 (by omega)
          have hl := (leq_ix (dn_ix u1).1 (up_ix k1).1).trans (congrArg some (decide_eq_true hle))
          rw [spanP_eq ha hb hc hd]
          exact ⟨span_bits a b c d _ _ _ _ _ _ _ _ x1 y1 z1 (nn_self hd).1 x2 x3 (lss_ix hb ha) (gtr_ix hb ha) (lss_ix hc s1) (gtr_ix hc v1) (lss_ix hd t1) (gtr_ix hd w1) (down_runs u1) (up_runs k1) hl,
            span_bitsR a b c d _ _ _ _ _ _ _ _ x1 y1 z1 (nn_self hd).1 x2 x3 (lss_ix hb ha) (gtr_ix hb ha) (lss_ix hc s1) (gtr_ix hc v1) (lss_ix hd t1) (gtr_ix hd w1) (down_runsR u1) (up_runsR k1) hl⟩
        · have ob : okAll Try.prog [cmpO .neq a a false, cmpO .lss a a false, cmpO .gtr a a false, cmpO .neq b b false, cmpO .lss b a _, cmpO .gtr b a _, cmpO .neq c c false, cmpO .lss c (sel _ b a) _, cmpO .gtr c (sel _ b a) _, cmpO .neq (nanW .f64) (nanW .f64) true] :=
            ⟨(fc _ rfl _ _).trans x1, (fc _ rfl _ _).trans x2, (fc _ rfl _ _).trans x3, (fc _ rfl _ _).trans y1, (fc _ rfl _ _).trans (lss_ix hb ha), (fc _ rfl _ _).trans (gtr_ix hb ha), (fc _ rfl _ _).trans z1, (fc _ rfl _ _).trans (lss_ix hc s1), (fc _ rfl _ _).trans (gtr_ix hc v1), (fc _ rfl _ _).trans nan_neq, trivial⟩
          have e : spanP a b c (nanW .f64) = (ninf, pinf) := by unfold spanP; rw [isN_nan, Bool.and_false]; rfl
          rw [e]
          exact ⟨quiet_of (nan3 _ _ _ _ _ _ _ _) ob rfl rfl, quiet_of (nan3R _ _ _ _ _ _ _ _) ob rfl rfl⟩
      · have ob : okAll Try.prog [cmpO .neq a a false, cmpO .lss a a false, cmpO .gtr a a false, cmpO .neq b b false, cmpO .lss b a _, cmpO .gtr b a _, cmpO .neq (nanW .f64) (nanW .f64) true] :=
          ⟨(fc _ rfl _ _).trans x1, (fc _ rfl _ _).trans x2, (fc _ rfl _ _).trans x3, (fc _ rfl _ _).trans y1, (fc _ rfl _ _).trans (lss_ix hb ha), (fc _ rfl _ _).trans (gtr_ix hb ha), (fc _ rfl _ _).trans nan_neq, trivial⟩
        have e : spanP a b (nanW .f64) d = (ninf, pinf) := by unfold spanP; rw [isN_nan, Bool.and_false, Bool.false_and]; rfl
        rw [e]
        exact ⟨quiet_of (nan2 _ _ _ _ _ _) ob rfl rfl, quiet_of (nan2R _ _ _ _ _ _) ob rfl rfl⟩
    · have ob : okAll Try.prog [cmpO .neq a a false, cmpO .lss a a false, cmpO .gtr a a false, cmpO .neq (nanW .f64) (nanW .f64) true] :=
        ⟨(fc _ rfl _ _).trans x1, (fc _ rfl _ _).trans x2, (fc _ rfl _ _).trans x3, (fc _ rfl _ _).trans nan_neq, trivial⟩
      have e : spanP a (nanW .f64) c d = (ninf, pinf) := by unfold spanP; rw [isN_nan, Bool.and_false, Bool.false_and, Bool.false_and]; rfl
      rw [e]
      exact ⟨quiet_of (nan1 _ _ _ _) ob rfl rfl, quiet_of (nan1R _ _ _ _) ob rfl rfl⟩
  · have ob : okAll Try.prog [cmpO .neq (nanW .f64) (nanW .f64) true] := ⟨(fc _ rfl _ _).trans nan_neq, trivial⟩
    have e : spanP (nanW .f64) b c d = (ninf, pinf) := by unfold spanP; rw [isN_nan, Bool.false_and, Bool.false_and, Bool.false_and]; rfl
    rw [e]
    exact ⟨quiet_of (nan0 _ _ _ _) ob rfl rfl, quiet_of (nan0R _ _ _ _) ob rfl rfl⟩

theorem mul_w (X Y : P2) : W2 74 53 #[vI X, vI Y] (mulP X Y) := by
  have h := fun x y => fop_nan (op := .mul) (x := x) (y := y) (.inr (.inr (.inl rfl)))
  obtain ⟨h1, h2⟩ := span_w (h X.1 Y.1) (h X.1 Y.2) (h X.2 Y.1) (h X.2 Y.2)
  exact ⟨mul_runs h1, mul_runsR h2⟩

theorem div_w (X : P2) {Y : P2} (hc : NN Y.1) (he : NN Y.2) : W2 75 54 #[vI X, vI Y] (divP X Y) := by
  have h := fun x y => fop_nan (op := .quo) (x := x) (y := y) (.inr (.inr (.inr rfl)))
  unfold divP
  by_cases hi : ix Y.1 ≤ 0 ∧ 0 ≤ ix Y.2
  · rw [decide_eq_true hi]
    exact ⟨div_zero (in_yes nn_zero.1 hc he (by rw [nn_zero.2]; omega) (by rw [nn_zero.2]; omega)), div_zeroR (holds_at hc he (decide_eq_true (by omega)).symm)⟩
  · rw [decide_eq_false hi]
    obtain ⟨h1, h2⟩ := span_w (h X.1 Y.1) (h X.1 Y.2) (h X.2 Y.1) (h X.2 Y.2)
    exact ⟨div_runs (in_no nn_zero.1 hc he (by rw [nn_zero.2]; omega)) h1, div_runsR (holds_at hc he (decide_eq_false (by omega)).symm) h2⟩

/-- The from-tos' arithmetic, taken so. -/
def ivCall (f : FuncId) (args : Array Value) (H : AHeap) : Option (Value × AHeap) :=
  match args with
  | ⟨[.agg ⟨[.float .f64 a, .float .f64 b]⟩, .agg ⟨[.float .f64 c, .float .f64 d]⟩]⟩ =>
    bif f == 72 || f == 51 then some (vI (addP (a, b) (c, d)), H)
    else bif f == 73 || f == 52 then some (vI (subP (a, b) (c, d)), H)
    else bif f == 74 || f == 53 then some (vI (mulP (a, b) (c, d)), H)
    else none
  | _ => none

theorem ivCall_ok {f : FuncId} {args : Array Value} {H H' : AHeap} {v : Value} (h : ivCall f args H = some (v, H')) : Runs Try.prog f args H v H' := by
  unfold ivCall at h
  split at h
  · rename_i a b c d
    have go : ∀ {g1 g2 : FuncId} {r : P2}, (f == g1 || f == g2) = true → W2 g1 g2 #[vI (a, b), vI (c, d)] r → some (vI r, H) = some (v, H') → Runs Try.prog f #[vI (a, b), vI (c, d)] H v H' := by
      intro g1 g2 r hf hw e
      injection e with e
      injection e with e1 e2
      subst e1; subst e2
      simp only [Bool.or_eq_true, beq_iff_eq] at hf
      rcases hf with rfl | rfl
      · exact hw.1.quiet rfl rfl _
      · exact hw.2.quiet rfl rfl _
    cases h1 : (f == 72 || f == 51) with
    | true => rw [h1] at h; exact go h1 (add_w (a, b) (c, d)) h
    | false =>
      rw [h1] at h
      cases h2 : (f == 73 || f == 52) with
      | true => rw [h2] at h; exact go h2 (sub_w (a, b) (c, d)) h
      | false =>
        rw [h2] at h
        cases h3 : (f == 74 || f == 53) with
        | true => rw [h3] at h; exact go h3 (mul_w (a, b) (c, d)) h
        | false => rw [h3] at h; cases h
  · cases h

noncomputable def base1 : Orc := { base0 with call := ivCall }
theorem base1_ok : OrcOK Try.prog base1 := ⟨fun _ _ _ _ _ h => ivCall_ok h, base0_ok.row, base0_ok.bin⟩
/-- A function with questions, the from-tos' arithmetic taken so; more calls may be handed in. -/
noncomputable def askB (B : Orc) (ask : FuncId → Nat) (askC : BinOp → Value → Value → Bool) (d : Nat) (f : FuncId) (args : Array Value) (H : AHeap) (s : List Ans) : Option (Value × AHeap × List Obl) :=
  (evFuncL Try.prog { B with call := callN Try.prog B q1 fs1 1000 d } q1 fs1 ask askC 1000 8 f args H s).map fun r => (r.1, r.2.1, r.2.2.2)
theorem askB_runs {B : Orc} (hB : OrcOK Try.prog B) {ask : FuncId → Nat} {askC : BinOp → Value → Value → Bool} {d : Nat} {f : FuncId} {args : Array Value} {H H' : AHeap} {s : List Ans} {v : Value} {l : List Obl}
    (h : askB B ask askC d f args H s = some (v, H', l)) (hl : okAll Try.prog l) : Runs Try.prog f args H v H' := by
  unfold askB at h
  simp only [Option.map_eq_some_iff] at h
  obtain ⟨⟨v1, H1, s1, l1⟩, h1, h2⟩ := h
  simp only [Prod.mk.injEq] at h2
  obtain ⟨rfl, rfl, rfl⟩ := h2
  exact evN_sound hB mixed0 fs1_ok h1 hl
theorem tellsB {B : Orc} (hB : OrcOK Try.prog B) {ask : FuncId → Nat} {askC : BinOp → Value → Value → Bool} {d : Nat} {f : FuncId} {args : Array Value} {H : AHeap} {s : List Ans} {v : Value} {l : List Obl}
    (h : (askB B ask askC d f args H s).map (fun r => (r.1, r.2.2)) = some (v, l)) (hl : okAll Try.prog l) : Tells f args H v := by
  simp only [Option.map_eq_some_iff] at h
  obtain ⟨⟨v1, H1, l1⟩, h1, h2⟩ := h
  simp only [Prod.mk.injEq] at h2
  obtain ⟨rfl, rfl⟩ := h2
  exact ⟨H1, askB_runs hB h1 hl⟩
theorem quietB {B : Orc} (hB : OrcOK Try.prog B) {ask : FuncId → Nat} {askC : BinOp → Value → Value → Bool} {d : Nat} {f : FuncId} {args : Array Value} {s : List Ans} {v : Value} {l : List Obl}
    (h : (askB B ask askC d f args #[] s).map (fun r => (r.1, r.2.2)) = some (v, l)) (hl : okAll Try.prog l) (ha : closA args = true) (hv : closN 4 v = true) : Runs Try.prog f args #[] v #[] := by
  obtain ⟨H', h⟩ := tellsB hB h hl
  exact h.quiet ha hv #[]

end Go.Proofs.Ytdlinjijccnaeaa

/-!  Wider from-tos, and from-tos the other way about: what holds of the ends. -/
namespace Go.Proofs.Ytdlinjijccnaeaa
open Go
set_option linter.unusedVariables false
set_option linter.unusedSimpArgs false
set_option maxRecDepth 100000

theorem dn_eq {x y : Nat} (hx : NN x) (hy : NN y) (h : ix x = ix y) : ix (dn x) = ix (dn y) := by
  rw [(dn_ix hx).2, (dn_ix hy).2, h]
theorem up_eq {x y : Nat} (hx : NN x) (hy : NN y) (h : ix x = ix y) : ix (up x) = ix (up y) := by
  rw [(up_ix hx).2, (up_ix hy).2, h]
theorem IsR.same_ix {Q : Nat} {Z Z' : Int} {x y : Nat} (hQ : 0 < Q) (h : IsR Q Z x) (h' : IsR Q Z' y) (he : Z = Z') : ix x = ix y := by
  subst he
  exact Rd.uniq hQ h.2 h'.2
theorem IsR.turn_ix {Q : Nat} {Z Z' : Int} {x y : Nat} (hQ : 0 < Q) (h : IsR Q Z x) (h' : IsR Q Z' y) (he : Z' = -Z) : ix x = -ix y := by
  subst he
  have := Rd.uniq hQ h.2.neg h'.2
  omega

/-- Of the same four the ends are the same. -/
theorem Ends.ge {a b c d lo hi a' b' c' d' lo' hi' : Nat} (e : Ends a b c d lo hi) (e' : Ends a' b' c' d' lo' hi')
    (h : ∀ x, x = a' ∨ x = b' ∨ x = c' ∨ x = d' → (ix a ≤ ix x ∨ ix b ≤ ix x ∨ ix c ≤ ix x ∨ ix d ≤ ix x) ∧ (ix x ≤ ix a ∨ ix x ≤ ix b ∨ ix x ≤ ix c ∨ ix x ≤ ix d)) : ix lo ≤ ix lo' ∧ ix hi' ≤ ix hi := by
  have := e.lo_a; have := e.lo_b; have := e.lo_c; have := e.lo_d
  have := e.hi_a; have := e.hi_b; have := e.hi_c; have := e.hi_d
  have h1 := (h lo' e'.lo_is).1
  have h2 := (h hi' e'.hi_is).2
  constructor <;> omega

/-- A product between the corners'. -/
theorem mul_corner {a b c d x y : Nat} (ha : Fi a) (hb : Fi b) (hc : Fi c) (hd : Fi d) (hx : Fi x) (hy : Fi y) (h1 : ix a ≤ ix x) (h2 : ix x ≤ ix b) (h3 : ix c ≤ ix y) (h4 : ix y ≤ ix d) :
    (ix (fop .mul .f64 a c) ≤ ix (fop .mul .f64 x y) ∨ ix (fop .mul .f64 a d) ≤ ix (fop .mul .f64 x y) ∨ ix (fop .mul .f64 b c) ≤ ix (fop .mul .f64 x y) ∨ ix (fop .mul .f64 b d) ≤ ix (fop .mul .f64 x y)) ∧
    (ix (fop .mul .f64 x y) ≤ ix (fop .mul .f64 a c) ∨ ix (fop .mul .f64 x y) ≤ ix (fop .mul .f64 a d) ∨ ix (fop .mul .f64 x y) ≤ ix (fop .mul .f64 b c) ∨ ix (fop .mul .f64 x y) ≤ ix (fop .mul .f64 b d)) := by
  have mo : ∀ {p q r s : Nat}, Fi p → Fi q → Fi r → Fi s → kv p * kv q ≤ kv r * kv s → ix (fop .mul .f64 p q) ≤ ix (fop .mul .f64 r s) := fun hp hq hr hs h =>
    (mul_rd hp hq).2.mono un_pos un_pos (mul_rd hr hs).2 (Int.mul_le_mul_of_nonneg_right h (Int.natCast_nonneg _))
  obtain ⟨l, u⟩ := mul_ends (show kv a ≤ kv x from rk_le h1) (show kv x ≤ kv b from rk_le h2) (show kv c ≤ kv y from rk_le h3) (show kv y ≤ kv d from rk_le h4)
  constructor
  · rcases l with h | h | h | h
    · exact .inl (mo ha hc hx hy h)
    · exact .inr (.inl (mo ha hd hx hy h))
    · exact .inr (.inr (.inl (mo hb hc hx hy h)))
    · exact .inr (.inr (.inr (mo hb hd hx hy h)))
  · rcases u with h | h | h | h
    · exact .inl (mo hx hy ha hc h)
    · exact .inr (.inl (mo hx hy ha hd h))
    · exact .inr (.inr (.inl (mo hx hy hb hc h)))
    · exact .inr (.inr (.inr (mo hx hy hb hd h)))

/-- Quotients of whole numbers, by what is above nought, across. -/
theorem quo_ends {A B C D X Y : Int} (h1 : A ≤ X) (h2 : X ≤ B) (h3 : C ≤ Y) (h4 : Y ≤ D) (hC : 0 < C) : (A * Y ≤ X * D ∨ A * Y ≤ X * C) ∧ (X * C ≤ B * Y ∨ X * D ≤ B * Y) := by
  have m : ∀ {a b c : Int}, a ≤ b → 0 ≤ c → a * c ≤ b * c := fun h hc => Int.mul_le_mul_of_nonneg_right h hc
  have m' : ∀ {a b c : Int}, a ≤ b → 0 ≤ c → c * a ≤ c * b := fun h hc => Int.mul_le_mul_of_nonneg_left h hc
  have n' : ∀ {a b c : Int}, a ≤ b → c ≤ 0 → c * b ≤ c * a := fun h hc => Int.mul_le_mul_of_nonpos_left hc h
  constructor
  · rcases Int.le_total 0 A with hA | hA
    · exact .inl (Int.le_trans (m' h4 hA) (m h1 (by omega)))
    · exact .inr (Int.le_trans (n' h3 hA) (m h1 (by omega)))
  · rcases Int.le_total 0 B with hB | hB
    · exact .inl (Int.le_trans (m h2 (by omega)) (m' h3 hB))
    · exact .inr (Int.le_trans (m h2 (by omega)) (n' h4 hB))

theorem quo_mono {p q r s : Nat} (hp : Fi p) (hq : Fi q) (hr : Fi r) (hs : Fi s) (h : (0 < kv q ∧ 0 < kv s ∧ kv p * kv s ≤ kv r * kv q) ∨ (kv q < 0 ∧ kv s < 0 ∧ kv p * kv s ≤ kv r * kv q)) : ix (fop .quo .f64 p q) ≤ ix (fop .quo .f64 r s) := by
  have e1 := quo_rd hp hq (by omega)
  have e2 := quo_rd hr hs (by omega)
  refine e1.2.mono (by omega) (by omega) e2.2 ?_
  have hu : (0 : Int) ≤ un := Int.natCast_nonneg _
  rcases h with ⟨q1, q2, h⟩ | ⟨q1, q2, h⟩
  · rw [if_neg (by omega), if_neg (by omega), Int.mul_one, Int.mul_one, show ((kv q).natAbs : Int) = kv q by omega, show ((kv s).natAbs : Int) = kv s by omega, Int.mul_right_comm (kv p), Int.mul_right_comm (kv r)]
    exact Int.mul_le_mul_of_nonneg_right h hu
  · rw [if_pos q1, if_pos q2, show ((kv q).natAbs : Int) = -kv q by omega, show ((kv s).natAbs : Int) = -kv s by omega]
    have e : ∀ a b : Int, a * un * -1 * -b = a * b * un := fun a b => by
      rw [Int.mul_neg, Int.mul_neg, Int.neg_mul, Int.neg_neg, Int.mul_one, Int.mul_right_comm]
    rw [e, e]
    exact Int.mul_le_mul_of_nonneg_right h hu

/-- A quotient between the corners'. -/
theorem quo_corner {a b c d x y : Nat} (ha : Fi a) (hb : Fi b) (hc : Fi c) (hd : Fi d) (hx : Fi x) (hy : Fi y) (h1 : ix a ≤ ix x) (h2 : ix x ≤ ix b) (h3 : ix c ≤ ix y) (h4 : ix y ≤ ix d) (h : 0 < ix c ∨ ix d < 0) :
    (ix (fop .quo .f64 a c) ≤ ix (fop .quo .f64 x y) ∨ ix (fop .quo .f64 a d) ≤ ix (fop .quo .f64 x y) ∨ ix (fop .quo .f64 b c) ≤ ix (fop .quo .f64 x y) ∨ ix (fop .quo .f64 b d) ≤ ix (fop .quo .f64 x y)) ∧
    (ix (fop .quo .f64 x y) ≤ ix (fop .quo .f64 a c) ∨ ix (fop .quo .f64 x y) ≤ ix (fop .quo .f64 a d) ∨ ix (fop .quo .f64 x y) ≤ ix (fop .quo .f64 b c) ∨ ix (fop .quo .f64 x y) ≤ ix (fop .quo .f64 b d)) := by
  have k1 : kv a ≤ kv x := rk_le h1
  have k2 : kv x ≤ kv b := rk_le h2
  have k3 : kv c ≤ kv y := rk_le h3
  have k4 : kv y ≤ kv d := rk_le h4
  rcases h with h | h
  · have hc0 := kv_pos.2 h
    obtain ⟨l, u⟩ := quo_ends k1 k2 k3 k4 hc0
    constructor
    · rcases l with l | l
      · exact .inr (.inl (quo_mono ha hd hx hy (.inl ⟨by omega, by omega, l⟩)))
      · exact .inl (quo_mono ha hc hx hy (.inl ⟨by omega, by omega, l⟩))
    · rcases u with l | l
      · exact .inr (.inr (.inl (quo_mono hx hy hb hc (.inl ⟨by omega, by omega, l⟩))))
      · exact .inr (.inr (.inr (quo_mono hx hy hb hd (.inl ⟨by omega, by omega, l⟩))))
  · have hd0 := kv_neg.2 h
    obtain ⟨l, u⟩ := quo_ends (A := -kv b) (B := -kv a) (C := -kv d) (D := -kv c) (X := -kv x) (Y := -kv y) (by omega) (by omega) (by omega) (by omega) (by omega)
    simp only [Int.neg_mul_neg] at l u
    constructor
    · rcases l with l | l
      · exact .inr (.inr (.inl (quo_mono hb hc hx hy (.inr ⟨by omega, by omega, l⟩))))
      · exact .inr (.inr (.inr (quo_mono hb hd hx hy (.inr ⟨by omega, by omega, l⟩))))
    · rcases u with l | l
      · exact .inr (.inl (quo_mono hx hy ha hd (.inr ⟨by omega, by omega, l⟩)))
      · exact .inl (quo_mono hx hy ha hc (.inr ⟨by omega, by omega, l⟩))

end Go.Proofs.Ytdlinjijccnaeaa
