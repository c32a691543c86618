/- What a Model's range is: it holds what the Model has at 0 and at -1; with more that is left it is wider. -/
import Derived.Test.YtnbbmihlokajaaaIvCore
import Derived.Test.YtnbbmihlokajaaaModelOwn
namespace Go.Proofs.Ytnbbmihlokajaaa
open Go
set_option linter.unusedVariables false
set_option linter.unusedSimpArgs false
set_option maxRecDepth 100000

abbrev Pt := Nat × Nat
def vP (X : Pt) : Value := fl2 X.1 X.2
def oneW : Nat := 4607182418800017408
def moneW : Nat := 13830554455654793216
theorem one_fi : Fi oneW ∧ kv oneW = un := by
  have h : F 1 = oneW := by decide +kernel
  have := F_fi (n := 1) (by decide)
  rw [h, Int.one_mul] at this
  exact this
theorem mone_fi : Fi moneW ∧ kv moneW = -un := by
  have h : F (-1) = moneW := by decide +kernel
  have := F_fi (n := -1) (by decide)
  rw [h, Int.neg_mul, Int.one_mul] at this
  exact this
theorem zero_kv : kv 0 = 0 := rfl

/-- A number times one, nought, minus one. -/
theorem mul_one_ix {x : Nat} (h : Fi x) : ix (fop .mul .f64 x oneW) = ix x := by
  have hr := mul_rd h one_fi.1
  rw [one_fi.2] at hr
  exact hr.2.eq un_pos (Int.le_of_lt h.2.1) (Int.le_of_lt h.2.2)
theorem mul_zero_ix {x : Nat} (h : Fi x) : ix (fop .mul .f64 x 0) = 0 := by
  have hr := mul_rd h fi_zero.1
  rw [zero_kv, Int.mul_zero] at hr
  have e : (0 : Int) = rk 0 * (un : Int) := by rw [rk_zero, Int.zero_mul]
  rw [e] at hr
  exact hr.2.eq un_pos (by decide) (by decide)
theorem mul_mone_ix {x : Nat} (h : Fi x) : ix (fop .mul .f64 x moneW) = -ix x := by
  have hr := mul_rd h mone_fi.1
  have e : kv x * kv moneW = rk (-ix x) * (un : Int) := by rw [mone_fi.2, rk_neg, Int.neg_mul, Int.mul_neg]; rfl
  rw [e] at hr
  exact hr.2.eq un_pos (by have := h.2; omega) (by have := h.2; omega)

/-- The invariant, as the rows are added one by one: r is what is told, lo and hi are what the numbers are at -1. -/
structure Inv (n : Nat) (a0 : Pt) (r : Pt) (lo hi : Nat) : Prop where
  b1 : Bd n r.1
  b2 : Bd n r.2
  bl : Bd n lo
  bh : Bd n hi
  le : ix r.1 ≤ ix r.2
  l1 : ix r.1 ≤ ix lo
  l2 : ix lo ≤ ix r.2
  h1 : ix r.1 ≤ ix hi
  h2 : ix hi ≤ ix r.2
  z1 : ix r.1 ≤ ix a0.1
  z2 : ix a0.2 ≤ ix r.2

theorem inv_mk {n : Nat} {a0 : Pt} {u v lo hi : Nat} (b1 : Bd n u) (b2 : Bd n v) (bl : Bd n lo) (bh : Bd n hi) (le : ix u ≤ ix v) (l1 : ix u ≤ ix lo) (l2 : ix lo ≤ ix v) (h1 : ix u ≤ ix hi) (h2 : ix hi ≤ ix v) (z1 : ix u ≤ ix a0.1) (z2 : ix a0.2 ≤ ix v) : Inv n a0 (u, v) lo hi := ⟨b1, b2, bl, bh, le, l1, l2, h1, h2, z1, z2⟩
theorem bd_of {n x : Nat} (h : x < 18446744073709551616) (h2 : (ix x).natAbs ≤ n * 4503599627370496) : Bd n x := ⟨h, h2⟩

/-- What the sum of two tells, of sizes and of what it holds. -/
theorem add_step {n : Nat} {x y p q : Nat} (hn : 0 < n) (hn2 : n < 2000) (bx : Bd n x) (by' : Bd n y) (bp : Bd n p) (bq : Bd n q) (hxy : ix x ≤ ix y) (hpq : ix p ≤ ix q) :
    Runs Try.prog 50 #[fl2 x y, fl2 p q] #[] (fl2 (dn (fop .add .f64 x p)) (up (fop .add .f64 y q))) #[] ∧ Bd (n + 2) (dn (fop .add .f64 x p)) ∧ Bd (n + 2) (up (fop .add .f64 y q)) ∧
    ix (dn (fop .add .f64 x p)) ≤ ix (fop .add .f64 x p) ∧ ix (fop .add .f64 y q) ≤ ix (up (fop .add .f64 y q)) ∧ ix (fop .add .f64 x p) ≤ ix (fop .add .f64 y q) := by
  have fx := bx.fi (by omega)
  have fy := by'.fi (by omega)
  have fp := bp.fi (by omega)
  have fq := bq.fi (by omega)
  have s1 := bx.add bp hn (by omega)
  have s2 := by'.add bq hn (by omega)
  have m := add_mono fx fp fy fq hxy hpq
  exact ⟨add_fi fx fy fp fq hxy hpq, (s1.dn (by omega)).1, (s2.up (by omega)).1, dn_le (add_rd fx fp).nn, le_up (add_rd fy fq).nn, m⟩

theorem add_nonpos {x y : Nat} (hx : Fi x) (hy : Fi y) (h : ix y ≤ 0) : ix (fop .add .f64 x y) ≤ ix x := by
  have hr := add_rd hx hy
  refine hr.2.le (by decide) (Int.le_of_lt hx.2.1) (Int.le_of_lt hx.2.2) ?_
  have h2 : kv y ≤ rk 0 := rk_le h
  rw [rk_zero] at h2
  show kv x + kv y ≤ rk (ix x) * ((1 : Nat) : Int)
  unfold kv at *
  omega
/-- A sum against a difference. -/
theorem add_sub_le {x y z w : Nat} (hx : Fi x) (hy : Fi y) (hz : Fi z) (hw : Fi w) (h1 : ix x ≤ ix z) (h2 : ix y ≤ -ix w) : ix (fop .add .f64 x y) ≤ ix (fop .sub .f64 z w) := by
  refine (add_rd hx hy).2.mono (by decide) (by decide) (sub_rd hz hw).2 ?_
  have e1 := rk_le h1
  have e2 := rk_le h2
  rw [rk_neg] at e2
  unfold kv
  omega
theorem sub_add_le {x y z w : Nat} (hx : Fi x) (hy : Fi y) (hz : Fi z) (hw : Fi w) (h1 : ix z ≤ ix x) (h2 : -ix w ≤ ix y) : ix (fop .sub .f64 z w) ≤ ix (fop .add .f64 x y) := by
  refine (sub_rd hz hw).2.mono (by decide) (by decide) (add_rd hx hy).2 ?_
  have e1 := rk_le h1
  have e2 := rk_le h2
  rw [rk_neg] at e2
  unfold kv
  omega

/-- One row more of an even power, of an odd one. -/
theorem step_even {n : Nat} {a0 r c : Pt} {lo hi : Nat} (hn : 1030 < n) (hn2 : n < 1900) (h : Inv n a0 r lo hi) (b1 : Bd 1030 c.1) (b2 : Bd 1030 c.2) (hc : ix c.1 ≤ ix c.2) :
    ∃ m r' : Pt, Runs Try.prog 54 #[vP c, fl2 0 oneW] #[] (vP m) #[] ∧ Runs Try.prog 50 #[vP r, vP m] #[] (vP r') #[] ∧ Inv (n + 2) a0 r' (fop .add .f64 lo c.1) (fop .add .f64 hi c.2) := by
  have f1 := b1.fi (by decide)
  have f2 := b2.fi (by decide)
  obtain ⟨p, q, he, hr⟩ := mul_fi f1 f2 fi_zero.1 one_fi.1
  have e1 := mul_zero_ix f1
  have e2 := mul_one_ix f1
  have e3 := mul_zero_ix f2
  have e4 := mul_one_ix f2
  have g1 := he.lo_a; have g2 := he.lo_b; have g3 := he.lo_d
  have k1 := he.hi_a; have k2 := he.hi_b; have k3 := he.hi_d
  rw [e1] at g1 k1; rw [e2] at g2 k2; rw [e4] at g3 k3
  have bp : Bd 1030 p := by
    refine ⟨he.nlo.1, ?_⟩
    rcases he.lo_is with h | h | h | h <;> rw [h]
    · rw [e1]; decide
    · rw [e2]; exact b1.2
    · rw [e3]; decide
    · rw [e4]; exact b2.2
  have bq : Bd 1030 q := by
    refine ⟨he.nhi.1, ?_⟩
    rcases he.hi_is with h | h | h | h <;> rw [h]
    · rw [e1]; decide
    · rw [e2]; exact b1.2
    · rw [e3]; decide
    · rw [e4]; exact b2.2
  have mp := (bp.dn (by decide)).1.mono (m := n) (by omega)
  have mq := (bq.up (by decide)).1.mono (m := n) (by omega)
  have d1 := dn_le he.nlo
  have d2 := le_up he.nhi
  obtain ⟨ra, s1, s2, s3, s4, s5⟩ := add_step (by omega) (by omega) h.b1 h.b2 mp mq h.le (by omega)
  have fr1 := h.b1.fi (by omega); have fr2 := h.b2.fi (by omega)
  have fl := h.bl.fi (by omega); have fh := h.bh.fi (by omega)
  have fmp := mp.fi (by omega); have fmq := mq.fi (by omega)
  have w1 := add_mono fr1 fmp fl f1 h.l1 (by omega)
  have w2 := add_mono fl f1 fr2 fmq h.l2 (by omega)
  have w3 := add_mono fr1 fmp fh f2 h.h1 (by omega)
  have w4 := add_mono fh f2 fr2 fmq h.h2 (by omega)
  have w5 := add_nonpos fr1 fmp (by omega)
  have w6 := add_ge fr2 fmq (by omega)
  have z1 := h.z1; have z2 := h.z2
  exact ⟨(dn p, up q), (dn (fop .add .f64 r.1 (dn p)), up (fop .add .f64 r.2 (up q))), hr, ra, inv_mk s1 s2 ((h.bl.add (b1.mono (by omega)) (by omega) (by omega)).mono (by omega)) ((h.bh.add (b2.mono (by omega)) (by omega) (by omega)).mono (by omega)) (by omega) (by omega) (by omega) (by omega) (by omega) (by omega) (by omega)⟩

theorem step_odd {n : Nat} {a0 r c : Pt} {lo hi : Nat} (hn : 1030 < n) (hn2 : n < 1900) (h : Inv n a0 r lo hi) (b1 : Bd 1030 c.1) (b2 : Bd 1030 c.2) (hc : ix c.1 ≤ ix c.2) :
    ∃ m r' : Pt, Runs Try.prog 54 #[vP c, fl2 moneW 0] #[] (vP m) #[] ∧ Runs Try.prog 50 #[vP r, vP m] #[] (vP r') #[] ∧ Inv (n + 2) a0 r' (fop .sub .f64 lo c.2) (fop .sub .f64 hi c.1) := by
  have f1 := b1.fi (by decide)
  have f2 := b2.fi (by decide)
  obtain ⟨p, q, he, hr⟩ := mul_fi f1 f2 mone_fi.1 fi_zero.1
  have e1 := mul_mone_ix f1
  have e2 := mul_zero_ix f1
  have e3 := mul_mone_ix f2
  have e4 := mul_zero_ix f2
  have g1 := he.lo_a; have g2 := he.lo_b; have g3 := he.lo_c
  have k1 := he.hi_a; have k2 := he.hi_b; have k3 := he.hi_c
  rw [e1] at g1 k1; rw [e2] at g2 k2; rw [e3] at g3 k3
  have b1' := b1.2; have b2' := b2.2
  have bp : Bd 1030 p := by
    refine ⟨he.nlo.1, ?_⟩
    rcases he.lo_is with h | h | h | h <;> rw [h]
    · rw [e1]; omega
    · rw [e2]; decide
    · rw [e3]; omega
    · rw [e4]; decide
  have bq : Bd 1030 q := by
    refine ⟨he.nhi.1, ?_⟩
    rcases he.hi_is with h | h | h | h <;> rw [h]
    · rw [e1]; omega
    · rw [e2]; decide
    · rw [e3]; omega
    · rw [e4]; decide
  have mp := (bp.dn (by decide)).1.mono (m := n) (by omega)
  have mq := (bq.up (by decide)).1.mono (m := n) (by omega)
  have d1 := dn_le he.nlo
  have d2 := le_up he.nhi
  obtain ⟨ra, s1, s2, s3, s4, s5⟩ := add_step (by omega) (by omega) h.b1 h.b2 mp mq h.le (by omega)
  have fr1 := h.b1.fi (by omega); have fr2 := h.b2.fi (by omega)
  have fl := h.bl.fi (by omega); have fh := h.bh.fi (by omega)
  have fmp := mp.fi (by omega); have fmq := mq.fi (by omega)
  have w1 := add_sub_le fr1 fmp fl f2 h.l1 (by omega)
  have w2 := sub_add_le fr2 fmq fl f2 h.l2 (by omega)
  have w3 := add_sub_le fr1 fmp fh f1 h.h1 (by omega)
  have w4 := sub_add_le fr2 fmq fh f1 h.h2 (by omega)
  have w5 := add_nonpos fr1 fmp (by omega)
  have w6 := add_ge fr2 fmq (by omega)
  have z1 := h.z1; have z2 := h.z2
  exact ⟨(dn p, up q), (dn (fop .add .f64 r.1 (dn p)), up (fop .add .f64 r.2 (up q))), hr, ra, inv_mk s1 s2 ((h.bl.sub (b2.mono (by omega)) (by omega) (by omega)).mono (by omega)) ((h.bh.sub (b1.mono (by omega)) (by omega) (by omega)).mono (by omega)) (by omega) (by omega) (by omega) (by omega) (by omega) (by omega) (by omega)⟩

/-! the walk -/
noncomputable def askPo (f : FuncId) : Nat := if f == 50 || f == 54 then 1 else 2
def isP (X : Pt) : Ans := ⟨fun _ => vP X, []⟩
noncomputable def ivQ (f : FuncId) (X : Value) (Y : Value) (r : Pt) : Obl := .run f #[X, Y] #[] (vP r) #[]
def row9 (c0 c1 c2 c3 c4 c5 c6 c7 c8 : Pt) : Value := .agg #[.float .f64 c0.1, .float .f64 c0.2, .float .f64 c1.1, .float .f64 c1.2, .float .f64 c2.1, .float .f64 c2.2, .float .f64 c3.1, .float .f64 c3.2, .float .f64 c4.1, .float .f64 c4.2, .float .f64 c5.1, .float .f64 c5.2, .float .f64 c6.1, .float .f64 c6.2, .float .f64 c7.1, .float .f64 c7.2, .float .f64 c8.1, .float .f64 c8.2]
def mod9 (c0 c1 c2 c3 c4 c5 c6 c7 c8 R : Pt) : Value := .agg #[.float .f64 c0.1, .float .f64 c0.2, .float .f64 c1.1, .float .f64 c1.2, .float .f64 c2.1, .float .f64 c2.2, .float .f64 c3.1, .float .f64 c3.2, .float .f64 c4.1, .float .f64 c4.2, .float .f64 c5.1, .float .f64 c5.2, .float .f64 c6.1, .float .f64 c6.2, .float .f64 c7.1, .float .f64 c7.2, .float .f64 c8.1, .float .f64 c8.2, .float .f64 R.1, .float .f64 R.2]
noncomputable def mQ (odd : Bool) (c m r r' : Pt) : List Obl := [ivQ 54 (vP c) (bif odd then fl2 moneW 0 else fl2 0 oneW) m, ivQ 50 (vP r) (vP m) r']
theorem poly_came (c0 c1 c2 c3 c4 c5 c6 c7 c8 m1 m2 m3 m4 m5 m6 m7 m8 r1 r2 r3 r4 r5 r6 r7 r8 : Pt) :
    (askN askPo fltC 12 51 #[row9 c0 c1 c2 c3 c4 c5 c6 c7 c8] #[] [isP m1, isP r1, isP m2, isP r2, isP m3, isP r3, isP m4, isP r4, isP m5, isP r5, isP m6, isP r6, isP m7, isP r7, isP m8, isP r8]).map (fun r => (r.1, r.2.2)) =
      some (vP r8, mQ true c1 m1 c0 r1 ++ mQ false c2 m2 r1 r2 ++ mQ true c3 m3 r2 r3 ++ mQ false c4 m4 r3 r4 ++ mQ true c5 m5 r4 r5 ++ mQ false c6 m6 r5 r6 ++ mQ true c7 m7 r6 r7 ++ mQ false c8 m8 r7 r8) := by kernel_rfl

def Good (c : Pt) : Prop := Bd 1030 c.1 ∧ Bd 1030 c.2 ∧ ix c.1 ≤ ix c.2
def lo9 (c0 c1 c2 c3 c4 c5 c6 c7 c8 : Pt) : Nat := fop .add .f64 (fop .sub .f64 (fop .add .f64 (fop .sub .f64 (fop .add .f64 (fop .sub .f64 (fop .add .f64 (fop .sub .f64 c0.1 c1.2) c2.1) c3.2) c4.1) c5.2) c6.1) c7.2) c8.1
def hi9 (c0 c1 c2 c3 c4 c5 c6 c7 c8 : Pt) : Nat := fop .add .f64 (fop .sub .f64 (fop .add .f64 (fop .sub .f64 (fop .add .f64 (fop .sub .f64 (fop .add .f64 (fop .sub .f64 c0.2 c1.1) c2.2) c3.1) c4.2) c5.1) c6.2) c7.1) c8.2

theorem poly_runs {c0 c1 c2 c3 c4 c5 c6 c7 c8 : Pt} (h0 : Good c0) (h1 : Good c1) (h2 : Good c2) (h3 : Good c3) (h4 : Good c4) (h5 : Good c5) (h6 : Good c6) (h7 : Good c7) (h8 : Good c8) :
    ∃ r : Pt, Runs Try.prog 51 #[row9 c0 c1 c2 c3 c4 c5 c6 c7 c8] #[] (vP r) #[] ∧ Inv 1047 c0 r (lo9 c0 c1 c2 c3 c4 c5 c6 c7 c8) (hi9 c0 c1 c2 c3 c4 c5 c6 c7 c8) := by
  have i0 : Inv 1031 c0 c0 c0.1 c0.2 := ⟨h0.1.mono (by decide), h0.2.1.mono (by decide), h0.1.mono (by decide), h0.2.1.mono (by decide), h0.2.2, Int.le_refl _, h0.2.2, h0.2.2, Int.le_refl _, Int.le_refl _, Int.le_refl _⟩
  obtain ⟨m1, r1, a1, b1, i1⟩ := step_odd (by decide) (by decide) i0 h1.1 h1.2.1 h1.2.2
  obtain ⟨m2, r2, a2, b2, i2⟩ := step_even (by decide) (by decide) i1 h2.1 h2.2.1 h2.2.2
  obtain ⟨m3, r3, a3, b3, i3⟩ := step_odd (by decide) (by decide) i2 h3.1 h3.2.1 h3.2.2
  obtain ⟨m4, r4, a4, b4, i4⟩ := step_even (by decide) (by decide) i3 h4.1 h4.2.1 h4.2.2
  obtain ⟨m5, r5, a5, b5, i5⟩ := step_odd (by decide) (by decide) i4 h5.1 h5.2.1 h5.2.2
  obtain ⟨m6, r6, a6, b6, i6⟩ := step_even (by decide) (by decide) i5 h6.1 h6.2.1 h6.2.2
  obtain ⟨m7, r7, a7, b7, i7⟩ := step_odd (by decide) (by decide) i6 h7.1 h7.2.1 h7.2.2
  obtain ⟨m8, r8, a8, b8, i8⟩ := step_even (by decide) (by decide) i7 h8.1 h8.2.1 h8.2.2
  exact ⟨r8, quiet_of' (poly_came c0 c1 c2 c3 c4 c5 c6 c7 c8 m1 m2 m3 m4 m5 m6 m7 m8 r1 r2 r3 r4 r5 r6 r7 r8) ⟨a1, b1, a2, b2, a3, b3, a4, b4, a5, b5, a6, b6, a7, b7, a8, b8, trivial⟩ rfl rfl, i8⟩

noncomputable def askRa (f : FuncId) : Nat := if f == 50 || f == 51 then 1 else 2
theorem range_came (c0 c1 c2 c3 c4 c5 c6 c7 c8 R r s : Pt) : (askN askRa fltC 12 18 #[mod9 c0 c1 c2 c3 c4 c5 c6 c7 c8 R] #[] [isP r, isP s]).map (fun r => (r.1, r.2.2)) =
    some (vP s, [.run 51 #[row9 c0 c1 c2 c3 c4 c5 c6 c7 c8] #[] (vP r) #[], ivQ 50 (vP r) (vP R) s]) := by kernel_rfl

/-- What the range of one tells, and of one of which more is left. -/
theorem range_runs {c0 c1 c2 c3 c4 c5 c6 c7 c8 R R' : Pt} (h0 : Good c0) (h1 : Good c1) (h2 : Good c2) (h3 : Good c3) (h4 : Good c4) (h5 : Good c5) (h6 : Good c6) (h7 : Good c7) (h8 : Good c8)
    (hR : Bd 1040 R.1 ∧ Bd 1040 R.2 ∧ ix R.1 ≤ 0 ∧ 0 ≤ ix R.2) (hR' : Bd 1040 R'.1 ∧ Bd 1040 R'.2 ∧ ix R'.1 ≤ ix R.1 ∧ ix R.2 ≤ ix R'.2) :
    ∃ s s' : Pt, Runs Try.prog 18 #[mod9 c0 c1 c2 c3 c4 c5 c6 c7 c8 R] #[] (vP s) #[] ∧ Runs Try.prog 18 #[mod9 c0 c1 c2 c3 c4 c5 c6 c7 c8 R'] #[] (vP s') #[] ∧
      NN s.1 ∧ NN s.2 ∧ NN s'.1 ∧ NN s'.2 ∧ ix s.1 ≤ ix s.2 ∧ ix s'.1 ≤ ix s.1 ∧ ix s.2 ≤ ix s'.2 ∧ ix s.1 ≤ ix c0.1 ∧ ix c0.2 ≤ ix s.2 ∧
      NN (lo9 c0 c1 c2 c3 c4 c5 c6 c7 c8) ∧ NN (hi9 c0 c1 c2 c3 c4 c5 c6 c7 c8) ∧ ix s.1 ≤ ix (lo9 c0 c1 c2 c3 c4 c5 c6 c7 c8) ∧ ix (lo9 c0 c1 c2 c3 c4 c5 c6 c7 c8) ≤ ix s.2 ∧ ix s.1 ≤ ix (hi9 c0 c1 c2 c3 c4 c5 c6 c7 c8) ∧ ix (hi9 c0 c1 c2 c3 c4 c5 c6 c7 c8) ≤ ix s.2 := by
  obtain ⟨r, rr, i⟩ := poly_runs h0 h1 h2 h3 h4 h5 h6 h7 h8
  obtain ⟨p1, p2, p3, p4⟩ := hR
  obtain ⟨q1, q2, q3, q4⟩ := hR'
  obtain ⟨ra, s1, s2, s3, s4, s5⟩ := add_step (n := 1047) (by decide) (by decide) i.b1 i.b2 (p1.mono (by decide)) (p2.mono (by decide)) i.le (by omega)
  obtain ⟨rb, t1, t2, t3, t4, t5⟩ := add_step (n := 1047) (by decide) (by decide) i.b1 i.b2 (q1.mono (by decide)) (q2.mono (by decide)) i.le (by omega)
  have f1 := i.b1.fi (by decide)
  have f2 := i.b2.fi (by decide)
  have g1 := p1.fi (by decide)
  have g2 := p2.fi (by decide)
  have k1 := q1.fi (by decide)
  have k2 := q2.fi (by decide)
  have w1 := add_nonpos f1 g1 p3
  have w2 := add_ge f2 g2 p4
  have w3 := dn_mono (add_rd f1 k1).nn (add_rd f1 g1).nn (add_mono f1 k1 f1 g1 (Int.le_refl _) q3)
  have w4 := up_mono (add_rd f2 g2).nn (add_rd f2 k2).nn (add_mono f2 g2 f2 k2 (Int.le_refl _) q4)
  have e1 := i.l1; have e2 := i.l2; have e3 := i.h1; have e4 := i.h2; have e5 := i.z1; have e6 := i.z2
  refine ⟨(dn (fop .add .f64 r.1 R.1), up (fop .add .f64 r.2 R.2)), (dn (fop .add .f64 r.1 R'.1), up (fop .add .f64 r.2 R'.2)), quiet_of' (range_came c0 c1 c2 c3 c4 c5 c6 c7 c8 R r _) ⟨rr, ra, trivial⟩ rfl rfl, quiet_of' (range_came c0 c1 c2 c3 c4 c5 c6 c7 c8 R' r _) ⟨rr, rb, trivial⟩ rfl rfl,
    (s1.fi (by decide)).nn, (s2.fi (by decide)).nn, (t1.fi (by decide)).nn, (t2.fi (by decide)).nn, ?_, ?_, ?_, ?_, ?_, (i.bl.fi (by decide)).nn, (i.bh.fi (by decide)).nn, ?_, ?_, ?_, ?_⟩ <;> dsimp only <;> omega

end Go.Proofs.Ytnbbmihlokajaaa
