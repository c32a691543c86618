/- The law IvBack returns true, whatever it is handed. -/
import Derived.Test.YthajhpilfbijdaaIvMore
namespace Go.Proofs.Ythajhpilfbijdaa
open Go
set_option linter.unusedVariables false
set_option linter.unusedSimpArgs false
set_option maxRecDepth 100000

noncomputable def backL (m k w n j v : Int) (a b c d s1 s2 x1 x2 : Nat) (l : List Obl) : List Obl :=
  [knO, mkO m k w a b, mkO n j v c d, opO 19 a b c d s1 s2, opO 20 s1 s2 c d x1 x2, wiO a b x1 x2 true] ++ l
noncomputable def backR (m k w n j v : Int) (a b c d s1 s2 x1 x2 : Nat) (s : List Ans) : Option (Value × List Obl) :=
  (askN askV1 eqC 12 9 #[.int .i64 m, .int .i64 k, .int .i64 w, .int .i64 n, .int .i64 j, .int .i64 v] #[] ([yes true, isV (fl2 a b), isV (fl2 c d), isV (fl2 s1 s2), isV (fl2 x1 x2), yes true] ++ s)).map (fun r => (r.1, r.2.2))
theorem back0 (m k w n j v : Int) (a b c d s1 s2 x1 x2 : Nat) : backR m k w n j v a b c d s1 s2 x1 x2 [yes true, yes true] = some (.bool true, backL m k w n j v a b c d s1 s2 x1 x2 [cmpF .leq c 0 true, cmpF .geq d 0 true]) := by kernel_rfl
theorem back1 (m k w n j v : Int) (a b c d s1 s2 x1 x2 p1 p2 q1 q2 : Nat) : backR m k w n j v a b c d s1 s2 x1 x2 [yes true, yes false, isV (fl2 p1 p2), isV (fl2 q1 q2), yes true] =
    some (.bool true, backL m k w n j v a b c d s1 s2 x1 x2 [cmpF .leq c 0 true, cmpF .geq d 0 false, opO 21 a b c d p1 p2, opO 22 p1 p2 c d q1 q2, wiO a b q1 q2 true]) := by kernel_rfl
theorem back2 (m k w n j v : Int) (a b c d s1 s2 x1 x2 p1 p2 q1 q2 : Nat) : backR m k w n j v a b c d s1 s2 x1 x2 [yes false, isV (fl2 p1 p2), isV (fl2 q1 q2), yes true] =
    some (.bool true, backL m k w n j v a b c d s1 s2 x1 x2 [cmpF .leq c 0 false, opO 21 a b c d p1 p2, opO 22 p1 p2 c d q1 q2, wiO a b q1 q2 true]) := by kernel_rfl

/-- One rung below what was rounded is less than what it was rounded from; one above is more. -/
theorem dn_lt {Q : Nat} {Z : Int} {b : Nat} (hQ : 0 < Q) (h : IsR Q Z b) (hf : Fi b) : kv (dn b) * Q < Z := by
  have e := (dn_ix hf.nn).2
  rw [if_neg (by have := hf.2; omega)] at e
  unfold kv
  rw [e]
  exact h.2.down hQ hf.2.1
theorem up_gt {Q : Nat} {Z : Int} {b : Nat} (hQ : 0 < Q) (h : IsR Q Z b) (hf : Fi b) : Z < kv (up b) * Q := by
  have e := (up_ix hf.nn).2
  rw [if_neg (by have := hf.2; omega)] at e
  unfold kv
  rw [e]
  exact h.2.up hQ hf.2.2
theorem IsR.le {Q : Nat} {Z : Int} {b x : Nat} (hQ : 0 < Q) (h : IsR Q Z b) (hx : NN x) (hle : Z ≤ kv x * Q) : ix b ≤ ix x := h.2.le hQ hx.2.1 hx.2.2 hle
theorem IsR.ge {Q : Nat} {Z : Int} {b x : Nat} (hQ : 0 < Q) (h : IsR Q Z b) (hx : NN x) (hle : kv x * Q ≤ Z) : ix x ≤ ix b := h.2.ge hQ hx.2.1 hx.2.2 hle

theorem pw_add (a b : Nat) : pw (a + b) = pw a * pw b := Nat.pow_add ..
/-- The product's size. -/
theorem Bd.mul {n x y : Nat} (hx : Bd 1075 x) (hy : Bd 1075 y) : Bd 1200 (fop .mul .f64 x y) := by
  have h := mul_rd (hx.fi (by decide)) (hy.fi (by decide))
  refine ⟨h.1, h.2.abs un_pos (by decide) ?_⟩
  have h1 := hx.kv
  have h2 := hy.kv
  rw [Int.natAbs_mul]
  refine Nat.le_trans (Nat.mul_le_mul h1 h2) ?_
  -- 2^52 * 2^1074 each
  have r : ∀ E K : Nat, K = E + 1 → rg (K * 4503599627370496) = 4503599627370496 * pw E := by
    intro E K hK
    have := rg_at (E := E) (k := 4503599627370496) (Or.inr (Nat.le_refl _)) (by decide)
    have e : K * 4503599627370496 = E * 4503599627370496 + 4503599627370496 := by rw [hK, Nat.add_mul, Nat.one_mul]
    rw [e]
    exact this
  obtain ⟨K, hK⟩ := has_K
  have e3 : pw K = un := pow_un hK
  have e2 : pw (125 + K) = pw 125 * un := by rw [pw_add, e3]
  rw [r K 1075 (by omega), r (125 + K) 1200 (by omega), e2, e3]
  have hu := un_pos
  have e4 : 4503599627370496 ≤ pw 125 := by decide +kernel
  have e5 : ∀ B u P : Nat, B * u * (B * u) = B * B * u * u ∧ B * (P * u) * u = B * P * u * u := fun B u P => ⟨by simp only [Nat.mul_assoc, Nat.mul_left_comm u B], by simp only [Nat.mul_assoc]⟩
  rw [(e5 _ _ (pw 125)).1, (e5 _ _ (pw 125)).2]
  exact Nat.mul_le_mul_right _ (Nat.mul_le_mul_right _ (Nat.mul_le_mul_left _ e4))

theorem quo_le {p y x : Nat} (hp : Fi p) (hy : Fi y) (hx : Fi x) (h : (0 < ix y ∧ kv p * un ≤ kv x * kv y) ∨ (ix y < 0 ∧ kv x * kv y ≤ kv p * un)) : ix (fop .quo .f64 p y) ≤ ix x := by
  rcases h with ⟨h1, h2⟩ | ⟨h1, h2⟩
  · have h3 := kv_pos.2 h1
    refine (quo_rd hp hy (by omega)).le (by omega) hx.nn ?_
    rw [if_neg (by omega), Int.mul_one, show ((kv y).natAbs : Int) = kv y by omega]
    exact h2
  · have h3 := kv_neg.2 h1
    refine (quo_rd hp hy (by omega)).le (by omega) hx.nn ?_
    rw [if_pos h3, show ((kv y).natAbs : Int) = -kv y by omega, Int.mul_neg, Int.mul_neg, Int.mul_one]
    omega
theorem quo_ge {p y x : Nat} (hp : Fi p) (hy : Fi y) (hx : Fi x) (h : (0 < ix y ∧ kv x * kv y ≤ kv p * un) ∨ (ix y < 0 ∧ kv p * un ≤ kv x * kv y)) : ix x ≤ ix (fop .quo .f64 p y) := by
  rcases h with ⟨h1, h2⟩ | ⟨h1, h2⟩
  · have h3 := kv_pos.2 h1
    refine (quo_rd hp hy (by omega)).ge (by omega) hx.nn ?_
    rw [if_neg (by omega), Int.mul_one, show ((kv y).natAbs : Int) = kv y by omega]
    exact h2
  · have h3 := kv_neg.2 h1
    refine (quo_rd hp hy (by omega)).ge (by omega) hx.nn ?_
    rw [if_pos h3, show ((kv y).natAbs : Int) = -kv y by omega, Int.mul_neg, Int.mul_neg, Int.mul_one]
    omega

theorem back_div {a b c d : Nat} (ba : Bd 1075 a) (bb : Bd 1075 b) (bc : Bd 1075 c) (bd : Bd 1075 d) (hcd : ix c ≤ ix d) (h : 0 < ix c ∨ ix d < 0) :
    ∃ p1 p2 q1 q2, Runs Try.prog 21 #[fl2 a b, fl2 c d] #[] (fl2 p1 p2) #[] ∧ Runs Try.prog 22 #[fl2 p1 p2, fl2 c d] #[] (fl2 q1 q2) #[] ∧ Runs Try.prog 35 #[fl2 a b, fl2 q1 q2] #[] (.bool true) #[] := by
  have fa := ba.fi (by decide)
  have fb := bb.fi (by decide)
  have fc' := bc.fi (by decide)
  have fd := bd.fi (by decide)
  obtain ⟨lo, hi, he, rm⟩ := mul_fi fa fb fc' fd
  have bac := Bd.mul (n := 0) ba bc
  have bad := Bd.mul (n := 0) ba bd
  have bbc := Bd.mul (n := 0) bb bc
  have bbd := Bd.mul (n := 0) bb bd
  have blo : Bd 1200 lo := by rcases he.lo_is with h | h | h | h <;> rw [h] <;> assumption
  have bhi : Bd 1200 hi := by rcases he.hi_is with h | h | h | h <;> rw [h] <;> assumption
  have f1 : Fi (dn lo) := (blo.dn (by decide)).1.fi (by decide)
  have f2 : Fi (up hi) := (bhi.up (by decide)).1.fi (by decide)
  obtain ⟨lo', hi', he', rd⟩ := div_fi f1 f2 fc' fd h hcd
  refine ⟨_, _, _, _, rm, rd, within_at fa.nn fb.nn (dn_ix he'.nlo).1 (up_ix he'.nhi).1 (decide_eq_true ?_).symm⟩
  -- the products by the first end of the second
  have la : kv (dn lo) * un ≤ kv a * kv c := by
    have h1 := dn_lt un_pos (mul_rd fa fc') (bac.fi (by decide))
    have h2 : kv (dn lo) ≤ kv (dn (fop .mul .f64 a c)) := rk_le (dn_mono he.nlo (mul_rd fa fc').nn he.lo_a)
    have := Int.mul_le_mul_of_nonneg_right h2 (Int.natCast_nonneg un)
    omega
  have lb : kv (dn lo) * un ≤ kv b * kv c := by
    have h1 := dn_lt un_pos (mul_rd fb fc') (bbc.fi (by decide))
    have h2 : kv (dn lo) ≤ kv (dn (fop .mul .f64 b c)) := rk_le (dn_mono he.nlo (mul_rd fb fc').nn he.lo_c)
    have := Int.mul_le_mul_of_nonneg_right h2 (Int.natCast_nonneg un)
    omega
  have ua : kv a * kv c ≤ kv (up hi) * un := by
    have h1 := up_gt un_pos (mul_rd fa fc') (bac.fi (by decide))
    have h2 : kv (up (fop .mul .f64 a c)) ≤ kv (up hi) := rk_le (up_mono (mul_rd fa fc').nn he.nhi he.hi_a)
    have := Int.mul_le_mul_of_nonneg_right h2 (Int.natCast_nonneg un)
    omega
  have ub : kv b * kv c ≤ kv (up hi) * un := by
    have h1 := up_gt un_pos (mul_rd fb fc') (bbc.fi (by decide))
    have h2 : kv (up (fop .mul .f64 b c)) ≤ kv (up hi) := rk_le (up_mono (mul_rd fb fc').nn he.nhi he.hi_c)
    have := Int.mul_le_mul_of_nonneg_right h2 (Int.natCast_nonneg un)
    omega
  have d1 := dn_le he'.nlo
  have d2 := le_up he'.nhi
  have g1 := he'.lo_a
  have g2 := he'.lo_c
  have g3 := he'.hi_a
  have g4 := he'.hi_c
  rcases Int.lt_or_le 0 (ix c) with hc | hc
  · have k1 := quo_le f1 fc' fa (.inl ⟨hc, la⟩)
    have k2 := quo_ge f2 fc' fb (.inl ⟨hc, ub⟩)
    omega
  · have hc' : ix c < 0 := by omega
    have k1 := quo_le f2 fc' fa (.inr ⟨hc', ua⟩)
    have k2 := quo_ge f1 fc' fb (.inr ⟨hc', lb⟩)
    omega

theorem ivBack_tells (m k w n j v : Int) : Tells 9 #[.int .i64 m, .int .i64 k, .int .i64 w, .int .i64 n, .int .i64 j, .int .i64 v] #[] (.bool true) := by
  obtain ⟨a, b, r1, ba, bb, hab⟩ := make_runs m k w
  obtain ⟨c, d, r2, bc, bd, hcd⟩ := make_runs n j v
  have fa := ba.fi (by decide)
  have fb := bb.fi (by decide)
  have fc' := bc.fi (by decide)
  have fd := bd.fi (by decide)
  have rs := add_fi fa fb fc' fd hab hcd
  have s1 := ba.add bc (by decide) (by decide)
  have s2 := bb.add bd (by decide) (by decide)
  have hs := add_mono fa fc' fb fd hab hcd
  obtain ⟨t1, t2⟩ := s1.dn (by decide)
  obtain ⟨t3, t4⟩ := s2.up (by decide)
  have f1 := t1.fi (by decide)
  have f2 := t3.fi (by decide)
  have rx := sub_fi f1 f2 fc' fd (by omega) hcd
  have e1 := sub_rd f1 fd
  have e2 := sub_rd f2 fc'
  have lo := dn_lt (by decide) (add_rd fa fc') (s1.fi (by decide))
  have hi := up_gt (by decide) (add_rd fb fd) (s2.fi (by decide))
  have kcd : kv c ≤ kv d := rk_le hcd
  have l1 := e1.le (x := a) (by decide) fa.nn (by omega)
  have l2 := e2.ge (x := b) (by decide) fb.nn (by omega)
  have l3 := dn_le e1.nn
  have l4 := le_up e2.nn
  have wi := within_at fa.nn fb.nn (dn_ix e1.nn).1 (up_ix e2.nn).1 (decide_eq_true ⟨by omega, by omega⟩).symm
  have first : okAll Try.prog [knO, mkO m k w a b, mkO n j v c d, opO 19 a b c d _ _, opO 20 _ _ c d _ _, wiO a b _ _ true] := ⟨known_runs, r1, r2, rs, rx, wi, trivial⟩
  have q1 : fcmp .leq .f64 c 0 = some (decide (ix c ≤ 0)) := by have := leq_ix fc'.nn nn_zero.1; rw [nn_zero.2] at this; exact this
  have q2 : fcmp .geq .f64 d 0 = some (decide (0 ≤ ix d)) := by have := geq_ix fd.nn nn_zero.1; rw [nn_zero.2] at this; exact this
  by_cases h1 : ix c ≤ 0
  · by_cases h2 : 0 ≤ ix d
    · exact tells_of (back0 m k w n j v a b c d _ _ _ _) (okAll_append first ⟨(fc _ rfl _ _).trans (q1.trans (congrArg some (decide_eq_true h1))), (fc _ rfl _ _).trans (q2.trans (congrArg some (decide_eq_true h2))), trivial⟩)
    · obtain ⟨p1, p2, y1, y2, ra, rb, rc⟩ := back_div ba bb bc bd hcd (.inr (by omega))
      exact tells_of (back1 m k w n j v a b c d _ _ _ _ p1 p2 y1 y2) (okAll_append first ⟨(fc _ rfl _ _).trans (q1.trans (congrArg some (decide_eq_true h1))), (fc _ rfl _ _).trans (q2.trans (congrArg some (decide_eq_false h2))), ra, rb, rc, trivial⟩)
  · obtain ⟨p1, p2, y1, y2, ra, rb, rc⟩ := back_div ba bb bc bd hcd (.inl (by omega))
    exact tells_of (back2 m k w n j v a b c d _ _ _ _ p1 p2 y1 y2) (okAll_append first ⟨(fc _ rfl _ _).trans (q1.trans (congrArg some (decide_eq_false h1))), ra, rb, rc, trivial⟩)

end Go.Proofs.Ythajhpilfbijdaa
