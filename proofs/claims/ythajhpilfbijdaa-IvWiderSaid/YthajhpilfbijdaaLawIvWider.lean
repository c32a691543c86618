/- The law IvWider returns true, whatever it is handed. -/
import Derived.Test.YthajhpilfbijdaaIvMono
import Derived.Test.YthajhpilfbijdaaIvInf
namespace Go.Proofs.Ythajhpilfbijdaa
open Go
set_option linter.unusedVariables false
set_option linter.unusedSimpArgs false
set_option maxRecDepth 100000

noncomputable def widerL (m k w n j v more wa wb : Int) (a b c d s1 s2 d1 d2 a1 a2 b1 b2 p1 p2 q1 q2 h1 h2 i1 i2 j1 j2 g1 g2 : Nat) : List Obl :=
  let c' := fop .sub .f64 a (F wa)
  let d' := fop .add .f64 d (F wb)
  [knO, mkO m k w a b, mkO n j v c d, witO more 9 wa, witO (iw (more.tdiv 9)) 9 wb,
    opO 19 a b c d s1 s2, opO 19 c' b c d' d1 d2, wiO s1 s2 d1 d2 true,
    opO 20 a b c d a1 a2, opO 20 c' b c d' b1 b2, wiO a1 a2 b1 b2 true,
    opO 21 a b c d p1 p2, opO 21 c' b c d' q1 q2, wiO p1 p2 q1 q2 true,
    opO 22 a b c d h1 h2, opO 22 c' b c d' i1 i2, wiO h1 h2 i1 i2 true,
    opO 32 a b c d j1 j2, wiO a b j1 j2 true, opO 32 a b c d j1 j2, wiO c d j1 j2 true,
    mgO c' b g1, mgO a b g2, witO more 9 wa, cmpF .geq g1 (fop .sub .f64 g2 (F wa)) true]
theorem wider_came (m k w n j v more wa wb : Int) (a b c d s1 s2 d1 d2 a1 a2 b1 b2 p1 p2 q1 q2 h1 h2 i1 i2 j1 j2 g1 g2 : Nat) :
    (askN askV1 eqC 12 13 #[.int .i64 m, .int .i64 k, .int .i64 w, .int .i64 n, .int .i64 j, .int .i64 v, .int .i64 more] #[] [yes true, isV (fl2 a b), isV (fl2 c d), isI wa, isI wb, isV (fl2 s1 s2), isV (fl2 d1 d2), yes true, isV (fl2 a1 a2), isV (fl2 b1 b2), yes true, isV (fl2 p1 p2), isV (fl2 q1 q2), yes true, isV (fl2 h1 h2), isV (fl2 i1 i2), yes true, isV (fl2 j1 j2), yes true, isV (fl2 j1 j2), yes true, isG g1, isG g2, isI wa, yes true]).map (fun r => (r.1, r.2.2)) =
      some (.bool true, widerL m k w n j v more wa wb a b c d s1 s2 d1 d2 a1 a2 b1 b2 p1 p2 q1 q2 h1 h2 i1 i2 j1 j2 g1 g2) := by kernel_rfl

theorem F_bd9 {n : Int} (h0 : 0 ≤ n) (h : n < 9) : Bd 1075 (F n) ∧ 0 ≤ ix (F n) := by
  have h1 := F_le h0
  rw [F_zero] at h1
  refine ⟨⟨(F_rd n).1, ?_⟩, h1⟩
  by_cases hn : n = 0
  · subst hn; rw [F_zero]; decide
  · exact (F_size hn (by omega)).2

/-- Quotients by what is wider are wider. -/
theorem div_wider {a b c d a' d' : Nat} (fa : Fi a) (fb : Fi b) (fc : Fi c) (fd : Fi d) (fa' : Fi a') (fd' : Fi d') (hab : ix a ≤ ix b) (hcd : ix c ≤ ix d) (h1 : ix a' ≤ ix a) (h2 : ix d ≤ ix d') :
    ∃ p1 p2 q1 q2, Runs Try.prog 22 #[fl2 a b, fl2 c d] #[] (fl2 p1 p2) #[] ∧ Runs Try.prog 22 #[fl2 a' b, fl2 c d'] #[] (fl2 q1 q2) #[] ∧ Runs Try.prog 35 #[fl2 p1 p2, fl2 q1 q2] #[] (.bool true) #[] := by
  by_cases hz : 0 < ix c ∨ ix d' < 0
  · obtain ⟨lo, hi, he, hr⟩ := div_fi fa fb fc fd (by omega) hcd
    obtain ⟨lo', hi', he', hr'⟩ := div_fi fa' fb fc fd' hz (by omega)
    refine ⟨_, _, _, _, hr, hr', within_at (dn_ix he.nlo).1 (up_ix he.nhi).1 (dn_ix he'.nlo).1 (up_ix he'.nhi).1 (decide_eq_true ?_).symm⟩
    have := he'.ge he (fun x hx => by
      rcases hx with rfl | rfl | rfl | rfl
      · exact quo_corner fa' fb fc fd' fa fc h1 hab (by omega) (by omega) hz
      · exact quo_corner fa' fb fc fd' fa fd h1 hab (by omega) (by omega) hz
      · exact quo_corner fa' fb fc fd' fb fc (by omega) (by omega) (by omega) (by omega) hz
      · exact quo_corner fa' fb fc fd' fb fd (by omega) (by omega) (by omega) (by omega) hz)
    exact ⟨dn_mono he'.nlo he.nlo this.1, up_mono he.nhi he'.nhi this.2⟩
  · obtain ⟨p, q, hr, np, nq, _⟩ := div_any a b fc.nn fd.nn
    have hw := div_zero (a := a') (b := b) (in_yes nn_zero.1 fc.nn fd'.nn (by rw [nn_zero.2]; omega) (by rw [nn_zero.2]; omega))
    refine ⟨_, _, _, _, hr, hw, within_at np nq ninf_nn.1 pinf_nn.1 (decide_eq_true ?_).symm⟩
    have e1 := ninf_nn.2
    have e2 := pinf_nn.2
    unfold ninf at e1
    unfold pinf at e2
    rw [e1, e2]
    exact ⟨np.2.1, nq.2.2⟩

theorem ivWider_tells (m k w n j v more : Int) : Tells 13 #[.int .i64 m, .int .i64 k, .int .i64 w, .int .i64 n, .int .i64 j, .int .i64 v, .int .i64 more] #[] (.bool true) := by
  obtain ⟨a, b, r1, ba, bb, hab⟩ := make_runs m k w
  obtain ⟨c, d, r2, bc, bd, hcd⟩ := make_runs n j v
  have wi : ∀ z : Int, 0 ≤ z % 9 ∧ z % 9 < 9 ∧ Runs Try.prog 17 #[.int .i64 z, .int .i64 9] #[] (.int .i64 (z % 9)) #[] := fun z => ⟨Int.emod_nonneg z (by decide), Int.emod_lt_of_pos z (by decide), within2 z 8 (by decide)⟩
  obtain ⟨p1, p2, p3⟩ := wi more
  obtain ⟨q1, q2, q3⟩ := wi (iw (more.tdiv 9))
  obtain ⟨fp, gp⟩ := F_bd9 p1 p2
  obtain ⟨fq, gq⟩ := F_bd9 q1 q2
  generalize more % 9 = wa at *
  generalize iw (more.tdiv 9) % 9 = wb at *
  have fa := ba.fi (by decide)
  have fb := bb.fi (by decide)
  have fc' := bc.fi (by decide)
  have fd := bd.fi (by decide)
  have fw := fp.fi (by decide)
  have fa' := (ba.sub fp (by decide) (by decide)).fi (by decide)
  have fd' := (bd.add fq (by decide) (by decide)).fi (by decide)
  have l1 := sub_le fa fw gp
  have l2 := add_ge fd (fq.fi (by decide)) gq
  have hfa' := sub_rd fa fw
  generalize hA : fop .sub .f64 a (F wa) = a' at *
  generalize hD : fop .add .f64 d (F wb) = d' at *
  have ra := add_fi fa fb fc' fd hab hcd
  have ra' := add_fi fa' fb fc' fd' (by omega) (by omega)
  have wa1 := within_at (dn_ix (add_rd fa fc').nn).1 (up_ix (add_rd fb fd).nn).1 (dn_ix (add_rd fa' fc').nn).1 (up_ix (add_rd fb fd').nn).1
    (decide_eq_true ⟨dn_mono (add_rd fa' fc').nn (add_rd fa fc').nn (add_mono fa' fc' fa fc' l1 (Int.le_refl _)), up_mono (add_rd fb fd).nn (add_rd fb fd').nn (add_mono fb fd fb fd' (Int.le_refl _) l2)⟩).symm
  have rs := sub_fi fa fb fc' fd hab hcd
  have rs' := sub_fi fa' fb fc' fd' (by omega) (by omega)
  have ws := within_at (dn_ix (sub_rd fa fd).nn).1 (up_ix (sub_rd fb fc').nn).1 (dn_ix (sub_rd fa' fd').nn).1 (up_ix (sub_rd fb fc').nn).1
    (decide_eq_true ⟨dn_mono (sub_rd fa' fd').nn (sub_rd fa fd).nn (sub_mono fa' fd' fa fd l1 l2), Int.le_refl _⟩).symm
  obtain ⟨lo, hi, he, rm⟩ := mul_fi fa fb fc' fd
  obtain ⟨lo', hi', he', rm'⟩ := mul_fi fa' fb fc' fd'
  have wm := within_at (dn_ix he.nlo).1 (up_ix he.nhi).1 (dn_ix he'.nlo).1 (up_ix he'.nhi).1 (decide_eq_true (by
    have := he'.ge he (fun x hx => by
      rcases hx with rfl | rfl | rfl | rfl
      · exact mul_corner fa' fb fc' fd' fa fc' l1 hab (by omega) (by omega)
      · exact mul_corner fa' fb fc' fd' fa fd l1 hab (by omega) (by omega)
      · exact mul_corner fa' fb fc' fd' fb fc' (by omega) (by omega) (by omega) (by omega)
      · exact mul_corner fa' fb fc' fd' fb fd (by omega) (by omega) (by omega) (by omega))
    exact ⟨dn_mono he'.nlo he.nlo this.1, up_mono he.nhi he'.nhi this.2⟩)).symm
  obtain ⟨u1, u2, v1, v2, rd, rd', wd⟩ := div_wider fa fb fc' fd fa' fd' hab hcd l1 l2
  have rj := join_at fa.nn fb.nn fc'.nn fd.nn
  obtain ⟨j1, j2, j3, _⟩ := sel_lo (x := c) (y := a) fc'.nn fa.nn rfl
  obtain ⟨k1, k2, k3, _⟩ := sel_hi (x := d) (y := b) fd.nn fb.nn rfl
  have wj1 := within_at fa.nn fb.nn j1 k1 (decide_eq_true ⟨by omega, by omega⟩).symm
  have wj2 := within_at fc'.nn fd.nn j1 k1 (decide_eq_true ⟨by omega, by omega⟩).symm
  obtain ⟨e, re, ne, ea, eb, ee⟩ := mag_at fa'.nn fb.nn
  obtain ⟨f, rf, nf, ec, ed, ef⟩ := mag_at fa.nn fb.nn
  have ff : Fi f := ⟨nf.1, by have := fa.2; have := fb.2; omega, by have := fa.2; have := fb.2; omega⟩
  have sf := sub_le ff fw gp
  have last : ix (fop .sub .f64 f (F wa)) ≤ ix e := by
    rcases ef with h | h
    · by_cases h0 : 0 ≤ ix a
      · have : ix (fop .sub .f64 f (F wa)) = ix a' := (sub_rd ff fw).same_ix (by decide) hfa' (by
          have : ix f = ix a := by omega
          unfold kv
          rw [this])
        omega
      · omega
    · omega
  have := tells_of (wider_came m k w n j v more wa wb a b c d _ _ _ _ _ _ _ _ _ _ _ _ _ _ _ _ _ _ _ _) ⟨known_runs, r1, r2, p3, q3, ra, ?_, wa1, rs, ?_, ws, rm, ?_, wm, rd, ?_, wd, rj, wj1, rj, wj2, ?_, rf, p3, (fc _ rfl _ _).trans ((geq_ix ne (by exact (sub_rd ff fw).nn)).trans (congrArg some (decide_eq_true last))), trivial⟩
  · exact this
  · rw [hA, hD]; exact ra'
  · rw [hA, hD]; exact rs'
  · rw [hA, hD]; exact rm'
  · rw [hA, hD]; exact rd'
  · rw [hA]; exact re

end Go.Proofs.Ythajhpilfbijdaa
