/- math.Ldexp of any whole number that a text may tell: it tells a number, perhaps an infinite one. -/
import Derived.Test.YtameamgamdaibaaDoorScF
namespace Go.Proofs.YtameamgamdaibaaDoor
open Go
set_option linter.unusedVariables false
set_option linter.unusedSimpArgs false
set_option maxRecDepth 100000

/-- Where the exponent lies. -/
theorem F_exp {m : Int} (h0 : m ≠ 0) (h1 : m.natAbs < 9007199254740992) : ∃ s e l, s < 2 ∧ 1023 ≤ e ∧ e ≤ 1075 ∧ l < 4503599627370496 ∧ F m = W3 s e l := by
  obtain ⟨hf, hv⟩ := F_fi h1
  obtain ⟨s, e, l, hs, he, hl, hw⟩ := W3_fields (F m) hf.1
  refine ⟨s, e, l, hs, ?_, ?_, hl, hw⟩
  all_goals
    have hix := ix_W3 hs he hl
    rw [← hw] at hix
    have a1 : ix (F 1) = 4607182418800017408 := by decide +kernel
    have a2 : ix (F 9007199254740991) = 4845873199050653695 := by decide +kernel
    have a3 : ix (F (-1)) = -4607182418800017408 := by decide +kernel
    have a4 : ix (F (-9007199254740991)) = -4845873199050653695 := by decide +kernel
    rcases Int.lt_or_gt_of_ne h0 with hneg | hpos
    · have b1 := F_le (n := m) (m := -1) (by omega)
      have b2 := F_le (n := -9007199254740991) (m := m) (by omega)
      rw [a3] at b1
      rw [a4] at b2
      split at hix <;> omega
    · have b1 := F_le (n := 1) (m := m) (by omega)
      have b2 := F_le (n := m) (m := 9007199254740991) (by omega)
      rw [a1] at b1
      rw [a2] at b2
      split at hix <;> omega

def ldD (x : Nat) (k : Int) : Int := uw ((BitVec.ofInt IntKind.u64.bits (manU x) ||| BitVec.ofInt IntKind.u64.bits (uw (uw (iw (iw (exI x k + 53) + 1023)) * 2 ^ min (Int.toNat 52) IntKind.u64.bits))).toNat)
theorem ldD_eq {s e l : Nat} {k : Int} (hs : s < 2) (he : e < 2048) (hl : l < 4503599627370496) (hk : -3000000 ≤ k) (hk' : k ≤ 3000000) : ldD (W3 s e l) k = ldB (W3 s e l) (k + 53) := by
  have h1 := exI_eq (s := s) (e := e) (l := l) (k := k) hs he hl (by omega) (by omega)
  have h2 := exI_eq (s := s) (e := e) (l := l) (k := k + 53) hs he hl (by omega) (by omega)
  unfold ldD ldB expU
  have h3 : iw (k + (e : Nat) - 1023 + 53) = k + 53 + (e : Nat) - 1023 := by rw [iw_id (by omega) (by omega)]; omega
  rw [h1, h2, h3]
theorem ldexp_over (x r : Nat) (k : Int) (c : Bool) (hr : r = if c then 18442240474082181120 else 9218868437227405312) : (askN askLd expC 12 11 #[.float .f64 x, .int .i64 k] #[] [yes false, isU x, isG (fabs x), yes false, yes false, isU x, isG (fabs x), yes false, isU x, yes false, yes true, yes c, isG r]).map (fun r => (r.1, r.2.2)) =
    some (.float .f64 r, [cmpF .eql x 0 false, bitsO x, fromO (absB x), cmpF .gtr (fabs x) 9218868437227405311 false, cmpF .neq x x false, bitsO x, fromO (absB x), cmpF .lss (fabs x) 4503599627370496 false, bitsO x,
       cmpI .lss (exI x k) (Int.negSucc 1074) false, cmpI .gtr (exI x k) (Int.ofNat 1023) true, cmpF .lss x 0 c, .row (orcD 12).row 45 #[.int .u64 (if c then 18442240474082181120 else 9218868437227405312)] (.float .f64 r)]) := by
  cases c <;> kernel_rfl
theorem ldexp_deno (x : Nat) (k : Int) : (askN askLd expC 12 11 #[.float .f64 x, .int .i64 k] #[] [yes false, isU x, isG (fabs x), yes false, yes false, isU x, isG (fabs x), yes false, isU x, yes false, yes false, yes true, isG (ldD x k).toNat]).map (fun r => (r.1, r.2.2)) =
    some (.float .f64 (fop .mul .f64 4368491638549381120 (ldD x k).toNat), [cmpF .eql x 0 false, bitsO x, fromO (absB x), cmpF .gtr (fabs x) 9218868437227405311 false, cmpF .neq x x false, bitsO x, fromO (absB x), cmpF .lss (fabs x) 4503599627370496 false, bitsO x,
       cmpI .lss (exI x k) (Int.negSucc 1074) false, cmpI .gtr (exI x k) (Int.ofNat 1023) false, cmpI .lss (exI x k) (Int.negSucc 1021) true, fromO (ldD x k)]) := by kernel_rfl

theorem ld_ex {m k : Int} (h0 : m ≠ 0) (h1 : m.natAbs < 9007199254740992) (hk : -1074 ≤ k) (hk2 : k ≤ 1023) : ∃ r, LdOK m k r := by
  obtain ⟨s, e, l, hs, he, he2, hl, hw⟩ := F_exp h0 h1
  suffices hh : ∃ r, Runs Tryd.prog 11 #[.float .f64 (W3 s e l), .int .i64 k] #[] (.float .f64 r) #[] ∧ NN r ∧ ((0 < k + e ∧ k + e < 2047) → ix r = ix (W3 s (k + e).toNat l)) by
    obtain ⟨r, r1, r2, r3⟩ := hh
    refine ⟨r, by rw [hw]; exact r1, r2, fun s' e' l' j' hs' he0' he' hl' hw' hj' hj0' hj2' => ?_⟩
    rw [hw] at hw'
    unfold W3 at hw'
    have e1 : e' = e := by omega
    have e2 : s' = s := by omega
    have e3 : l' = l := by omega
    subst e1 e2 e3
    rw [r3 (by omega)]
    congr 2
    omega
  have hxi := ix_W3 hs (e := e) (by omega) hl
  have hx : Fi (W3 s e l) := by
    refine ⟨W3_lt hs (by omega) hl, ?_, ?_⟩ <;> rw [hxi] <;> split <;> omega
  obtain ⟨ha, hai⟩ := abs_ix hx.nn
  have hbits := row_bits (fi_key hx).1
  have hz : NN 0 ∧ ix 0 = 0 := ⟨⟨by decide, by decide, by decide⟩, by decide⟩
  have hmax : NN 9218868437227405311 ∧ ix 9218868437227405311 = 9218868437227405311 := ⟨⟨by decide, by decide, by decide⟩, by decide⟩
  have hmin : NN 4503599627370496 ∧ ix 4503599627370496 = 4503599627370496 := ⟨⟨by decide, by decide, by decide⟩, by decide⟩
  have hax : ix (fabs (W3 s e l)) = ((4503599627370496 * e + l : Nat) : Int) := by
    rw [hai, hxi]; split <;> omega
  have hE := exI_eq (s := s) (e := e) (l := l) (k := k) hs (by omega) hl (by omega) (by omega)
  have o1 : (cmpF .eql (W3 s e l) 0 false).ok Tryd.prog := by
    refine (fc _ rfl _ _).trans ((eql_ix hx.nn hz.1).trans (congrArg some (decide_eq_false ?_)))
    rw [hxi, hz.2]; split <;> omega
  have o2 : (cmpF .gtr (fabs (W3 s e l)) 9218868437227405311 false).ok Tryd.prog := by
    refine (fc _ rfl _ _).trans ((gtr_ix ha hmax.1).trans (congrArg some (decide_eq_false ?_)))
    rw [hax, hmax.2]; omega
  have o3 : (cmpF .neq (W3 s e l) (W3 s e l) false).ok Tryd.prog := by
    refine (fc _ rfl _ _).trans ((neq_ix hx.nn hx.nn).trans (congrArg some (decide_eq_false ?_)))
    simp
  have o4 : (cmpF .lss (fabs (W3 s e l)) 4503599627370496 false).ok Tryd.prog := by
    refine (fc _ rfl _ _).trans ((lss_ix ha hmin.1).trans (congrArg some (decide_eq_false ?_)))
    rw [hax, hmin.2]; omega
  have o5 : (cmpI .lss (exI (W3 s e l) k) (Int.negSucc 1074) false).ok Tryd.prog := by
    refine (cmp_lss _ _).trans (congrArg some (decide_eq_false ?_))
    rw [hE]; omega
  by_cases hover : k + e ≥ 2047
  · have o6 : (cmpI .gtr (exI (W3 s e l) k) (Int.ofNat 1023) true).ok Tryd.prog := by
      refine (cmp_gtr _ _).trans (congrArg some (decide_eq_true ?_))
      rw [hE, show Int.ofNat 1023 = 1023 from rfl]; omega
    have o7 : (cmpF .lss (W3 s e l) 0 (decide (ix (W3 s e l) < ix 0))).ok Tryd.prog := (fc _ rfl _ _).trans (lss_ix hx.nn hz.1)
    generalize decide (ix (W3 s e l) < ix 0) = c at o7
    refine ⟨if c then 18442240474082181120 else 9218868437227405312, ?_, ?_, fun hc => by omega⟩
    · exact quiet_of' (ldexp_over (W3 s e l) _ k c rfl) ⟨o1, hbits, row_from _, o2, o3, hbits, row_from _, o4, hbits, o5, o6, o7, by cases c <;> exact row_from _, trivial⟩ rfl rfl
    · cases c
      · exact ⟨by decide, by decide, by decide⟩
      · exact ⟨by decide, by decide, by decide⟩
  · by_cases hd : 0 < k + e
    · obtain ⟨j, hj⟩ := Int.eq_ofNat_of_zero_le (show 0 ≤ k + e by omega)
      obtain ⟨r, h1, h2, h3⟩ := ldexp_runs (s := s) (e := e) (l := l) (j := j) (k := k) hs (by omega) hl (by omega) (by omega) (by omega) (by omega) (by omega) (by omega)
      exact ⟨r, h1, h2.nn, fun _ => by rw [h3]; congr 2; omega⟩
    · obtain ⟨j, hj⟩ := Int.eq_ofNat_of_zero_le (show 0 ≤ k + 53 + e by omega)
      have o6 : (cmpI .gtr (exI (W3 s e l) k) (Int.ofNat 1023) false).ok Tryd.prog := by
        refine (cmp_gtr _ _).trans (congrArg some (decide_eq_false ?_))
        rw [hE, show Int.ofNat 1023 = 1023 from rfl]; omega
      have o7 : (cmpI .lss (exI (W3 s e l) k) (Int.negSucc 1021) true).ok Tryd.prog := by
        refine (cmp_lss _ _).trans (congrArg some (decide_eq_true ?_))
        rw [hE]; omega
      have hji := ix_W3 hs (e := j) (by omega) hl
      have hr : Fi (W3 s j l) := by
        refine ⟨W3_lt hs (by omega) hl, ?_, ?_⟩ <;> rw [hji] <;> split <;> omega
      have hb : (ldD (W3 s e l) k).toNat = W3 s j l := by rw [ldD_eq hs (by omega) hl (by omega) (by omega), ldB_eq hs (by omega) hl (by omega) (by omega) hj (by omega)]; omega
      have hc := ldexp_deno (W3 s e l) k
      have hfrom : (fromO (ldD (W3 s e l) k)).ok Tryd.prog := row_from _
      rw [hb] at hc
      have h53 : Fi 4368491638549381120 := ⟨by decide, by decide, by decide⟩
      exact ⟨_, quiet_of' hc ⟨o1, hbits, row_from _, o2, o3, hbits, row_from _, o4, hbits, o5, o6, o7, hfrom, trivial⟩ rfl rfl, (mul_rd h53 hr).nn, fun hc => by omega⟩

/-- What numP lets in may be handed to math.Ldexp. -/
theorem numP_ld {w : List UInt8} {m k : Int} (h : numP w = some (m, k)) (h0 : m ≠ 0) : ∃ r, LdOK m k r := by
  unfold numP at h
  generalize cutC 112 w = ct at h
  obtain ⟨a, b, has⟩ := ct
  simp only at h
  split at h
  · split at h
    · split at h
      · simp only [Option.some.injEq, Prod.mk.injEq] at h; exact absurd h.1.symm h0
      · cases h
    · split at h
      · cases h
      · rename_i hn
        simp only [Option.some.injEq, Prod.mk.injEq] at h
        obtain ⟨rfl, rfl⟩ := h
        exact ld_ex h0 (by omega) (by omega) (by omega)
  · cases h
theorem float_q (w : List UInt8) (hs : w.length < 4294967281) : Runs Tryd.prog 31 #[stL w] #[] (flV (fltP w)) #[] := float_runs w hs (fun m k h h0 => numP_ld h h0) #[]

end Go.Proofs.YtameamgamdaibaaDoor
