/- The law IvMags returns true, whatever it is handed. -/
import Derived.Test.YthajhpilfbijdaaIvMore
namespace Go.Proofs.Ythajhpilfbijdaa
open Go
set_option linter.unusedVariables false
set_option linter.unusedSimpArgs false
set_option maxRecDepth 100000

noncomputable def magsL (m k w n j v : Int) (a b c d e f s1 s2 p1 p2 x1 x2 y1 y2 z1 z2 mx my mz : Nat) : List Obl :=
  [knO, mkO m k w a b, mkO n j v c d, mgO a b e, mgO a b e, imO e e e e, mgO c d f, mgO c d f, imO f f f f, opO 19 e e f f s1 s2, mgO a b e, mgO a b e, imO e e e e, mgO c d f, mgO c d f, imO f f f f, opO 21 e e f f p1 p2,
   opO 19 a b c d x1 x2, mgO x1 x2 mx, cmpF .leq mx s2 true, opO 20 a b c d y1 y2, mgO y1 y2 my, cmpF .leq my s2 true, opO 21 a b c d z1 z2, mgO z1 z2 mz, cmpF .leq mz p2 true, mgO a b e, cmpF .geq e 0 true]
theorem mags_came (m k w n j v : Int) (a b c d e f s1 s2 p1 p2 x1 x2 y1 y2 z1 z2 mx my mz : Nat) :
    (askN askV1 eqC 12 8 #[.int .i64 m, .int .i64 k, .int .i64 w, .int .i64 n, .int .i64 j, .int .i64 v] #[] [yes true, isV (fl2 a b), isV (fl2 c d), isG e, isG e, isV (fl2 e e), isG f, isG f, isV (fl2 f f), isV (fl2 s1 s2), isG e, isG e, isV (fl2 e e), isG f, isG f, isV (fl2 f f), isV (fl2 p1 p2), isV (fl2 x1 x2), isG mx, yes true, isV (fl2 y1 y2), isG my, yes true, isV (fl2 z1 z2), isG mz, yes true, isG e, yes true]).map (fun r => (r.1, r.2.2)) =
      some (.bool true, magsL m k w n j v a b c d e f s1 s2 p1 p2 x1 x2 y1 y2 z1 z2 mx my mz) := by kernel_rfl

theorem rk_mag {i j : Int} (h : (i.natAbs : Int) ≤ j) : (rk i).natAbs ≤ (rk j).natAbs := by
  rw [rk_abs, rk_abs]
  exact rg_mono' (by omega)
theorem rk_nonneg {j : Int} (h : 0 ≤ j) : ((rk j).natAbs : Int) = rk j := by
  have := rk_le h
  rw [rk_zero] at this
  omega

/-- What is rounded from no more than something, with either sign. -/
theorem Rd.within {Q Q' : Nat} {Z Z' i i' : Int} (hQ : 0 < Q) (hQ' : 0 < Q') (h : Rd Q Z i) (h' : Rd Q' Z' i') (hz : (Z.natAbs : Int) * Q' ≤ Z' * Q) : (i.natAbs : Int) ≤ i' := by
  have u := h.mono hQ hQ' h' (Int.le_trans (Int.mul_le_mul_of_nonneg_right (by omega) (by omega)) hz)
  have l := h.neg.mono hQ hQ' h' (Int.le_trans (Int.mul_le_mul_of_nonneg_right (by omega) (by omega)) hz)
  omega

/-- The size of what is from one below to one above is no more than one above the greatest size. -/
theorem mag_out {x y e u : Nat} (hx : NN x) (hy : NN y) (hu : NN u) (h1 : ((ix x).natAbs : Int) ≤ ix u) (h2 : ((ix y).natAbs : Int) ≤ ix u) (he : ix e = (ix (dn x)).natAbs ∨ ix e = (ix (up y)).natAbs) : ix e ≤ ix (up u) := by
  have := (dn_ix hx).2
  have := (up_ix hy).2
  have e3 := (up_ix hu).2
  have := hx.2; have := hy.2; have := hu.2
  rw [e3]
  rcases he with h | h <;> rw [h]
  · rw [(dn_ix hx).2]; split <;> split <;> omega
  · rw [(up_ix hy).2]; split <;> split <;> omega

theorem ivMags_tells (m k w n j v : Int) : Tells 8 #[.int .i64 m, .int .i64 k, .int .i64 w, .int .i64 n, .int .i64 j, .int .i64 v] #[] (.bool true) := by
  obtain ⟨a, b, r1, ba, bb, hab⟩ := make_runs m k w
  obtain ⟨c, d, r2, bc, bd, hcd⟩ := make_runs n j v
  have fa := ba.fi (by decide)
  have fb := bb.fi (by decide)
  have fc' := bc.fi (by decide)
  have fd := bd.fi (by decide)
  obtain ⟨e, re, ne, ea, eb, ee⟩ := mag_at fa.nn fb.nn
  obtain ⟨f, rf, nf, ec, ed, ef⟩ := mag_at fc'.nn fd.nn
  have fe : Fi e := ⟨ne.1, by have := fa.2; have := fb.2; omega, by have := fa.2; have := fb.2; omega⟩
  have ff : Fi f := ⟨nf.1, by have := fc'.2; have := fd.2; omega, by have := fc'.2; have := fd.2; omega⟩
  have ge : 0 ≤ ix e := by omega
  have gf : 0 ≤ ix f := by omega
  have ime := imake_at ((leq_ix ne ne).trans (congrArg some (decide_eq_true (Int.le_refl _))))
  have imf := imake_at ((leq_ix nf nf).trans (congrArg some (decide_eq_true (Int.le_refl _))))
  have rs := add_fi fe fe ff ff (Int.le_refl _) (Int.le_refl _)
  obtain ⟨plo, phi, pe, rp⟩ := mul_fi fe fe ff ff
  have rx := add_fi fa fb fc' fd hab hcd
  have ry := sub_fi fa fb fc' fd hab hcd
  obtain ⟨zlo, zhi, ze, rz⟩ := mul_fi fa fb fc' fd
  have s := add_rd fe ff
  -- sizes of sums
  have ka : (kv a).natAbs ≤ (kv e).natAbs := rk_mag ea
  have kb : (kv b).natAbs ≤ (kv e).natAbs := rk_mag eb
  have kc : (kv c).natAbs ≤ (kv f).natAbs := rk_mag ec
  have kd : (kv d).natAbs ≤ (kv f).natAbs := rk_mag ed
  have pe' : ((kv e).natAbs : Int) = kv e := rk_nonneg ge
  have pf' : ((kv f).natAbs : Int) = kv f := rk_nonneg gf
  have sum : ∀ {Z i : Int}, Rd 1 Z i → Z.natAbs ≤ (kv e).natAbs + (kv f).natAbs → (i.natAbs : Int) ≤ ix (fop .add .f64 e f) := fun h hz =>
    h.within (by decide) (by decide) s.2 (by omega)
  have x1 := sum (add_rd fa fc').2 (by omega)
  have x2 := sum (add_rd fb fd).2 (by omega)
  have y1 := sum (sub_rd fa fd).2 (by omega)
  have y2 := sum (sub_rd fb fc').2 (by omega)
  -- sizes of products
  have q := mul_rd fe ff
  have prod : ∀ {x y : Nat}, Fi x → Fi y → (kv x).natAbs ≤ (kv e).natAbs → (kv y).natAbs ≤ (kv f).natAbs → ((ix (fop .mul .f64 x y)).natAbs : Int) ≤ ix (fop .mul .f64 e f) := by
    intro x y hx hy h1 h2
    refine (mul_rd hx hy).2.within un_pos un_pos q.2 ?_
    refine Int.mul_le_mul_of_nonneg_right ?_ (Int.natCast_nonneg _)
    rw [← pe', ← pf', Int.natAbs_mul, ← Int.natCast_mul]
    exact Int.ofNat_le.2 (Nat.mul_le_mul h1 h2)
  have z1 := prod fa fc' ka kc
  have z2 := prod fa fd ka kd
  have z3 := prod fb fc' kb kc
  have z4 := prod fb fd kb kd
  have zl : ((ix zlo).natAbs : Int) ≤ ix (fop .mul .f64 e f) := by rcases ze.lo_is with h | h | h | h <;> rw [h] <;> assumption
  have zh : ((ix zhi).natAbs : Int) ≤ ix (fop .mul .f64 e f) := by rcases ze.hi_is with h | h | h | h <;> rw [h] <;> assumption
  have ph : ix phi = ix (fop .mul .f64 e f) := by rcases pe.hi_is with h | h | h | h <;> rw [h]
  obtain ⟨mx, rmx, nmx, _, _, emx⟩ := mag_at (dn_ix (add_rd fa fc').nn).1 (up_ix (add_rd fb fd).nn).1
  obtain ⟨my, rmy, nmy, _, _, emy⟩ := mag_at (dn_ix (sub_rd fa fd).nn).1 (up_ix (sub_rd fb fc').nn).1
  obtain ⟨mz, rmz, nmz, _, _, emz⟩ := mag_at (dn_ix ze.nlo).1 (up_ix ze.nhi).1
  have us := (up_ix s.nn).1
  have up' := (up_ix pe.nhi).1
  refine tells_of (mags_came m k w n j v a b c d e f _ _ _ _ _ _ _ _ _ _ mx my mz) ⟨known_runs, r1, r2, re, re, ime, rf, rf, imf, rs, re, re, ime, rf, rf, imf, rp, rx, rmx,
    (fc _ rfl _ _).trans ((leq_ix nmx us).trans (congrArg some (decide_eq_true (mag_out (add_rd fa fc').nn (add_rd fb fd).nn s.nn x1 x2 emx)))), ry, rmy,
    (fc _ rfl _ _).trans ((leq_ix nmy us).trans (congrArg some (decide_eq_true (mag_out (sub_rd fa fd).nn (sub_rd fb fc').nn s.nn y1 y2 emy)))), rz, rmz,
    (fc _ rfl _ _).trans ((leq_ix nmz up').trans (congrArg some (decide_eq_true (mag_out ze.nlo ze.nhi pe.nhi (by rw [ph]; exact zl) (by rw [ph]; exact zh) emz)))), re,
    (fc _ rfl _ _).trans ((geq_ix ne nn_zero.1).trans (congrArg some (decide_eq_true (by rw [nn_zero.2]; exact ge)))), trivial⟩

end Go.Proofs.Ythajhpilfbijdaa
