/- The law IvWithin returns true, whatever it is handed. -/
import Derived.Test.YthajhpilfbijdaaIvMore
namespace Go.Proofs.Ythajhpilfbijdaa
open Go
set_option linter.unusedVariables false
set_option linter.unusedSimpArgs false
set_option maxRecDepth 100000

noncomputable def ivWithinL (m k w p q r t p0 q0 r0 t0 : Int) (a b : Nat) (e : Bool) : List Obl :=
  let c := fop .sub .f64 a (F p0)
  let d := fop .add .f64 b (F q0)
  let f := fop .sub .f64 c (F r0)
  let g := fop .add .f64 d (F t0)
  [knO, mkO m k w a b, witO p 4 p0, witO q 4 q0, witO r 4 r0, witO t 4 t0, wiO a b a b true, wiO a b c d true, wiO c d f g true, wiO a b f g true, inX a f g true, inX b c d true, wiO f g a b e, eqO f g a b e]
theorem ivWithin_came (m k w p q r t p0 q0 r0 t0 : Int) (a b : Nat) (e : Bool) :
    (askN askV1 eqC 12 10 #[.int .i64 m, .int .i64 k, .int .i64 w, .int .i64 p, .int .i64 q, .int .i64 r, .int .i64 t] #[] [yes true, isV (fl2 a b), isI p0, isI q0, isI r0, isI t0, yes true, yes true, yes true, yes true, yes true, yes true, yes e, yes e]).map (fun r => (r.1, r.2.2)) = some (.bool true, ivWithinL m k w p q r t p0 q0 r0 t0 a b e) := by
  cases e <;> kernel_rfl

theorem F_bd {n : Int} (h0 : 0 ≤ n) (h : n < 4) : Bd 1075 (F n) ∧ 0 ≤ ix (F n) := by
  have h1 := F_le h0
  rw [F_zero] at h1
  refine ⟨⟨(F_rd n).1, ?_⟩, h1⟩
  by_cases hn : n = 0
  · subst hn; rw [F_zero]; decide
  · exact (F_size hn (by omega)).2

theorem ivWithin_tells (m k w p q r t : Int) : Tells 10 #[.int .i64 m, .int .i64 k, .int .i64 w, .int .i64 p, .int .i64 q, .int .i64 r, .int .i64 t] #[] (.bool true) := by
  obtain ⟨a, b, r1, ba, bb, hab⟩ := make_runs m k w
  have wi : ∀ z : Int, 0 ≤ z % 4 ∧ z % 4 < 4 ∧ Runs Try.prog 17 #[.int .i64 z, .int .i64 4] #[] (.int .i64 (z % 4)) #[] := fun z => ⟨Int.emod_nonneg z (by decide), Int.emod_lt_of_pos z (by decide), within2 z 3 (by decide)⟩
  obtain ⟨p1, p2, p3⟩ := wi p
  obtain ⟨q1, q2, q3⟩ := wi q
  obtain ⟨s1, s2, s3⟩ := wi r
  obtain ⟨t1, t2, t3⟩ := wi t
  obtain ⟨fp, gp⟩ := F_bd p1 p2
  obtain ⟨fq, gq⟩ := F_bd q1 q2
  obtain ⟨fr, gr⟩ := F_bd s1 s2
  obtain ⟨ft, gt⟩ := F_bd t1 t2
  generalize p % 4 = p0 at *
  generalize q % 4 = q0 at *
  generalize r % 4 = r0 at *
  generalize t % 4 = t0 at *
  have fa := ba.fi (by decide)
  have fb := bb.fi (by decide)
  have bc := ba.sub fp (by decide) (by decide)
  have bd := bb.add fq (by decide) (by decide)
  have bf := bc.sub (fr.mono (m := 1076) (by decide)) (by decide) (by decide)
  have bg := bd.add (ft.mono (m := 1076) (by decide)) (by decide) (by decide)
  have l1 := sub_le fa (fp.fi (by decide)) gp
  have l2 := add_ge fb (fq.fi (by decide)) gq
  have l3 := sub_le (bc.fi (by decide)) (fr.fi (by decide)) gr
  have l4 := add_ge (bd.fi (by decide)) (ft.fi (by decide)) gt
  have fc' := (bc.fi (by decide)).nn
  have fd := (bd.fi (by decide)).nn
  have ff := (bf.fi (by decide)).nn
  have fg := (bg.fi (by decide)).nn
  refine tells_of (ivWithin_came m k w p q r t p0 q0 r0 t0 a b (decide (ix a ≤ ix (fop .sub .f64 (fop .sub .f64 a (F p0)) (F r0)) ∧ ix (fop .add .f64 (fop .add .f64 b (F q0)) (F t0)) ≤ ix b))) ?_
  refine ⟨known_runs, r1, p3, q3, s3, t3, within_at fa.nn fb.nn fa.nn fb.nn (decide_eq_true ⟨Int.le_refl _, Int.le_refl _⟩).symm, within_at fa.nn fb.nn fc' fd (decide_eq_true ⟨l1, l2⟩).symm, within_at fc' fd ff fg (decide_eq_true ⟨l3, l4⟩).symm,
    within_at fa.nn fb.nn ff fg (decide_eq_true ⟨by omega, by omega⟩).symm, in_yes fa.nn ff fg (by omega) (by omega), in_yes fb.nn fc' fd (by omega) (by omega), within_at ff fg fa.nn fb.nn rfl, eq_at ff fg fa.nn fb.nn ?_, trivial⟩
  congr 1
  apply propext
  constructor
  · intro h; omega
  · intro h; omega

end Go.Proofs.Ythajhpilfbijdaa
