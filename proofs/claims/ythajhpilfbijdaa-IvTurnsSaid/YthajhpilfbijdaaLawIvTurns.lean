/- The law IvTurns returns true, whatever it is handed. -/
import Derived.Test.YthajhpilfbijdaaIvMono
namespace Go.Proofs.Ythajhpilfbijdaa
open Go
set_option linter.unusedVariables false
set_option linter.unusedSimpArgs false
set_option maxRecDepth 100000

noncomputable def turnsL (m k w n j v : Int) (a b c d s1 s2 d1 d2 a1 a2 b1 b2 p1 p2 q1 q2 j1 j2 g1 g2 : Nat) : List Obl :=
  [knO, mkO m k w a b, mkO n j v c d, opO 20 a b c d s1 s2, opO 20 c d a b d1 d2, opO 19 a b c d a1 a2, opO 19 c d a b b1 b2, eqO a1 a2 b1 b2 true,
    opO 21 a b c d p1 p2, opO 21 c d a b q1 q2, eqO p1 p2 q1 q2 true, eqO s1 s2 (fop .sub .f64 0 d2) (fop .sub .f64 0 d1) true, opO 32 a b c d j1 j2, opO 32 c d a b g1 g2, eqO j1 j2 g1 g2 true]
theorem turns_came (m k w n j v : Int) (a b c d s1 s2 d1 d2 a1 a2 b1 b2 p1 p2 q1 q2 j1 j2 g1 g2 : Nat) :
    (askN askV1 eqC 12 11 #[.int .i64 m, .int .i64 k, .int .i64 w, .int .i64 n, .int .i64 j, .int .i64 v] #[] [yes true, isV (fl2 a b), isV (fl2 c d), isV (fl2 s1 s2), isV (fl2 d1 d2), isV (fl2 a1 a2), isV (fl2 b1 b2), yes true, isV (fl2 p1 p2), isV (fl2 q1 q2), yes true, yes true, isV (fl2 j1 j2), isV (fl2 g1 g2), yes true]).map (fun r => (r.1, r.2.2)) =
      some (.bool true, turnsL m k w n j v a b c d s1 s2 d1 d2 a1 a2 b1 b2 p1 p2 q1 q2 j1 j2 g1 g2) := by kernel_rfl

theorem ivTurns_tells (m k w n j v : Int) : Tells 11 #[.int .i64 m, .int .i64 k, .int .i64 w, .int .i64 n, .int .i64 j, .int .i64 v] #[] (.bool true) := by
  obtain ⟨a, b, r1, ba, bb, hab⟩ := make_runs m k w
  obtain ⟨c, d, r2, bc, bd, hcd⟩ := make_runs n j v
  have fa := ba.fi (by decide)
  have fb := bb.fi (by decide)
  have fc' := bc.fi (by decide)
  have fd := bd.fi (by decide)
  have rs := sub_fi fa fb fc' fd hab hcd
  have rd := sub_fi fc' fd fa fb hcd hab
  have ra := add_fi fa fb fc' fd hab hcd
  have rb := add_fi fc' fd fa fb hcd hab
  obtain ⟨lo, hi, he, rp⟩ := mul_fi fa fb fc' fd
  obtain ⟨lo', hi', he', rq⟩ := mul_fi fc' fd fa fb
  have rj := join_at fa.nn fb.nn fc'.nn fd.nn
  have rg := join_at fc'.nn fd.nn fa.nn fb.nn
  obtain ⟨j1, _, _, j4⟩ := sel_lo fc'.nn fa.nn rfl
  obtain ⟨k1, _, _, k4⟩ := sel_hi fd.nn fb.nn rfl
  obtain ⟨g1, _, _, g4⟩ := sel_lo fa.nn fc'.nn rfl
  obtain ⟨h1, _, _, h4⟩ := sel_hi fb.nn fd.nn rfl
  have x1 := add_rd fa fc'
  have x2 := add_rd fb fd
  have y1 := add_rd fc' fa
  have y2 := add_rd fd fb
  have s1 := sub_rd fa fd
  have s2 := sub_rd fb fc'
  have t1 := sub_rd fc' fb
  have t2 := sub_rd fd fa
  have eqa : (eqO _ _ _ _ true).ok Try.prog := eq_at (dn_ix x1.nn).1 (up_ix x2.nn).1 (dn_ix y1.nn).1 (up_ix y2.nn).1 (decide_eq_true ⟨dn_eq x1.nn y1.nn (x1.same_ix (by decide) y1 (by omega)), up_eq x2.nn y2.nn (x2.same_ix (by decide) y2 (by omega))⟩).symm
  -- the products
  have m1 := (mul_rd fa fc').same_ix un_pos (mul_rd fc' fa) (Int.mul_comm ..)
  have m2 := (mul_rd fa fd).same_ix un_pos (mul_rd fd fa) (Int.mul_comm ..)
  have m3 := (mul_rd fb fc').same_ix un_pos (mul_rd fc' fb) (Int.mul_comm ..)
  have m4 := (mul_rd fb fd).same_ix un_pos (mul_rd fd fb) (Int.mul_comm ..)
  have e1 := he.ge he' (fun x hx => by rcases hx with rfl | rfl | rfl | rfl <;> constructor <;> omega)
  have e2 := he'.ge he (fun x hx => by rcases hx with rfl | rfl | rfl | rfl <;> constructor <;> omega)
  have eqp : (eqO _ _ _ _ true).ok Try.prog := eq_at (dn_ix he.nlo).1 (up_ix he.nhi).1 (dn_ix he'.nlo).1 (up_ix he'.nhi).1 (decide_eq_true ⟨dn_eq he.nlo he'.nlo (by omega), up_eq he.nhi he'.nhi (by omega)⟩).symm
  -- differences
  obtain ⟨n1, n2⟩ := neg_ix (up_ix t2.nn).1
  obtain ⟨n3, n4⟩ := neg_ix (dn_ix t1.nn).1
  have z1 := s1.turn_ix (by decide) t2 (by omega)
  have z2 := s2.turn_ix (by decide) t1 (by omega)
  have eqs : (eqO _ _ _ _ true).ok Try.prog := eq_at (dn_ix s1.nn).1 (up_ix s2.nn).1 n1 n3 (decide_eq_true ⟨by
    rw [n2, (dn_ix s1.nn).2, (up_ix t2.nn).2, z1]
    split <;> split <;> omega, by
    rw [n4, (up_ix s2.nn).2, (dn_ix t1.nn).2, z2]
    split <;> split <;> omega⟩).symm
  have eqj : (eqO _ _ _ _ true).ok Try.prog := eq_at j1 k1 g1 h1 (decide_eq_true ⟨by
    by_cases h : ix c < ix a
    · rw [decide_eq_true h, decide_eq_false (show ¬ ix a < ix c by omega)]; rfl
    · by_cases h' : ix a < ix c
      · rw [decide_eq_false h, decide_eq_true h']; rfl
      · rw [decide_eq_false h, decide_eq_false h']; show ix a = ix c; omega, by
    by_cases h : ix b < ix d
    · rw [decide_eq_true h, decide_eq_false (show ¬ ix d < ix b by omega)]; rfl
    · by_cases h' : ix d < ix b
      · rw [decide_eq_false h, decide_eq_true h']; rfl
      · rw [decide_eq_false h, decide_eq_false h']; show ix b = ix d; omega⟩).symm
  exact tells_of (turns_came m k w n j v a b c d _ _ _ _ _ _ _ _ _ _ _ _ _ _ _ _) ⟨known_runs, r1, r2, rs, rd, ra, rb, eqa, rp, rq, eqp, eqs, rj, rg, eqj, trivial⟩

end Go.Proofs.Ythajhpilfbijdaa
