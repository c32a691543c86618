/- The law IvJoins returns true, whatever it is handed. -/
import Derived.Test.YthajhpilfbijdaaIvMore
namespace Go.Proofs.Ythajhpilfbijdaa
open Go
set_option linter.unusedVariables false
set_option linter.unusedSimpArgs false
set_option maxRecDepth 100000

noncomputable def joinsS (a b c d x : Nat) (c1 c2 i : Bool) : List Ans :=
  [yes true, isV (fl2 a b), isV (fl2 c d), isV (fl2 (sel c1 c a) (sel c2 d b)), yes true, yes true] ++ (bif c1 then [yes false, yes true] else [yes true]) ++ (bif c2 then [yes false, yes true] else [yes true]) ++ [isV (fl2 a b), yes true, yes i] ++ (bif i then [yes true] else []) ++ [yes true]
noncomputable def joinsL (m k w n j v : Int) (a b c d x : Nat) (c1 c2 i : Bool) : List Obl :=
  [knO, mkO m k w a b, mkO n j v c d, opO 32 a b c d (sel c1 c a) (sel c2 d b), wiO a b (sel c1 c a) (sel c2 d b) true, wiO c d (sel c1 c a) (sel c2 d b) true] ++
  (bif c1 then [cmpF .eql (sel c1 c a) a false, cmpF .eql (sel c1 c a) c true] else [cmpF .eql (sel c1 c a) a true]) ++ (bif c2 then [cmpF .eql (sel c2 d b) b false, cmpF .eql (sel c2 d b) d true] else [cmpF .eql (sel c2 d b) b true]) ++
  [opO 32 a b a b a b, eqO a b a b true, inX x a b i] ++ (bif i then [inX x (sel c1 c a) (sel c2 d b) true] else []) ++ [riO (sel c1 c a) (sel c2 d b) true]
theorem joins_came (m k w n j v : Int) (a b c d x : Nat) (c1 c2 i : Bool) :
    (askN askV1 eqC 12 14 #[.int .i64 m, .int .i64 k, .int .i64 w, .int .i64 n, .int .i64 j, .int .i64 v, .float .f64 x] #[] (joinsS a b c d x c1 c2 i)).map (fun r => (r.1, r.2.2)) = some (.bool true, joinsL m k w n j v a b c d x c1 c2 i) := by
  cases c1 <;> cases c2 <;> cases i <;> kernel_rfl

theorem ivJoins_tells (m k w n j v : Int) (x : Nat) : Tells 14 #[.int .i64 m, .int .i64 k, .int .i64 w, .int .i64 n, .int .i64 j, .int .i64 v, .float .f64 x] #[] (.bool true) := by
  obtain ⟨a, b, r1, ba, bb, hab⟩ := make_runs m k w
  obtain ⟨c, d, r2, bc, bd, hcd⟩ := make_runs n j v
  have na := (ba.fi (by decide)).nn
  have nb := (bb.fi (by decide)).nn
  have nc := (bc.fi (by decide)).nn
  have nd := (bd.fi (by decide)).nn
  obtain ⟨i, ri, hi⟩ := in_any x na nb
  have hJ := join_at na nb nc nd
  have hJa := join_at na nb na nb
  rw [decide_eq_false (by omega), decide_eq_false (by omega)] at hJa
  obtain ⟨p1, p2, p3, p4⟩ := sel_lo (c := decide (ix c < ix a)) nc na rfl
  obtain ⟨q1, q2, q3, q4⟩ := sel_hi (c := decide (ix b < ix d)) nd nb rfl
  generalize hc1 : decide (ix c < ix a) = c1 at *
  generalize hc2 : decide (ix b < ix d) = c2 at *
  refine tells_of (joins_came m k w n j v a b c d x c1 c2 i) ?_
  unfold joinsL
  refine okAll_append (okAll_append (okAll_append (okAll_append (okAll_append ?_ ?_) ?_) ?_) ?_) ?_
  · exact ⟨known_runs, r1, r2, hJ, within_at na nb p1 q1 (decide_eq_true ⟨p3, q3⟩).symm, within_at nc nd p1 q1 (decide_eq_true ⟨p2, q2⟩).symm, trivial⟩
  · cases c1 with
    | true =>
      have := of_decide_eq_true hc1
      exact ⟨(fc _ rfl _ _).trans ((eql_ix nc na).trans (congrArg some (decide_eq_false (by omega)))), (fc _ rfl _ _).trans ((eql_ix nc nc).trans (congrArg some (decide_eq_true rfl))), trivial⟩
    | false => exact ⟨(fc _ rfl _ _).trans ((eql_ix na na).trans (congrArg some (decide_eq_true rfl))), trivial⟩
  · cases c2 with
    | true =>
      have := of_decide_eq_true hc2
      exact ⟨(fc _ rfl _ _).trans ((eql_ix nd nb).trans (congrArg some (decide_eq_false (by omega)))), (fc _ rfl _ _).trans ((eql_ix nd nd).trans (congrArg some (decide_eq_true rfl))), trivial⟩
    | false => exact ⟨(fc _ rfl _ _).trans ((eql_ix nb nb).trans (congrArg some (decide_eq_true rfl))), trivial⟩
  · exact ⟨hJa, eq_at na nb na nb (decide_eq_true ⟨rfl, rfl⟩).symm, ri, trivial⟩
  · cases i with
    | true =>
      obtain ⟨h1, h2, h3⟩ := hi rfl
      exact ⟨in_of p1 q1 h1 (by omega) (by omega), trivial⟩
    | false => trivial
  · exact ⟨right_at ((leq_ix p1 q1).trans (congrArg some (decide_eq_true (by omega)))), trivial⟩

end Go.Proofs.Ythajhpilfbijdaa
