/- The law IvHolds returns true, whatever the numbers that it is handed. -/
import Derived.Test.YthajhpilfbijdaaIvZ
namespace Go.Proofs.Ythajhpilfbijdaa
open Go
set_option linter.unusedVariables false
set_option linter.unusedSimpArgs false
set_option maxRecDepth 100000

/-- What is asked for first: the numbers. -/
noncomputable def holdsL (a b c d p q x0 y0 b0 d0 p0 q0 : Int) (A1 B1 A2 B2 A3 B3 : Nat) : List Obl :=
  let X := W (x0 - 1000)
  let Y := W (y0 - 1000)
  let V := W (X + b0)
  let Q := W (Y + d0)
  let S := W (X + p0)
  let T := W (Y + q0)
  [.run 16 #[] #[] (.bool true) #[], withinO a 2001 x0, withinO c 2001 y0, withinO b 100 b0, withinO d 100 d0, withinO p (W (W (V - X) + 1)) p0, withinO q (W (W (Q - Y) + 1)) q0,
   ivO 19 (F X) (F V) (F Y) (F Q) A1 B1, inO (W (S + T)) A1 B1, ivO 20 (F X) (F V) (F Y) (F Q) A2 B2, inO (W (S - T)) A2 B2, ivO 21 (F X) (F V) (F Y) (F Q) A3 B3, inO (W (S * T)) A3 B3]
def holdsS (x0 y0 b0 d0 p0 q0 : Int) (A1 B1 A2 B2 A3 B3 : Nat) : List Ans :=
  [yes true, isI x0, isI y0, isI b0, isI d0, isI p0, isI q0, isV (ivV A1 B1), yes true, isV (ivV A2 B2), yes true, isV (ivV A3 B3), yes true]

noncomputable def holdsR (a b c d p q x0 y0 b0 d0 p0 q0 : Int) (A1 B1 A2 B2 A3 B3 : Nat) (s : List Ans) : Option (Value × List Obl) :=
  (askN askH intC 12 3 #[.int .i64 a, .int .i64 b, .int .i64 c, .int .i64 d, .int .i64 p, .int .i64 q] #[] (holdsS x0 y0 b0 d0 p0 q0 A1 B1 A2 B2 A3 B3 ++ s)).map (fun r => (r.1, r.2.2))

theorem holds_zero (a b c d p q x0 y0 b0 d0 p0 q0 : Int) (A1 B1 A2 B2 A3 B3 : Nat) :
    holdsR a b c d p q x0 y0 b0 d0 p0 q0 A1 B1 A2 B2 A3 B3 [yes true, isV wholeV] =
      some (.bool true, holdsL a b c d p q x0 y0 b0 d0 p0 q0 A1 B1 A2 B2 A3 B3 ++ [.cmp .eql 3 (.int .i64 (W (W (y0 - 1000) + q0))) (.int .i64 (Int.ofNat 0)) true,
        .run 22 #[ivV (F (W (x0 - 1000))) (F (W (W (x0 - 1000) + b0))), ivV (F (W (y0 - 1000))) (F (W (W (y0 - 1000) + d0)))] #[] wholeV #[]]) := by kernel_rfl

noncomputable def divO (x v t : Int) (A B : Nat) : Obl := ivO 22 (F (W (x * t))) (F (W (v * t))) (F t) (F t) A B
theorem holds_pos (a b c d p q x0 y0 b0 d0 p0 q0 : Int) (A1 B1 A2 B2 A3 B3 A4 B4 : Nat) :
    holdsR a b c d p q x0 y0 b0 d0 p0 q0 A1 B1 A2 B2 A3 B3 [yes false, isV (ivV A4 B4), yes false, yes true, yes true, yes true] =
      some (.bool true, holdsL a b c d p q x0 y0 b0 d0 p0 q0 A1 B1 A2 B2 A3 B3 ++ [.cmp .eql 3 (.int .i64 (W (W (y0 - 1000) + q0))) (.int .i64 (Int.ofNat 0)) false,
        divO (W (x0 - 1000)) (W (W (x0 - 1000) + b0)) (W (W (y0 - 1000) + q0)) A4 B4, .cmp .lss 3 (.int .i64 (W (W (y0 - 1000) + q0))) (.int .i64 (Int.ofNat 0)) false,
        inO (W (W (x0 - 1000) + p0)) A4 B4, inO (W (x0 - 1000)) A4 B4, inO (W (W (x0 - 1000) + b0)) A4 B4]) := by kernel_rfl
theorem holds_neg (a b c d p q x0 y0 b0 d0 p0 q0 : Int) (A1 B1 A2 B2 A3 B3 A4 B4 A5 B5 : Nat) :
    holdsR a b c d p q x0 y0 b0 d0 p0 q0 A1 B1 A2 B2 A3 B3 [yes false, isV (ivV A4 B4), yes true, isV (ivV A5 B5), yes true, yes true, yes true] =
      some (.bool true, holdsL a b c d p q x0 y0 b0 d0 p0 q0 A1 B1 A2 B2 A3 B3 ++ [.cmp .eql 3 (.int .i64 (W (W (y0 - 1000) + q0))) (.int .i64 (Int.ofNat 0)) false,
        divO (W (x0 - 1000)) (W (W (x0 - 1000) + b0)) (W (W (y0 - 1000) + q0)) A4 B4, .cmp .lss 3 (.int .i64 (W (W (y0 - 1000) + q0))) (.int .i64 (Int.ofNat 0)) true,
        divO (W (W (x0 - 1000) + b0)) (W (x0 - 1000)) (W (W (y0 - 1000) + q0)) A5 B5,
        inO (W (W (x0 - 1000) + p0)) A5 B5, inO (W (x0 - 1000)) A5 B5, inO (W (W (x0 - 1000) + b0)) A5 B5]) := by kernel_rfl

theorem ivHolds_tells (a b c d p q : Int) : Tells 3 #[.int .i64 a, .int .i64 b, .int .i64 c, .int .i64 d, .int .i64 p, .int .i64 q] #[] (.bool true) := by
  have x1 := Int.emod_nonneg a (b := 2001) (by decide)
  have x2 := Int.emod_lt_of_pos a (b := 2001) (by decide)
  have y1 := Int.emod_nonneg c (b := 2001) (by decide)
  have y2 := Int.emod_lt_of_pos c (b := 2001) (by decide)
  have b1 := Int.emod_nonneg b (b := 100) (by decide)
  have b2 := Int.emod_lt_of_pos b (b := 100) (by decide)
  have d1 := Int.emod_nonneg d (b := 100) (by decide)
  have d2 := Int.emod_lt_of_pos d (b := 100) (by decide)
  have wx := within2 a 2000 (by decide)
  have wy := within2 c 2000 (by decide)
  have wb := within2 b 99 (by decide)
  have wd := within2 d 99 (by decide)
  rw [show Int.ofNat (2000 + 1) = 2001 from rfl] at wx wy
  rw [show Int.ofNat (99 + 1) = 100 from rfl] at wb wd
  generalize a % 2001 = x0 at *
  generalize c % 2001 = y0 at *
  obtain ⟨B, hB⟩ : ∃ B : Nat, b % 100 = (B : Int) := ⟨(b % 100).toNat, by omega⟩
  obtain ⟨D, hD⟩ : ∃ D : Nat, d % 100 = (D : Int) := ⟨(d % 100).toNat, by omega⟩
  rw [hB] at b1 b2 wb
  rw [hD] at d1 d2 wd
  have wp := within2 p B (by omega)
  have wq := within2 q D (by omega)
  have p1 := Int.emod_nonneg p (b := Int.ofNat (B + 1)) (by show (B : Int) + 1 ≠ 0; omega)
  have p2 := Int.emod_lt_of_pos p (b := Int.ofNat (B + 1)) (by show (0 : Int) < (B : Int) + 1; omega)
  have q1 := Int.emod_nonneg q (b := Int.ofNat (D + 1)) (by show (D : Int) + 1 ≠ 0; omega)
  have q2 := Int.emod_lt_of_pos q (b := Int.ofNat (D + 1)) (by show (0 : Int) < (D : Int) + 1; omega)
  rw [show Int.ofNat (B + 1) = (B : Int) + 1 from rfl] at wp p1 p2
  rw [show Int.ofNat (D + 1) = (D : Int) + 1 from rfl] at wq q1 q2
  generalize p % ((B : Int) + 1) = p0 at wp p1 p2
  generalize q % ((D : Int) + 1) = q0 at wq q1 q2
  have eX : W (x0 - 1000) = x0 - 1000 := W_id (by omega) (by omega)
  have eY : W (y0 - 1000) = y0 - 1000 := W_id (by omega) (by omega)
  generalize hx : x0 - 1000 = x at *
  generalize hy : y0 - 1000 = y at *
  have eV : W (x + B) = x + B := W_id (by omega) (by omega)
  have eQ : W (y + D) = y + D := W_id (by omega) (by omega)
  have eS : W (x + p0) = x + p0 := W_id (by omega) (by omega)
  have eT : W (y + q0) = y + q0 := W_id (by omega) (by omega)
  generalize hv : x + (B : Int) = v at *
  generalize hw : y + (D : Int) = w at *
  generalize hs : x + p0 = s at *
  generalize ht : y + q0 = t at *
  have e1 : W (W (v - x) + 1) = (B : Int) + 1 := by rw [W_id (x := v - x) (by omega) (by omega), W_id (by omega) (by omega)]; omega
  have e2 : W (W (w - y) + 1) = (D : Int) + 1 := by rw [W_id (x := w - y) (by omega) (by omega), W_id (by omega) (by omega)]; omega
  have e3 : W (s + t) = s + t := W_id (by omega) (by omega)
  have e4 : W (s - t) = s - t := W_id (by omega) (by omega)
  have g1 := small_mul (a := s) (b := t) (by omega) (by omega)
  have g2 := small_mul (a := x) (b := t) (by omega) (by omega)
  have g3 := small_mul (a := v) (b := t) (by omega) (by omega)
  have e5 : W (s * t) = s * t := W_id (by omega) (by omega)
  have e6 : W (x * t) = x * t := W_id (by omega) (by omega)
  have e7 : W (v * t) = v * t := W_id (by omega) (by omega)
  obtain ⟨A1, B1, r1, i1⟩ := add_z (x := x) (v := v) (y := y) (w := w) (by omega) (by omega) (by omega) (by omega) (by omega) (by omega)
  obtain ⟨A2, B2, r2, i2⟩ := sub_z (x := x) (v := v) (y := y) (w := w) (by omega) (by omega) (by omega) (by omega) (by omega) (by omega)
  obtain ⟨A3, B3, r3, i3⟩ := mul_z (x := x) (v := v) (y := y) (w := w) (by omega) (by omega) (by omega) (by omega)
  have hL : okAll Try.prog (holdsL a b c d p q x0 y0 B D p0 q0 A1 B1 A2 B2 A3 B3) := by
    unfold holdsL
    simp only [hx, hy, eX, eY, hv, hw, hs, ht, eV, eQ, eS, eT, e1, e2, e3, e4, e5]
    exact ⟨known_runs, wx, wy, wb, wd, wp, wq, r1, i1 _ (by omega) (by omega), r2, i2 _ (by omega) (by omega), r3, i3 s t (by omega) (by omega) (by omega) (by omega), trivial⟩
  have eT0 : cmpV Try.prog .eql 3 (.int .i64 t) (.int .i64 (Int.ofNat 0)) = some (decide (t = 0)) := cmp_eql _ _
  have eT1 : cmpV Try.prog .lss 3 (.int .i64 t) (.int .i64 (Int.ofNat 0)) = some (decide (t < 0)) := cmp_lss _ _
  by_cases t0 : t = 0
  · refine tells_of (holds_zero a b c d p q x0 y0 B D p0 q0 A1 B1 A2 B2 A3 B3) (okAll_append hL ?_)
    simp only [hx, hy, eX, eY, hv, hw, hs, ht, eV, eQ, eS, eT]
    refine ⟨eT0.trans (congrArg some (decide_eq_true t0)), div_zero (in_yes nn_zero.1 (F_nn _) (F_nn _) ?_ ?_), trivial⟩
    · have := F_le (n := y) (m := 0) (by omega)
      rw [F_zero] at this; rw [nn_zero.2]; exact this
    · have := F_le (n := 0) (m := w) (by omega)
      rw [F_zero] at this; rw [nn_zero.2]; exact this
  · obtain ⟨A4, B4, r4, i4⟩ := div_z (x := x) (v := v) (t := t) (by omega) (by omega) (by omega) t0
    obtain ⟨A5, B5, r5, i5⟩ := div_z (x := v) (v := x) (t := t) (by omega) (by omega) (by omega) t0
    by_cases t1 : t < 0
    · refine tells_of (holds_neg a b c d p q x0 y0 B D p0 q0 A1 B1 A2 B2 A3 B3 A4 B4 A5 B5) (okAll_append hL ?_)
      unfold divO
      simp only [hx, hy, eX, eY, hv, hw, hs, ht, eV, eQ, eS, eT, e6, e7]
      exact ⟨eT0.trans (congrArg some (decide_eq_false t0)), r4, eT1.trans (congrArg some (decide_eq_true t1)), r5, i5 _ (by omega), i5 _ (by omega), i5 _ (by omega), trivial⟩
    · refine tells_of (holds_pos a b c d p q x0 y0 B D p0 q0 A1 B1 A2 B2 A3 B3 A4 B4) (okAll_append hL ?_)
      unfold divO
      simp only [hx, hy, eX, eY, hv, hw, hs, ht, eV, eQ, eS, eT, e6, e7]
      exact ⟨eT0.trans (congrArg some (decide_eq_false t0)), r4, eT1.trans (congrArg some (decide_eq_false t1)), i4 _ (by omega), i4 _ (by omega), i4 _ (by omega), trivial⟩

end Go.Proofs.Ythajhpilfbijdaa
