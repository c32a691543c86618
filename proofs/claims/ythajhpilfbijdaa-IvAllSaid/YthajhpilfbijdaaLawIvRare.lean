/- The law IvRare returns true, whatever it is handed. -/
import Derived.Test.YthajhpilfbijdaaIvInf
namespace Go.Proofs.Ythajhpilfbijdaa
open Go
set_option linter.unusedVariables false
set_option linter.unusedSimpArgs false
set_option maxRecDepth 100000

/-- The numbers that are not as others are. -/
def rareW : Nat → Nat
  | 0 => nanN
  | 1 => pinf
  | 2 => ninf
  | 3 => 0
  | 4 => 1
  | 5 => 18442240474082181119
  | 6 => 9218868437227405311
  | 7 => 4607182418800017408
  | 8 => 4602678819172646912
  | _ => 13835058055282163712

noncomputable def askRa (f : FuncId) : Nat := if f == 57 then 1 else 2
noncomputable def wi1O (a n k : Int) : Obl := .run 57 #[.int .i64 a, .int .i64 n] #[] (.int .i64 k) #[]
theorem rare_came (a b : Int) (i j : Nat) (hi : i = 0 ∨ i = 1 ∨ i = 2 ∨ i = 3 ∨ i = 4 ∨ i = 5 ∨ i = 6 ∨ i = 7 ∨ i = 8 ∨ i = 9) (hj : j = 0 ∨ j = 1 ∨ j = 2 ∨ j = 3 ∨ j = 4 ∨ j = 5 ∨ j = 6 ∨ j = 7 ∨ j = 8 ∨ j = 9) :
    (askN askRa noC 12 27 #[.int .i64 a, .int .i64 b] #[] [isI (Int.ofNat i), isI (Int.ofNat j)]).map (fun r => (r.1, r.2.2)) = some (fl2 (rareW i) (rareW j), [wi1O a 10 (Int.ofNat i), wi1O b 10 (Int.ofNat j)]) := by
  rcases hi with rfl | rfl | rfl | rfl | rfl | rfl | rfl | rfl | rfl | rfl <;> rcases hj with rfl | rfl | rfl | rfl | rfl | rfl | rfl | rfl | rfl | rfl <;> kernel_rfl

theorem rare_nn : ∀ i : Nat, NN (rareW i) ∨ rareW i = nanN
  | 0 => .inr rfl
  | 1 => .inl pinf_nn.1
  | 2 => .inl ninf_nn.1
  | 3 => .inl ⟨by decide, by decide, by decide⟩
  | 4 => .inl ⟨by decide, by decide, by decide⟩
  | 5 => .inl ⟨by decide, by decide, by decide⟩
  | 6 => .inl ⟨by decide, by decide, by decide⟩
  | 7 => .inl ⟨by decide, by decide, by decide⟩
  | 8 => .inl ⟨by decide, by decide, by decide⟩
  | _ + 9 => .inl ⟨by show (13835058055282163712 : Nat) < _; decide, by show _ ≤ ix 13835058055282163712; decide, by show ix 13835058055282163712 ≤ _; decide⟩

theorem rare_runs (a b : Int) : ∃ u v, Runs Try.prog 27 #[.int .i64 a, .int .i64 b] #[] (fl2 u v) #[] ∧ (NN u ∨ u = nanN) ∧ (NN v ∨ v = nanN) := by
  have w := fun x => within1 x 9 (by decide)
  rw [show Int.ofNat (9 + 1) = 10 from rfl] at w
  obtain ⟨i, hi⟩ : ∃ i : Nat, a % 10 = (i : Int) := ⟨(a % 10).toNat, by omega⟩
  obtain ⟨j, hj⟩ : ∃ j : Nat, b % 10 = (j : Int) := ⟨(b % 10).toNat, by omega⟩
  have wa := w a
  have wb := w b
  rw [hi] at wa
  rw [hj] at wb
  exact ⟨_, _, quiet_of' (rare_came a b i j (by omega) (by omega)) ⟨wa, wb, trivial⟩ rfl rfl, rare_nn i, rare_nn j⟩

/-- Whether one is right; a NaN makes it not. -/
theorem leq_some {x y : Nat} (hx : NN x ∨ x = nanN) (hy : NN y ∨ y = nanN) : ∃ t, fcmp .leq .f64 x y = some t ∧ (t = true → NN x ∧ NN y ∧ ix x ≤ ix y) := by
  rcases hx with hx | rfl
  · rcases hy with hy | rfl
    · exact ⟨_, leq_ix hx hy, fun h => ⟨hx, hy, of_decide_eq_true h⟩⟩
    · exact ⟨_, (nan_leq _).2, fun h => by cases h⟩
  · exact ⟨_, (nan_leq _).1, fun h => by cases h⟩

theorem add_pinf {a b : Nat} (ha : NN a) (hb : NN b) (h : a = pinf ∨ b = pinf) (hn : NN (fop .add .f64 a b)) : fop .add .f64 a b = pinf := by
  have bad : ¬ NN (nanW .f64) := fun h => absurd h.2.2 (by decide)
  have e1 : fop .add .f64 pinf ninf = nanW .f64 := by decide +kernel
  have e2 : fop .add .f64 ninf pinf = nanW .f64 := by decide +kernel
  rcases h with rfl | rfl
  · rcases nn_cases hb with h | rfl | rfl
    · exact add_inf_l false h
    · decide +kernel
    · rw [e1] at hn; exact absurd hn bad
  · rcases nn_cases ha with h | rfl | rfl
    · exact add_inf_r false h
    · decide +kernel
    · rw [e2] at hn; exact absurd hn bad
theorem add_ninf {a b : Nat} (ha : NN a) (hb : NN b) (h : a = ninf ∨ b = ninf) (hn : NN (fop .add .f64 a b)) : fop .add .f64 a b = ninf := by
  have bad : ¬ NN (nanW .f64) := fun h => absurd h.2.2 (by decide)
  have e1 : fop .add .f64 pinf ninf = nanW .f64 := by decide +kernel
  have e2 : fop .add .f64 ninf pinf = nanW .f64 := by decide +kernel
  rcases h with rfl | rfl
  · rcases nn_cases hb with h | rfl | rfl
    · exact add_inf_l true h
    · rw [e2] at hn; exact absurd hn bad
    · decide +kernel
  · rcases nn_cases ha with h | rfl | rfl
    · exact add_inf_r true h
    · rw [e1] at hn; exact absurd hn bad
    · decide +kernel
theorem ix_pinf {x : Nat} (h : NN x) (h2 : ix pinf ≤ ix x) : x = pinf := by
  rw [pinf_nn.2] at h2
  rcases nn_cases h with h | h | h
  · have := h.2.2; omega
  · exact h
  · rw [h, ninf_nn.2] at h2; omega
theorem ix_ninf {x : Nat} (h : NN x) (h2 : ix x ≤ ix ninf) : x = ninf := by
  rw [ninf_nn.2] at h2
  rcases nn_cases h with h | h | h
  · have := h.2.1; omega
  · rw [h, pinf_nn.2] at h2; omega
  · exact h

theorem add_mono_nn {x y z w : Nat} (hx : NN x) (hy : NN y) (hz : NN z) (hw : NN w) (h1 : ix x ≤ ix z) (h2 : ix y ≤ ix w) (hn : NN (fop .add .f64 x y)) (hm : NN (fop .add .f64 z w)) : ix (fop .add .f64 x y) ≤ ix (fop .add .f64 z w) := by
  by_cases a1 : z = pinf ∨ w = pinf
  · rw [add_pinf hz hw a1 hm, pinf_nn.2]; exact hn.2.2
  by_cases a2 : x = ninf ∨ y = ninf
  · rw [add_ninf hx hy a2 hn, ninf_nn.2]; exact hm.2.1
  have fx : Fi x := by
    rcases nn_cases hx with h | h | h
    · exact h
    · exact absurd (Or.inl (ix_pinf hz (by rw [← h]; exact h1))) a1
    · exact absurd (Or.inl h) a2
  have fy : Fi y := by
    rcases nn_cases hy with h | h | h
    · exact h
    · exact absurd (Or.inr (ix_pinf hw (by rw [← h]; exact h2))) a1
    · exact absurd (Or.inr h) a2
  have fz : Fi z := by
    rcases nn_cases hz with h | h | h
    · exact h
    · exact absurd (Or.inl h) a1
    · exact absurd (Or.inl (ix_ninf hx (by rw [← h]; exact h1))) a2
  have fw : Fi w := by
    rcases nn_cases hw with h | h | h
    · exact h
    · exact absurd (Or.inr h) a1
    · exact absurd (Or.inr (ix_ninf hy (by rw [← h]; exact h2))) a2
  exact add_mono fx fy fz fw h1 h2

noncomputable def askRb (f : FuncId) : Nat := if f == 16 || f == 27 || f == 28 || f == 18 || f == 19 || f == 20 || f == 21 || f == 22 || f == 29 then 1 else 0
noncomputable def raO (a b : Int) (u v : Nat) : Obl := .run 27 #[.int .i64 a, .int .i64 b] #[] (fl2 u v) #[]
noncomputable def rrO (a b : Nat) (t : Bool) : Obl := .run 28 #[fl2 a b] #[] (.bool t) #[]
theorem refRight_at {a b : Nat} {t : Bool} (h : fcmp .leq .f64 a b = some t) : Runs Try.prog 28 #[fl2 a b] #[] (.bool t) #[] :=
  quiet_of' (ask := noF) (askC := fltC) (s := [yes t]) (l := [cmpF .leq a b t]) (by kernel_rfl) ⟨(fc _ rfl _ _).trans h, trivial⟩ rfl rfl

noncomputable def rareR (a b c d : Int) (s : List Ans) : Option (Value × List Obl) :=
  (askN askRb eqC 12 5 #[.int .i64 a, .int .i64 b, .int .i64 c, .int .i64 d] #[] s).map (fun r => (r.1, r.2.2))
theorem rareA (a b c d : Int) (u1 u2 v1 v2 : Nat) (t : Bool) : rareR a b c d [yes true, isV (fl2 u1 u2), isV (fl2 v1 v2), yes false, yes false, yes false, yes t, yes t] =
    some (.bool true, [knO, raO a b u1 u2, raO c d v1 v2, rrO u1 u2 false, riO u1 u2 false, rrO u1 u2 false, riO v1 v2 t, rrO v1 v2 t]) := by cases t <;> kernel_rfl
theorem rareB (a b c d : Int) (u1 u2 v1 v2 : Nat) : rareR a b c d [yes true, isV (fl2 u1 u2), isV (fl2 v1 v2), yes true, yes false, yes true, yes true, yes false, yes false] =
    some (.bool true, [knO, raO a b u1 u2, raO c d v1 v2, rrO u1 u2 true, rrO v1 v2 false, riO u1 u2 true, rrO u1 u2 true, riO v1 v2 false, rrO v1 v2 false]) := by kernel_rfl
noncomputable def rareL (a b c d : Int) (u1 u2 v1 v2 a1 a2 s1 s2 m1 m2 d1 d2 : Nat) : List Obl :=
  [knO, raO a b u1 u2, raO c d v1 v2, rrO u1 u2 true, rrO v1 v2 true, opO 19 u1 u2 v1 v2 a1 a2, opO 20 u1 u2 v1 v2 s1 s2, opO 21 u1 u2 v1 v2 m1 m2, opO 22 u1 u2 v1 v2 d1 d2, riO a1 a2 true, riO s1 s2 true, riO m1 m2 true, riO d1 d2 true]
def rareS (u1 u2 v1 v2 a1 a2 s1 s2 m1 m2 d1 d2 : Nat) : List Ans :=
  [yes true, isV (fl2 u1 u2), isV (fl2 v1 v2), yes true, yes true, isV (fl2 a1 a2), isV (fl2 s1 s2), isV (fl2 m1 m2), isV (fl2 d1 d2), yes true, yes true, yes true, yes true]
theorem rareC (a b c d : Int) (u1 u2 v1 v2 a1 a2 s1 s2 m1 m2 d1 d2 : Nat) : rareR a b c d (rareS u1 u2 v1 v2 a1 a2 s1 s2 m1 m2 d1 d2 ++ [yes true]) =
    some (.bool true, rareL a b c d u1 u2 v1 v2 a1 a2 s1 s2 m1 m2 d1 d2 ++ [inX (fop .add .f64 u1 v1) a1 a2 true]) := by kernel_rfl
theorem rareD (a b c d : Int) (u1 u2 v1 v2 a1 a2 s1 s2 m1 m2 d1 d2 : Nat) : rareR a b c d (rareS u1 u2 v1 v2 a1 a2 s1 s2 m1 m2 d1 d2 ++ [yes false, yes true, yes true]) =
    some (.bool true, rareL a b c d u1 u2 v1 v2 a1 a2 s1 s2 m1 m2 d1 d2 ++ [inX (fop .add .f64 u1 v1) a1 a2 false, cmpF .neq (fop .add .f64 u1 v1) (fop .add .f64 u1 v1) true, cmpF .neq nanN nanN true]) := by kernel_rfl

theorem ivRare_tells (a b c d : Int) : Tells 5 #[.int .i64 a, .int .i64 b, .int .i64 c, .int .i64 d] #[] (.bool true) := by
  obtain ⟨u1, u2, r1, n1, n2⟩ := rare_runs a b
  obtain ⟨v1, v2, r2, k1, k2⟩ := rare_runs c d
  obtain ⟨t, ht, gt⟩ := leq_some n1 n2
  obtain ⟨z, hz, gz⟩ := leq_some k1 k2
  cases t with
  | false => exact tells_of (rareA a b c d u1 u2 v1 v2 z) ⟨known_runs, r1, r2, refRight_at ht, right_at ht, refRight_at ht, right_at hz, refRight_at hz, trivial⟩
  | true => cases z with
    | false => exact tells_of (rareB a b c d u1 u2 v1 v2) ⟨known_runs, r1, r2, refRight_at ht, refRight_at hz, right_at ht, refRight_at ht, right_at hz, refRight_at hz, trivial⟩
    | true =>
      obtain ⟨x1, x2, x3⟩ := gt rfl
      obtain ⟨y1, y2, y3⟩ := gz rfl
      obtain ⟨a1, a2, ra, ta⟩ := add_any u1 u2 v1 v2
      obtain ⟨s1, s2, rs, ts⟩ := sub_any u1 u2 v1 v2
      obtain ⟨m1, m2, rm, tm1, tm2, tm3⟩ := mul_any u1 u2 v1 v2
      obtain ⟨d1, d2, rd, td1, td2, td3⟩ := div_any u1 u2 y1 y2
      have rt : ∀ {p q : Nat}, NN p → NN q → ix p ≤ ix q → Runs Try.prog 29 #[fl2 p q] #[] (.bool true) #[] := fun hp hq h => right_at ((leq_ix hp hq).trans (congrArg some (decide_eq_true h)))
      have first : okAll Try.prog (rareL a b c d u1 u2 v1 v2 a1 a2 s1 s2 m1 m2 d1 d2) :=
        ⟨known_runs, r1, r2, refRight_at ht, refRight_at hz, ra, rs, rm, rd, rt ta.np ta.nq ta.le, rt ts.np ts.nq ts.le, rt tm1 tm2 tm3, rt td1 td2 td3, trivial⟩
      rcases fop_nan (op := .add) (x := u1) (y := v1) (.inl rfl) with hs | hs
      · have em : fop .add .f64 u1 v1 % 18446744073709551616 = fop .add .f64 u1 v1 := Nat.mod_eq_of_lt hs.1
        refine tells_of (rareC a b c d u1 u2 v1 v2 a1 a2 s1 s2 m1 m2 d1 d2) (okAll_append first ⟨in_of ta.np ta.nq (by rw [em]; exact hs) ?_ ?_, trivial⟩)
        · rw [em]
          rcases ta.is with ⟨_, _, rfl, _⟩ | ⟨rfl, _⟩
          · exact dn_le hs
          · rw [ninf_nn.2]; exact hs.2.1
        · rw [em]
          rcases ta.is with ⟨_, h2, _, rfl⟩ | ⟨_, rfl⟩
          · exact Int.le_trans (add_mono_nn x1 y1 x2 y2 x3 y3 hs h2) (le_up h2)
          · rw [pinf_nn.2]; exact hs.2.2
      · obtain ⟨i, ri, gi⟩ := in_any (fop .add .f64 u1 v1) ta.np ta.nq
        cases i with
        | true =>
          have := (gi rfl).1
          rw [hs] at this
          exact absurd this.2.2 (by decide)
        | false =>
          refine tells_of (rareD a b c d u1 u2 v1 v2 a1 a2 s1 s2 m1 m2 d1 d2) (okAll_append first ⟨ri, ?_, (by kernel_rfl : cmpV Try.prog .neq 24 (.float .f64 nanN) (.float .f64 nanN) = some true), trivial⟩)
          rw [hs]
          exact (fc _ rfl _ _).trans nan_neq

end Go.Proofs.Ythajhpilfbijdaa
