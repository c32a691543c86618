/- iv and the document tell the same of all from-tos. -/
import Derived.Test.YthajhpilfbijdaaIvRef
namespace Go.Proofs.Ythajhpilfbijdaa
open Go
set_option linter.unusedVariables false
set_option linter.unusedSimpArgs false
set_option maxRecDepth 100000

theorem down_both {x : Nat} (h : NaNor x) : ∃ y, Runs Try.prog 67 #[.float .f64 x] #[] (.float .f64 y) #[] ∧ Runs Try.prog 62 #[.float .f64 x] #[] (.float .f64 y) #[] ∧ ((NN x ∧ y = dn x) ∨ y = nanN) := by
  rcases h with h | rfl
  · exact ⟨_, down_runs h, down_runsR h, .inl ⟨h, rfl⟩⟩
  · exact ⟨_, down_nan, down_nanR, .inr rfl⟩
theorem up_both {x : Nat} (h : NaNor x) : ∃ y, Runs Try.prog 68 #[.float .f64 x] #[] (.float .f64 y) #[] ∧ Runs Try.prog 63 #[.float .f64 x] #[] (.float .f64 y) #[] ∧ ((NN x ∧ y = up x) ∨ y = nanN) := by
  rcases h with h | rfl
  · exact ⟨_, up_runs h, up_runsR h, .inl ⟨h, rfl⟩⟩
  · exact ⟨_, up_nan, up_nanR, .inr rfl⟩
theorem out_both {x y : Nat} (hx : NaNor x) (hy : NaNor y) : ∃ u v, Runs Try.prog 67 #[.float .f64 x] #[] (.float .f64 u) #[] ∧ Runs Try.prog 62 #[.float .f64 x] #[] (.float .f64 u) #[] ∧
    Runs Try.prog 68 #[.float .f64 y] #[] (.float .f64 v) #[] ∧ Runs Try.prog 63 #[.float .f64 y] #[] (.float .f64 v) #[] ∧
    ((fcmp .leq .f64 u v = some true ∧ NN u ∧ NN v ∧ ix u ≤ ix v) ∨ fcmp .leq .f64 u v = some false) := by
  obtain ⟨u, hu, hu', cu⟩ := down_both hx
  obtain ⟨v, hv, hv', cv⟩ := up_both hy
  refine ⟨u, v, hu, hu', hv, hv', ?_⟩
  rcases cu with ⟨nx, rfl⟩ | rfl
  · rcases cv with ⟨ny, rfl⟩ | rfl
    · have d := (dn_ix nx).1
      have e := (up_ix ny).1
      rw [leq_ix d e]
      by_cases h : ix (dn x) ≤ ix (up y)
      · exact .inl ⟨congrArg some (decide_eq_true h), d, e, h⟩
      · exact .inr (congrArg some (decide_eq_false h))
    · exact .inr (nan_leq _).2
  · exact .inr (nan_leq _).1

/-- Two functions tell the same, that is right. -/
def Both (f g : FuncId) (args : Array Value) : Prop := ∃ p q, Runs Try.prog f args #[] (fl2 p q) #[] ∧ Runs Try.prog g args #[] (fl2 p q) #[] ∧ NN p ∧ NN q ∧ ix p ≤ ix q

theorem all_nn : NN ninf ∧ NN pinf ∧ ix ninf ≤ ix pinf := ⟨ninf_nn.1, pinf_nn.1, by decide⟩

theorem add_both (a b c e : Nat) : Both 19 42 #[fl2 a b, fl2 c e] := by
  obtain ⟨u, v, h1, h2, h3, h4, h5⟩ := out_both (fop_nan (op := .add) (x := a) (y := c) (.inl rfl)) (fop_nan (op := .add) (x := b) (y := e) (.inl rfl))
  rcases h5 with ⟨h, hn⟩ | h
  · exact ⟨u, v, add_runs h1 h3 h, add_runsR h2 h4 h, hn⟩
  · exact ⟨_, _, add_all h1 h3 h, add_allR h2 h4 h, all_nn⟩
theorem sub_both (a b c e : Nat) : Both 20 43 #[fl2 a b, fl2 c e] := by
  obtain ⟨u, v, h1, h2, h3, h4, h5⟩ := out_both (fop_nan (op := .sub) (x := a) (y := e) (.inr (.inl rfl))) (fop_nan (op := .sub) (x := b) (y := c) (.inr (.inl rfl)))
  rcases h5 with ⟨h, hn⟩ | h
  · exact ⟨u, v, sub_runs h1 h3 h, sub_runsR h2 h4 h, hn⟩
  · exact ⟨_, _, sub_all h1 h3 h, sub_allR h2 h4 h, all_nn⟩

theorem span_both {a b c d : Nat} (ha : NaNor a) (hb : NaNor b) (hc : NaNor c) (hd : NaNor d) : Both 51 64 #[a4 a b c d] := by
  rcases ha with ha | rfl
  · obtain ⟨x1, x2, x3⟩ := nn_self ha
    rcases hb with hb | rfl
    · obtain ⟨y1, y2, y3⟩ := nn_self hb
      obtain ⟨s1, s2, s3, s4⟩ := sel_lo hb ha rfl
      obtain ⟨v1, v2, v3, v4⟩ := sel_hi hb ha rfl
      rcases hc with hc | rfl
      · obtain ⟨z1, z2, z3⟩ := nn_self hc
        obtain ⟨t1, t2, t3, t4⟩ := sel_lo hc s1 rfl
        obtain ⟨w1, w2, w3, w4⟩ := sel_hi hc v1 rfl
        rcases hd with hd | rfl
        · obtain ⟨u1, u2, u3, u4⟩ := sel_lo hd t1 rfl
          obtain ⟨k1, k2, k3, k4⟩ := sel_hi hd w1 rfl
          have hle := out_le u1 k1 (by omega)
          have hl := (leq_ix (dn_ix u1).1 (up_ix k1).1).trans (congrArg some (decide_eq_true hle))
          exact ⟨_, _, span_bits a b c d _ _ _ _ _ _ _ _ x1 y1 z1 (nn_self hd).1 x2 x3 (lss_ix hb ha) (gtr_ix hb ha) (lss_ix hc s1) (gtr_ix hc v1) (lss_ix hd t1) (gtr_ix hd w1) (down_runs u1) (up_runs k1) hl,
            span_bitsR a b c d _ _ _ _ _ _ _ _ x1 y1 z1 (nn_self hd).1 x2 x3 (lss_ix hb ha) (gtr_ix hb ha) (lss_ix hc s1) (gtr_ix hc v1) (lss_ix hd t1) (gtr_ix hd w1) (down_runsR u1) (up_runsR k1) hl, (dn_ix u1).1, (up_ix k1).1, hle⟩
        · have ob : okAll Try.prog [cmpO .neq a a false, cmpO .lss a a false, cmpO .gtr a a false, cmpO .neq b b false, cmpO .lss b a _, cmpO .gtr b a _, cmpO .neq c c false, cmpO .lss c (sel _ b a) _, cmpO .gtr c (sel _ b a) _, cmpO .neq (nanW .f64) (nanW .f64) true] :=
            ⟨(fc _ rfl _ _).trans x1, (fc _ rfl _ _).trans x2, (fc _ rfl _ _).trans x3, (fc _ rfl _ _).trans y1, (fc _ rfl _ _).trans (lss_ix hb ha), (fc _ rfl _ _).trans (gtr_ix hb ha), (fc _ rfl _ _).trans z1, (fc _ rfl _ _).trans (lss_ix hc s1), (fc _ rfl _ _).trans (gtr_ix hc v1), (fc _ rfl _ _).trans nan_neq, trivial⟩
          exact ⟨_, _, quiet_of (nan3 _ _ _ _ _ _ _ _) ob rfl rfl, quiet_of (nan3R _ _ _ _ _ _ _ _) ob rfl rfl, all_nn⟩
      · have ob : okAll Try.prog [cmpO .neq a a false, cmpO .lss a a false, cmpO .gtr a a false, cmpO .neq b b false, cmpO .lss b a _, cmpO .gtr b a _, cmpO .neq (nanW .f64) (nanW .f64) true] :=
          ⟨(fc _ rfl _ _).trans x1, (fc _ rfl _ _).trans x2, (fc _ rfl _ _).trans x3, (fc _ rfl _ _).trans y1, (fc _ rfl _ _).trans (lss_ix hb ha), (fc _ rfl _ _).trans (gtr_ix hb ha), (fc _ rfl _ _).trans nan_neq, trivial⟩
        exact ⟨_, _, quiet_of (nan2 _ _ _ _ _ _) ob rfl rfl, quiet_of (nan2R _ _ _ _ _ _) ob rfl rfl, all_nn⟩
    · have ob : okAll Try.prog [cmpO .neq a a false, cmpO .lss a a false, cmpO .gtr a a false, cmpO .neq (nanW .f64) (nanW .f64) true] :=
        ⟨(fc _ rfl _ _).trans x1, (fc _ rfl _ _).trans x2, (fc _ rfl _ _).trans x3, (fc _ rfl _ _).trans nan_neq, trivial⟩
      exact ⟨_, _, quiet_of (nan1 _ _ _ _) ob rfl rfl, quiet_of (nan1R _ _ _ _) ob rfl rfl, all_nn⟩
  · have ob : okAll Try.prog [cmpO .neq (nanW .f64) (nanW .f64) true] := ⟨(fc _ rfl _ _).trans nan_neq, trivial⟩
    exact ⟨_, _, quiet_of (nan0 _ _ _ _) ob rfl rfl, quiet_of (nan0R _ _ _ _) ob rfl rfl, all_nn⟩

theorem mul_both (a b c e : Nat) : Both 21 44 #[fl2 a b, fl2 c e] := by
  have h := fun x y => fop_nan (op := .mul) (x := x) (y := y) (.inr (.inr (.inl rfl)))
  obtain ⟨p, q, h1, h2, hn⟩ := span_both (h a c) (h a e) (h b c) (h b e)
  exact ⟨p, q, mul_runs h1, mul_runsR h2, hn⟩

theorem holds_at {c e : Nat} {t : Bool} (hc : NN c) (he : NN e) (ht : t = decide (ix c ≤ 0 ∧ 0 ≤ ix e)) : Runs Try.prog 65 #[ivV c e] #[] (.bool t) #[] := by
  have q1 : fcmp .leq .f64 c 0 = some (decide (ix c ≤ 0)) := by have := leq_ix hc nn_zero.1; rw [nn_zero.2] at this; exact this
  have q2 : fcmp .leq .f64 0 e = some (decide (0 ≤ ix e)) := by have := leq_ix nn_zero.1 he; rw [nn_zero.2] at this; exact this
  by_cases h1 : ix c ≤ 0
  · by_cases h2 : 0 ≤ ix e
    · rw [decide_eq_true ⟨h1, h2⟩] at ht
      subst ht
      exact quiet_of (ask := noF) (s := [yes true, yes true]) (l := [cmpO .leq c 0 true, cmpO .leq 0 e true]) (by kernel_rfl) ⟨(fc _ rfl _ _).trans (q1.trans (congrArg some (decide_eq_true h1))), (fc _ rfl _ _).trans (q2.trans (congrArg some (decide_eq_true h2))), trivial⟩ rfl rfl
    · rw [decide_eq_false (fun h => h2 h.2)] at ht
      subst ht
      exact quiet_of (ask := noF) (s := [yes true, yes false]) (l := [cmpO .leq c 0 true, cmpO .leq 0 e false]) (by kernel_rfl) ⟨(fc _ rfl _ _).trans (q1.trans (congrArg some (decide_eq_true h1))), (fc _ rfl _ _).trans (q2.trans (congrArg some (decide_eq_false h2))), trivial⟩ rfl rfl
  · rw [decide_eq_false (fun h => h1 h.1)] at ht
    subst ht
    exact quiet_of (ask := noF) (s := [yes false]) (l := [cmpO .leq c 0 false]) (by kernel_rfl) ⟨(fc _ rfl _ _).trans (q1.trans (congrArg some (decide_eq_false h1))), trivial⟩ rfl rfl

theorem div_both (a b : Nat) {c e : Nat} (hc : NN c) (he : NN e) : Both 22 45 #[fl2 a b, fl2 c e] := by
  have h := fun x y => fop_nan (op := .quo) (x := x) (y := y) (.inr (.inr (.inr rfl)))
  by_cases hi : 0 < ix c ∨ ix e < 0
  · obtain ⟨p, q, h1, h2, hn⟩ := span_both (h a c) (h a e) (h b c) (h b e)
    exact ⟨p, q, div_runs (in_no nn_zero.1 hc he (by rw [nn_zero.2]; exact hi)) h1, div_runsR (holds_at hc he (decide_eq_false (by omega)).symm) h2, hn⟩
  · exact ⟨ninf, pinf, div_zero (in_yes nn_zero.1 hc he (by rw [nn_zero.2]; omega) (by rw [nn_zero.2]; omega)), div_zeroR (holds_at hc he (decide_eq_true (by omega)).symm), all_nn⟩

/-! the bound of e to the x -/
noncomputable def askE (f : FuncId) : Nat := if f == 20 || f == 21 || f == 22 then 1 else 2
noncomputable def askER (f : FuncId) : Nat := if f == 43 || f == 44 || f == 45 then 1 else 2
noncomputable def opQ (f : FuncId) (a b c d : Nat) (r : Nat × Nat) : Obl := .run f #[fl2 a b, fl2 c d] #[] (fl2 r.1 r.2) #[]
def aP (r : Nat × Nat) : Ans := isV (fl2 r.1 r.2)
noncomputable def sqL (f : FuncId) : List (Nat × Nat) → List Obl
  | r :: s :: l => opQ f r.1 r.2 r.1 r.2 s :: sqL f (s :: l)
  | _ => []
noncomputable def expL (fs fm fd : FuncId) (x : Nat) (b d f r0 r1 r2 r3 r4 r5 r6 r7 r8 r9 : Nat × Nat) : List Obl :=
  [cmpO .neq x x false, cmpO .geq x 4647714815446351872 false, opQ fd x x 4652218415073722368 4652218415073722368 b, opQ fs 4607182418800017408 4607182418800017408 b.1 b.2 d, opQ fd 4607182418800017408 4607182418800017408 d.1 d.2 f] ++ sqL fm [f, r0, r1, r2, r3, r4, r5, r6, r7, r8, r9]
def expS (b d f r0 r1 r2 r3 r4 r5 r6 r7 r8 r9 : Nat × Nat) : List Ans := [yes false, yes false, aP b, aP d, aP f, aP r0, aP r1, aP r2, aP r3, aP r4, aP r5, aP r6, aP r7, aP r8, aP r9]
theorem exp_came (x : Nat) (b d f r0 r1 r2 r3 r4 r5 r6 r7 r8 r9 : Nat × Nat) : (askN askE fltC 12 24 #[.float .f64 x] #[] (expS b d f r0 r1 r2 r3 r4 r5 r6 r7 r8 r9)).map (fun r => (r.1, r.2.2)) =
    some (.float .f64 r9.2, expL 20 21 22 x b d f r0 r1 r2 r3 r4 r5 r6 r7 r8 r9) := by kernel_rfl
theorem exp_cameR (x : Nat) (b d f r0 r1 r2 r3 r4 r5 r6 r7 r8 r9 : Nat × Nat) : (askN askER fltC 12 38 #[.float .f64 x] #[] (expS b d f r0 r1 r2 r3 r4 r5 r6 r7 r8 r9)).map (fun r => (r.1, r.2.2)) =
    some (.float .f64 r9.2, expL 43 44 45 x b d f r0 r1 r2 r3 r4 r5 r6 r7 r8 r9) := by kernel_rfl

theorem Both.pair {f g : FuncId} {args : Array Value} (h : Both f g args) : ∃ r : Nat × Nat, Runs Try.prog f args #[] (fl2 r.1 r.2) #[] ∧ Runs Try.prog g args #[] (fl2 r.1 r.2) #[] ∧ NN r.1 ∧ NN r.2 ∧ ix r.1 ≤ ix r.2 := by
  obtain ⟨p, q, h⟩ := h
  exact ⟨(p, q), h⟩

theorem fcmp_some (op : BinOp) (h : op = .neq ∨ op = .geq ∨ op = .leq ∨ op = .eql) (x y : Nat) : ∃ t, fcmp op .f64 x y = some t := by
  rcases h with rfl | rfl | rfl | rfl <;> exact ⟨_, rfl⟩

theorem exp_both (x : Nat) : ∃ y, Runs Try.prog 24 #[.float .f64 x] #[] (.float .f64 y) #[] ∧ Runs Try.prog 38 #[.float .f64 x] #[] (.float .f64 y) #[] ∧ NN y := by
  obtain ⟨t, ht⟩ := fcmp_some .neq (.inl rfl) x x
  obtain ⟨z, hz⟩ := fcmp_some .geq (.inr (.inl rfl)) x 4647714815446351872
  cases t with
  | true =>
    have h1 : (askN askE fltC 12 24 #[.float .f64 x] #[] [yes true]).map (fun r => (r.1, r.2.2)) = some (.float .f64 pinf, [cmpO .neq x x true]) := by kernel_rfl
    have h2 : (askN askER fltC 12 38 #[.float .f64 x] #[] [yes true]).map (fun r => (r.1, r.2.2)) = some (.float .f64 pinf, [cmpO .neq x x true]) := by kernel_rfl
    have ob : okAll Try.prog [cmpO .neq x x true] := ⟨(fc _ rfl _ _).trans ht, trivial⟩
    exact ⟨_, quiet_of h1 ob rfl rfl, quiet_of h2 ob rfl rfl, pinf_nn.1⟩
  | false => cases z with
    | true =>
      have h1 : (askN askE fltC 12 24 #[.float .f64 x] #[] [yes false, yes true]).map (fun r => (r.1, r.2.2)) = some (.float .f64 pinf, [cmpO .neq x x false, cmpO .geq x 4647714815446351872 true]) := by kernel_rfl
      have h2 : (askN askER fltC 12 38 #[.float .f64 x] #[] [yes false, yes true]).map (fun r => (r.1, r.2.2)) = some (.float .f64 pinf, [cmpO .neq x x false, cmpO .geq x 4647714815446351872 true]) := by kernel_rfl
      have ob : okAll Try.prog [cmpO .neq x x false, cmpO .geq x 4647714815446351872 true] := ⟨(fc _ rfl _ _).trans ht, (fc _ rfl _ _).trans hz, trivial⟩
      exact ⟨_, quiet_of h1 ob rfl rfl, quiet_of h2 ob rfl rfl, pinf_nn.1⟩
    | false =>
      have n1024 : NN 4652218415073722368 := ⟨by decide, by decide, by decide⟩
      obtain ⟨b, b1, b2, b3, b4, b5⟩ := (div_both x x n1024 n1024).pair
      obtain ⟨d, d1, d2, d3, d4, d5⟩ := (sub_both 4607182418800017408 4607182418800017408 b.1 b.2).pair
      obtain ⟨f, f1, f2, f3, f4, f5⟩ := (div_both 4607182418800017408 4607182418800017408 d3 d4).pair
      have sq := fun (r : Nat × Nat) => (mul_both r.1 r.2 r.1 r.2).pair
      obtain ⟨r0, a0, c0, _⟩ := sq f
      obtain ⟨r1, a1, c1, _⟩ := sq r0
      obtain ⟨r2, a2, c2, _⟩ := sq r1
      obtain ⟨r3, a3, c3, _⟩ := sq r2
      obtain ⟨r4, a4, c4, _⟩ := sq r3
      obtain ⟨r5, a5, c5, _⟩ := sq r4
      obtain ⟨r6, a6, c6, _⟩ := sq r5
      obtain ⟨r7, a7, c7, _⟩ := sq r6
      obtain ⟨r8, a8, c8, _⟩ := sq r7
      obtain ⟨r9, a9, c9, _, n9, _⟩ := sq r8
      exact ⟨r9.2, quiet_of (exp_came x b d f r0 r1 r2 r3 r4 r5 r6 r7 r8 r9) ⟨(fc _ rfl _ _).trans ht, (fc _ rfl _ _).trans hz, b1, d1, f1, a0, a1, a2, a3, a4, a5, a6, a7, a8, a9, trivial⟩ rfl rfl,
        quiet_of (exp_cameR x b d f r0 r1 r2 r3 r4 r5 r6 r7 r8 r9) ⟨(fc _ rfl _ _).trans ht, (fc _ rfl _ _).trans hz, b2, d2, f2, c0, c1, c2, c3, c4, c5, c6, c7, c8, c9, trivial⟩ rfl rfl, n9⟩

end Go.Proofs.Ythajhpilfbijdaa
