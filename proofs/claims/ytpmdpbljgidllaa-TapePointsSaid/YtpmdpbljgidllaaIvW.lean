/- What iv and the document tell of any two from-tos, as plain functions of the ends' words. -/
import Derived.Test.YtpmdpbljgidllaaIvBoth
namespace Go.Proofs.Ytpmdpbljgidllaa
open Go
set_option linter.unusedVariables false
set_option linter.unusedSimpArgs false
set_option maxRecDepth 100000

abbrev P2 := Nat × Nat
def vI (X : P2) : Value := .agg #[.float .f64 X.1, .float .f64 X.2]
def isN (x : Nat) : Bool := decide (x < 18446744073709551616 ∧ -9218868437227405312 ≤ ix x ∧ ix x ≤ 9218868437227405312)
theorem isN_iff {x : Nat} : isN x = true ↔ NN x := by unfold isN NN; exact decide_eq_true_iff
theorem isN_nan : isN (nanW .f64) = false := by decide +kernel
def outP (s t : Nat) : P2 := bif isN s && isN t && decide (ix (dn s) ≤ ix (up t)) then (dn s, up t) else (ninf, pinf)
def loB (x y : Nat) : Nat := sel (decide (ix x < ix y)) x y
def hiB (x y : Nat) : Nat := sel (decide (ix y < ix x)) x y
def spanP (a b c d : Nat) : P2 := bif isN a && isN b && isN c && isN d then (dn (loB d (loB c (loB b a))), up (hiB d (hiB c (hiB b a)))) else (ninf, pinf)
def addP (X Y : P2) : P2 := outP (fop .add .f64 X.1 Y.1) (fop .add .f64 X.2 Y.2)
def subP (X Y : P2) : P2 := outP (fop .sub .f64 X.1 Y.2) (fop .sub .f64 X.2 Y.1)
def mulP (X Y : P2) : P2 := spanP (fop .mul .f64 X.1 Y.1) (fop .mul .f64 X.1 Y.2) (fop .mul .f64 X.2 Y.1) (fop .mul .f64 X.2 Y.2)
def divP (X Y : P2) : P2 := bif decide (ix Y.1 ≤ 0 ∧ 0 ≤ ix Y.2) then (ninf, pinf) else spanP (fop .quo .f64 X.1 Y.1) (fop .quo .f64 X.1 Y.2) (fop .quo .f64 X.2 Y.1) (fop .quo .f64 X.2 Y.2)

/-- Ends that are no NaN, in their order. -/
structure Rt (X : P2) : Prop where
  l : NN X.1
  h : NN X.2
  le : ix X.1 ≤ ix X.2
theorem rt_all : Rt (ninf, pinf) := ⟨all_nn.1, all_nn.2.1, all_nn.2.2⟩

theorem outP_told {s t : Nat} : Told s t (outP s t).1 (outP s t).2 := by
  unfold outP
  cases h : (isN s && isN t && decide (ix (dn s) ≤ ix (up t))) with
  | true =>
    simp only [Bool.and_eq_true, decide_eq_true_eq] at h
    obtain ⟨⟨h1, h2⟩, h3⟩ := h
    rw [isN_iff] at h1 h2
    exact ⟨(dn_ix h1).1, (up_ix h2).1, h3, .inl ⟨h1, h2, rfl, rfl⟩⟩
  | false => exact all_told s t
theorem outP_rt (s t : Nat) : Rt (outP s t) := ⟨outP_told.np, outP_told.nq, outP_told.le⟩
theorem addP_rt (X Y : P2) : Rt (addP X Y) := outP_rt _ _
theorem subP_rt (X Y : P2) : Rt (subP X Y) := outP_rt _ _
theorem loB_nn {x y : Nat} (hx : NN x) (hy : NN y) : NN (loB x y) ∧ ix (loB x y) ≤ ix x ∧ ix (loB x y) ≤ ix y ∧ (loB x y = x ∨ loB x y = y) := sel_lo hx hy rfl
theorem hiB_nn {x y : Nat} (hx : NN x) (hy : NN y) : NN (hiB x y) ∧ ix x ≤ ix (hiB x y) ∧ ix y ≤ ix (hiB x y) ∧ (hiB x y = x ∨ hiB x y = y) := sel_hi hx hy rfl
theorem or4 {a b c d x y z : Nat} (h : x = d ∨ x = y) (h2 : y = c ∨ y = z) (h3 : z = b ∨ z = a) : x = a ∨ x = b ∨ x = c ∨ x = d := by
  rcases h with h | h
  · exact .inr (.inr (.inr h))
  · rcases h2 with h2 | h2
    · exact .inr (.inr (.inl (h.trans h2)))
    · rcases h3 with h3 | h3
      · exact .inr (.inl (h.trans (h2.trans h3)))
      · exact .inl (h.trans (h2.trans h3))
/-- A span of four that are no NaN. -/
theorem ends_of {a b c d : Nat} (ha : NN a) (hb : NN b) (hc : NN c) (hd : NN d) : Ends a b c d (loB d (loB c (loB b a))) (hiB d (hiB c (hiB b a))) := by
  obtain ⟨s1, s2, s3, s4⟩ := loB_nn hb ha
  obtain ⟨t1, t2, t3, t4⟩ := loB_nn hc s1
  obtain ⟨u1, u2, u3, u4⟩ := loB_nn hd t1
  obtain ⟨v1, v2, v3, v4⟩ := hiB_nn hb ha
  obtain ⟨w1, w2, w3, w4⟩ := hiB_nn hc v1
  obtain ⟨k1, k2, k3, k4⟩ := hiB_nn hd w1
  exact ⟨u1, k1, by omega, by omega, by omega, by omega, by omega, by omega, by omega, by omega,
    or4 u4 t4 s4, or4 k4 w4 v4⟩
theorem spanP_eq {a b c d : Nat} (ha : NN a) (hb : NN b) (hc : NN c) (hd : NN d) : spanP a b c d = (dn (loB d (loB c (loB b a))), up (hiB d (hiB c (hiB b a)))) := by
  unfold spanP
  rw [isN_iff.2 ha, isN_iff.2 hb, isN_iff.2 hc, isN_iff.2 hd]
  rfl
theorem spanP_rt (a b c d : Nat) : Rt (spanP a b c d) := by
  unfold spanP
  cases h : (isN a && isN b && isN c && isN d) with
  | true =>
    simp only [Bool.and_eq_true, isN_iff] at h
    obtain ⟨⟨⟨ha, hb⟩, hc⟩, hd⟩ := h
    have e := ends_of ha hb hc hd
    exact ⟨(dn_ix e.nlo).1, (up_ix e.nhi).1, out_le e.nlo e.nhi (by have := e.lo_a; have := e.hi_a; omega)⟩
  | false => exact rt_all
theorem mulP_rt (X Y : P2) : Rt (mulP X Y) := spanP_rt _ _ _ _
theorem divP_rt (X Y : P2) : Rt (divP X Y) := by
  unfold divP
  cases decide (ix Y.1 ≤ 0 ∧ 0 ≤ ix Y.2) with
  | true => exact rt_all
  | false => exact spanP_rt _ _ _ _

/-- Two functions tell this. -/
def W2 (f g : FuncId) (args : Array Value) (r : P2) : Prop := Runs Try.prog f args #[] (vI r) #[] ∧ Runs Try.prog g args #[] (vI r) #[]

theorem out_w {x y : Nat} (hx : NaNor x) (hy : NaNor y) : ∃ u v, Runs Try.prog 93 #[.float .f64 x] #[] (.float .f64 u) #[] ∧ Runs Try.prog 87 #[.float .f64 x] #[] (.float .f64 u) #[] ∧
    Runs Try.prog 94 #[.float .f64 y] #[] (.float .f64 v) #[] ∧ Runs Try.prog 88 #[.float .f64 y] #[] (.float .f64 v) #[] ∧
    ((fcmp .leq .f64 u v = some true ∧ outP x y = (u, v)) ∨ (fcmp .leq .f64 u v = some false ∧ outP x y = (ninf, pinf))) := by
  rcases hx with nx | rfl
  · rcases hy with ny | rfl
    · refine ⟨_, _, down_runs nx, down_runsR nx, up_runs ny, up_runsR ny, ?_⟩
      rw [leq_ix (dn_ix nx).1 (up_ix ny).1]
      unfold outP
      rw [isN_iff.2 nx, isN_iff.2 ny]
      by_cases h : ix (dn x) ≤ ix (up y)
      · rw [decide_eq_true h]; exact .inl ⟨rfl, rfl⟩
      · rw [decide_eq_false h]; exact .inr ⟨rfl, rfl⟩
    · refine ⟨_, _, down_runs nx, down_runsR nx, up_nan, up_nanR, .inr ⟨(nan_leq _).2, ?_⟩⟩
      unfold outP
      rw [isN_nan, Bool.and_false, Bool.false_and]; rfl
  · obtain ⟨v, h1, h2, _⟩ := up_both hy
    refine ⟨_, v, down_nan, down_nanR, h1, h2, .inr ⟨(nan_leq _).1, ?_⟩⟩
    unfold outP
    rw [isN_nan, Bool.false_and, Bool.false_and]; rfl

theorem add_w (X Y : P2) : W2 60 73 #[vI X, vI Y] (addP X Y) := by
  obtain ⟨a, b⟩ := X
  obtain ⟨c, e⟩ := Y
  obtain ⟨u, v, h1, h2, h3, h4, h5⟩ := out_w (fop_nan (op := .add) (x := a) (y := c) (.inl rfl)) (fop_nan (op := .add) (x := b) (y := e) (.inl rfl))
  rcases h5 with ⟨h, hn⟩ | ⟨h, hn⟩
  · have : addP (a, b) (c, e) = (u, v) := hn
    rw [this]
    exact ⟨add_runs h1 h3 h, add_runsR h2 h4 h⟩
  · have : addP (a, b) (c, e) = (ninf, pinf) := hn
    rw [this]
    exact ⟨add_all h1 h3 h, add_allR h2 h4 h⟩
theorem sub_w (X Y : P2) : W2 61 74 #[vI X, vI Y] (subP X Y) := by
  obtain ⟨a, b⟩ := X
  obtain ⟨c, e⟩ := Y
  obtain ⟨u, v, h1, h2, h3, h4, h5⟩ := out_w (fop_nan (op := .sub) (x := a) (y := e) (.inr (.inl rfl))) (fop_nan (op := .sub) (x := b) (y := c) (.inr (.inl rfl)))
  rcases h5 with ⟨h, hn⟩ | ⟨h, hn⟩
  · have : subP (a, b) (c, e) = (u, v) := hn
    rw [this]
    exact ⟨sub_runs h1 h3 h, sub_runsR h2 h4 h⟩
  · have : subP (a, b) (c, e) = (ninf, pinf) := hn
    rw [this]
    exact ⟨sub_all h1 h3 h, sub_allR h2 h4 h⟩

theorem span_w {a b c d : Nat} (ha : NaNor a) (hb : NaNor b) (hc : NaNor c) (hd : NaNor d) : W2 79 89 #[a4 a b c d] (spanP a b c d) := by
  rcases ha with ha | rfl
  · obtain ⟨x1, x2, x3⟩ := nn_self ha
    rcases hb with hb | rfl
    · obtain ⟨y1, y2, y3⟩ := nn_self hb
      obtain ⟨s1, s2, s3, s4⟩ := loB_nn hb ha
      obtain ⟨v1, v2, v3, v4⟩ := hiB_nn hb ha
      rcases hc with hc | rfl
      · obtain ⟨z1, z2, z3⟩ := nn_self hc
        obtain ⟨t1, t2, t3, t4⟩ := loB_nn hc s1
        obtain ⟨w1, w2, w3, w4⟩ := hiB_nn hc v1
        rcases hd with hd | rfl
        · obtain ⟨u1, u2, u3, u4⟩ := loB_nn hd t1
          obtain ⟨k1, k2, k3, k4⟩ := hiB_nn hd w1
          have hle := out_le u1 k1 (by omega)
          have hl := (leq_ix (dn_ix u1).1 (up_ix k1).1).trans (congrArg some (decide_eq_true hle))
          rw [spanP_eq ha hb hc hd]
          exact ⟨span_bits a b c d _ _ _ _ _ _ _ _ x1 y1 z1 (nn_self hd).1 x2 x3 (lss_ix hb ha) (gtr_ix hb ha) (lss_ix hc s1) (gtr_ix hc v1) (lss_ix hd t1) (gtr_ix hd w1) (down_runs u1) (up_runs k1) hl,
            span_bitsR a b c d _ _ _ _ _ _ _ _ x1 y1 z1 (nn_self hd).1 x2 x3 (lss_ix hb ha) (gtr_ix hb ha) (lss_ix hc s1) (gtr_ix hc v1) (lss_ix hd t1) (gtr_ix hd w1) (down_runsR u1) (up_runsR k1) hl⟩
        · have ob : okAll Try.prog [cmpO .neq a a false, cmpO .lss a a false, cmpO .gtr a a false, cmpO .neq b b false, cmpO .lss b a _, cmpO .gtr b a _, cmpO .neq c c false, cmpO .lss c (sel _ b a) _, cmpO .gtr c (sel _ b a) _, cmpO .neq (nanW .f64) (nanW .f64) true] :=
            ⟨(fc _ rfl _ _).trans x1, (fc _ rfl _ _).trans x2, (fc _ rfl _ _).trans x3, (fc _ rfl _ _).trans y1, (fc _ rfl _ _).trans (lss_ix hb ha), (fc _ rfl _ _).trans (gtr_ix hb ha), (fc _ rfl _ _).trans z1, (fc _ rfl _ _).trans (lss_ix hc s1), (fc _ rfl _ _).trans (gtr_ix hc v1), (fc _ rfl _ _).trans nan_neq, trivial⟩
          have e : spanP a b c (nanW .f64) = (ninf, pinf) := by unfold spanP; rw [isN_nan, Bool.and_false]; rfl
          rw [e]
          exact ⟨quiet_of (nan3 _ _ _ _ _ _ _ _) ob rfl rfl, quiet_of (nan3R _ _ _ _ _ _ _ _) ob rfl rfl⟩
      · have ob : okAll Try.prog [cmpO .neq a a false, cmpO .lss a a false, cmpO .gtr a a false, cmpO .neq b b false, cmpO .lss b a _, cmpO .gtr b a _, cmpO .neq (nanW .f64) (nanW .f64) true] :=
          ⟨(fc _ rfl _ _).trans x1, (fc _ rfl _ _).trans x2, (fc _ rfl _ _).trans x3, (fc _ rfl _ _).trans y1, (fc _ rfl _ _).trans (lss_ix hb ha), (fc _ rfl _ _).trans (gtr_ix hb ha), (fc _ rfl _ _).trans nan_neq, trivial⟩
        have e : spanP a b (nanW .f64) d = (ninf, pinf) := by unfold spanP; rw [isN_nan, Bool.and_false, Bool.false_and]; rfl
        rw [e]
        exact ⟨quiet_of (nan2 _ _ _ _ _ _) ob rfl rfl, quiet_of (nan2R _ _ _ _ _ _) ob rfl rfl⟩
    · have ob : okAll Try.prog [cmpO .neq a a false, cmpO .lss a a false, cmpO .gtr a a false, cmpO .neq (nanW .f64) (nanW .f64) true] :=
        ⟨(fc _ rfl _ _).trans x1, (fc _ rfl _ _).trans x2, (fc _ rfl _ _).trans x3, (fc _ rfl _ _).trans nan_neq, trivial⟩
      have e : spanP a (nanW .f64) c d = (ninf, pinf) := by unfold spanP; rw [isN_nan, Bool.and_false, Bool.false_and, Bool.false_and]; rfl
      rw [e]
      exact ⟨quiet_of (nan1 _ _ _ _) ob rfl rfl, quiet_of (nan1R _ _ _ _) ob rfl rfl⟩
  · have ob : okAll Try.prog [cmpO .neq (nanW .f64) (nanW .f64) true] := ⟨(fc _ rfl _ _).trans nan_neq, trivial⟩
    have e : spanP (nanW .f64) b c d = (ninf, pinf) := by unfold spanP; rw [isN_nan, Bool.false_and, Bool.false_and, Bool.false_and]; rfl
    rw [e]
    exact ⟨quiet_of (nan0 _ _ _ _) ob rfl rfl, quiet_of (nan0R _ _ _ _) ob rfl rfl⟩

theorem mul_w (X Y : P2) : W2 62 75 #[vI X, vI Y] (mulP X Y) := by
  have h := fun x y => fop_nan (op := .mul) (x := x) (y := y) (.inr (.inr (.inl rfl)))
  obtain ⟨h1, h2⟩ := span_w (h X.1 Y.1) (h X.1 Y.2) (h X.2 Y.1) (h X.2 Y.2)
  exact ⟨mul_runs h1, mul_runsR h2⟩

theorem div_w (X : P2) {Y : P2} (hc : NN Y.1) (he : NN Y.2) : W2 63 76 #[vI X, vI Y] (divP X Y) := by
  have h := fun x y => fop_nan (op := .quo) (x := x) (y := y) (.inr (.inr (.inr rfl)))
  unfold divP
  by_cases hi : ix Y.1 ≤ 0 ∧ 0 ≤ ix Y.2
  · rw [decide_eq_true hi]
    exact ⟨div_zero (in_yes nn_zero.1 hc he (by rw [nn_zero.2]; omega) (by rw [nn_zero.2]; omega)), div_zeroR (holds_at hc he (decide_eq_true (by omega)).symm)⟩
  · rw [decide_eq_false hi]
    obtain ⟨h1, h2⟩ := span_w (h X.1 Y.1) (h X.1 Y.2) (h X.2 Y.1) (h X.2 Y.2)
    exact ⟨div_runs (in_no nn_zero.1 hc he (by rw [nn_zero.2]; omega)) h1, div_runsR (holds_at hc he (decide_eq_false (by omega)).symm) h2⟩

/-- The from-tos' arithmetic, taken so. -/
def ivCall (f : FuncId) (args : Array Value) (H : AHeap) : Option (Value × AHeap) :=
  match args with
  | ⟨[.agg ⟨[.float .f64 a, .float .f64 b]⟩, .agg ⟨[.float .f64 c, .float .f64 d]⟩]⟩ =>
    bif f == 60 || f == 73 then some (vI (addP (a, b) (c, d)), H)
    else bif f == 61 || f == 74 then some (vI (subP (a, b) (c, d)), H)
    else bif f == 62 || f == 75 then some (vI (mulP (a, b) (c, d)), H)
    else none
  | _ => none

theorem ivCall_ok {f : FuncId} {args : Array Value} {H H' : AHeap} {v : Value} (h : ivCall f args H = some (v, H')) : Runs Try.prog f args H v H' := by
  unfold ivCall at h
  split at h
  · rename_i a b c d
    have go : ∀ {g1 g2 : FuncId} {r : P2}, (f == g1 || f == g2) = true → W2 g1 g2 #[vI (a, b), vI (c, d)] r → some (vI r, H) = some (v, H') → Runs Try.prog f #[vI (a, b), vI (c, d)] H v H' := by
      intro g1 g2 r hf hw e
      injection e with e
      injection e with e1 e2
      subst e1; subst e2
      simp only [Bool.or_eq_true, beq_iff_eq] at hf
      rcases hf with rfl | rfl
      · exact hw.1.quiet rfl rfl _
      · exact hw.2.quiet rfl rfl _
    cases h1 : (f == 60 || f == 73) with
    | true => rw [h1] at h; exact go h1 (add_w (a, b) (c, d)) h
    | false =>
      rw [h1] at h
      cases h2 : (f == 61 || f == 74) with
      | true => rw [h2] at h; exact go h2 (sub_w (a, b) (c, d)) h
      | false =>
        rw [h2] at h
        cases h3 : (f == 62 || f == 75) with
        | true => rw [h3] at h; exact go h3 (mul_w (a, b) (c, d)) h
        | false => rw [h3] at h; cases h
  · cases h

noncomputable def base1 : Orc := { base0 with call := ivCall }
theorem base1_ok : OrcOK Try.prog base1 := ⟨fun _ _ _ _ _ h => ivCall_ok h, base0_ok.row, base0_ok.bin⟩
/-- A function with questions, the from-tos' arithmetic taken so; more calls may be handed in. -/
noncomputable def askB (B : Orc) (ask : FuncId → Nat) (askC : BinOp → Value → Value → Bool) (d : Nat) (f : FuncId) (args : Array Value) (H : AHeap) (s : List Ans) : Option (Value × AHeap × List Obl) :=
  (evFuncL Try.prog { B with call := callN Try.prog B q1 fs1 1000 d } q1 fs1 ask askC 1000 8 f args H s).map fun r => (r.1, r.2.1, r.2.2.2)
theorem askB_runs {B : Orc} (hB : OrcOK Try.prog B) {ask : FuncId → Nat} {askC : BinOp → Value → Value → Bool} {d : Nat} {f : FuncId} {args : Array Value} {H H' : AHeap} {s : List Ans} {v : Value} {l : List Obl}
    (h : askB B ask askC d f args H s = some (v, H', l)) (hl : okAll Try.prog l) : Runs Try.prog f args H v H' := by
  unfold askB at h
  simp only [Option.map_eq_some_iff] at h
  obtain ⟨⟨v1, H1, s1, l1⟩, h1, h2⟩ := h
  simp only [Prod.mk.injEq] at h2
  obtain ⟨rfl, rfl, rfl⟩ := h2
  exact evN_sound hB mixed0 fs1_ok h1 hl
theorem tellsB {B : Orc} (hB : OrcOK Try.prog B) {ask : FuncId → Nat} {askC : BinOp → Value → Value → Bool} {d : Nat} {f : FuncId} {args : Array Value} {H : AHeap} {s : List Ans} {v : Value} {l : List Obl}
    (h : (askB B ask askC d f args H s).map (fun r => (r.1, r.2.2)) = some (v, l)) (hl : okAll Try.prog l) : Tells f args H v := by
  simp only [Option.map_eq_some_iff] at h
  obtain ⟨⟨v1, H1, l1⟩, h1, h2⟩ := h
  simp only [Prod.mk.injEq] at h2
  obtain ⟨rfl, rfl⟩ := h2
  exact ⟨H1, askB_runs hB h1 hl⟩
theorem quietB {B : Orc} (hB : OrcOK Try.prog B) {ask : FuncId → Nat} {askC : BinOp → Value → Value → Bool} {d : Nat} {f : FuncId} {args : Array Value} {s : List Ans} {v : Value} {l : List Obl}
    (h : (askB B ask askC d f args #[] s).map (fun r => (r.1, r.2.2)) = some (v, l)) (hl : okAll Try.prog l) (ha : closA args = true) (hv : closN 4 v = true) : Runs Try.prog f args #[] v #[] := by
  obtain ⟨H', h⟩ := tellsB hB h hl
  exact h.quiet ha hv #[]

end Go.Proofs.Ytpmdpbljgidllaa
