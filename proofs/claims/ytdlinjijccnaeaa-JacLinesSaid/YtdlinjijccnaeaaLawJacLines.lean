/- The law JacLines returns true, whatever the numbers. -/
import Derived.Test.YtdlinjijccnaeaaJqL
namespace Go.Proofs.Ytdlinjijccnaeaa
open Go
set_option linter.unusedVariables false
set_option linter.unusedSimpArgs false
set_option maxRecDepth 100000

theorem lnRun {N l : Nat} (h1 : 1 ≤ N) (h2 : N ≤ 4) (h : l ≤ N) : LnRun N l := by
  have hN : N = 1 ∨ N = 2 ∨ N = 3 ∨ N = 4 := by omega
  have hl : l = 0 ∨ l = 1 ∨ l = 2 ∨ l = 3 ∨ l = 4 := by omega
  rcases hN with rfl | rfl | rfl | rfl <;> rcases hl with rfl | rfl | rfl | rfl | rfl <;> first | omega | skip
  · exact lnRun_1_0
  · exact lnRun_1_1
  · exact lnRun_2_0
  · exact lnRun_2_1
  · exact lnRun_2_2
  · exact lnRun_3_0
  · exact lnRun_3_1
  · exact lnRun_3_2
  · exact lnRun_3_3
  · exact lnRun_4_0
  · exact lnRun_4_1
  · exact lnRun_4_2
  · exact lnRun_4_3
  · exact lnRun_4_4
theorem knownLn : Runs Try.prog 12 #[] #[] (.bool true) #[] := by
  have h : (askN noF noC 12 12 #[] #[] []).map (fun r => (r.1, r.2.2)) = some (.bool true, []) := by kernel_rfl
  obtain ⟨H', h⟩ := tells_of h trivial
  exact h.quiet rfl rfl #[]
noncomputable def askAbL (f : FuncId) : Nat := if f == 60 then 1 else if f == 43 then 2 else 0
theorem mag_cameL (a b x y : Nat) (c : Bool) : (askN askAbL fltC 12 22 #[fl2 a b] #[] [isG x, isG y, yes c]).map (fun r => (r.1, r.2.2)) = some (.float .f64 (sel c y x), [absO a x, absO b y, cmpF .gtr y x c]) := by
  cases c <;> kernel_rfl
theorem mag_L {X : P2} (h1 : NN X.1) (h2 : NN X.2) : ∃ g, Runs Try.prog 22 #[vI X] #[] (.float .f64 g) #[] ∧ NN g ∧ (ix g = (ix X.1).natAbs ∨ ix g = (ix X.2).natAbs) := by
  obtain ⟨a1, a2⟩ := abs_ix h1
  obtain ⟨b1, b2⟩ := abs_ix h2
  obtain ⟨s1, s2, s3, s4⟩ := sel_hi b1 a1 rfl
  have ob : okAll Try.prog [absO X.1 (fabs X.1), absO X.2 (fabs X.2), cmpF .gtr (fabs X.2) (fabs X.1) (decide (ix (fabs X.1) < ix (fabs X.2)))] := ⟨abs_runs h1, abs_runs h2, (fc _ rfl _ _).trans (gtr_ix b1 a1), trivial⟩
  refine ⟨_, quiet_of' (mag_cameL X.1 X.2 _ _ _) ob rfl rfl, s1, ?_⟩
  rcases s4 with h | h <;> rw [h] <;> omega

/-! the field's operations -/
theorem ln_at {N : Nat} (h2 : N ≤ 4) (c : Nat → Nat) {i : Nat} (hi : i < N) : (opsLn N c)[3 * i]? = some ⟨1, Int.ofNat i, 0, 0⟩ ∧ (opsLn N c)[3 * i + 1]? = some ⟨0, 0, 0, c i⟩ ∧ (opsLn N c)[3 * i + 2]? = some ⟨4, Int.ofNat (3 * i), Int.ofNat (3 * i + 1), 0⟩ := by
  have hN : N = 1 ∨ N = 2 ∨ N = 3 ∨ N = 4 := by omega
  have hI : i = 0 ∨ i = 1 ∨ i = 2 ∨ i = 3 := by omega
  rcases hN with rfl | rfl | rfl | rfl <;> rcases hI with rfl | rfl | rfl | rfl <;> first | omega | exact ⟨rfl, rfl, rfl⟩
theorem ln_len (N : Nat) (c : Nat → Nat) : (opsLn N c).length = 3 * N := by
  unfold opsLn
  rw [List.length_flatMap]
  simp only [List.length_cons, List.length_nil]
  rw [List.map_const', List.sum_replicate_nat, List.length_range]
  omega
theorem ln_ok {N : Nat} (h2 : N ≤ 4) (c : Nat → Nat) (k : Nat) (o : OpD) (h : (opsLn N c)[k]? = some o) : opOkD k N o ∧ (o.K = 0 → ∃ i, o.C = c i) := by
  have hk : k < 3 * N := by rw [← ln_len N c]; exact (List.getElem?_eq_some_iff.1 h).1
  obtain ⟨g0, g1, g2⟩ := ln_at h2 c (i := k / 3) (by omega)
  have hm : k = 3 * (k / 3) ∨ k = 3 * (k / 3) + 1 ∨ k = 3 * (k / 3) + 2 := by omega
  rcases hm with e | e | e
  · rw [← e, h] at g0
    injection g0 with g0
    subst g0
    exact ⟨.inr (.inl ⟨rfl, Int.natCast_nonneg _, by show ((k / 3 : Nat) : Int) < N; omega⟩), fun h => by cases h⟩
  · rw [← e, h] at g1
    injection g1 with g1
    subst g1
    exact ⟨.inl rfl, fun _ => ⟨_, rfl⟩⟩
  · rw [← e, h] at g2
    injection g2 with g2
    subst g2
    exact ⟨.inr (.inr ⟨by show (2 : Int) ≤ 4; decide, by show (4 : Int) ≤ 5; decide, Int.natCast_nonneg _, by show ((3 * (k / 3) : Nat) : Int) < k; omega, Int.natCast_nonneg _, by show ((3 * (k / 3) + 1 : Nat) : Int) < k; omega⟩), fun h => by cases h⟩
theorem ln_out {N : Nat} {u : Int} (h : u ∈ outLn N) : 0 ≤ u ∧ u < (3 * N : Nat) := by
  obtain ⟨i, hi, rfl⟩ := List.mem_map.1 h
  have := List.mem_range.1 hi
  exact ⟨Int.natCast_nonneg _, by show ((3 * i + 2 : Nat) : Int) < _; omega⟩
theorem ln_get {N i : Nat} (hi : i < N) : ((outLn N).getD i 0).toNat = 3 * i + 2 := by
  unfold outLn
  rw [List.getD_eq_getElem?_getD, List.getElem?_map, List.getElem?_range hi]
  rfl
theorem rng_get {α : Type} (f : Nat → α) (d : α) {N i : Nat} (hi : i < N) : ((List.range N).map f).getD i d = f i := by
  rw [List.getD_eq_getElem?_getD, List.getElem?_map, List.getElem?_range hi]
  rfl
section
variable {N : Nat} {c fx : Nat → Nat}
theorem ln_R (h2 : N ≤ 4) {i m : Nat} (hi : i < N) : rwD (opsLn N c) ((List.range N).map fx) (outLn N) i m = fop .add .f64 (fop .mul .f64 (if (i : Int) = m then 4607182418800017408 else 0) (c i)) (fop .mul .f64 (fx i) 0) := by
  obtain ⟨g0, g1, g2⟩ := ln_at h2 c hi
  unfold rwD
  rw [ln_get hi, regD_s g2 (ln_ok h2 c _ _ g2).1]
  show slF 4 (regD (opsLn N c) ((List.range N).map fx) (Int.ofNat (3 * i)).toNat).1 (regD (opsLn N c) ((List.range N).map fx) (Int.ofNat (3 * i + 1)).toNat).1 (regD (opsLn N c) ((List.range N).map fx) (3 * i + 2)).1 ((regD (opsLn N c) ((List.range N).map fx) (Int.ofNat (3 * i)).toNat).2 m) ((regD (opsLn N c) ((List.range N).map fx) (Int.ofNat (3 * i + 1)).toNat).2 m) = _
  rw [show (Int.ofNat (3 * i)).toNat = 3 * i from rfl, show (Int.ofNat (3 * i + 1)).toNat = 3 * i + 1 from rfl, regD_v g0 (ln_ok h2 c _ _ g0).1, regD_v g1 (ln_ok h2 c _ _ g1).1, regD_s g0 (ln_ok h2 c _ _ g0).1, regD_s g1 (ln_ok h2 c _ _ g1).1]
  show fop .add .f64 (fop .mul .f64 (if (i : Int) = m then 4607182418800017408 else 0) (c i)) (fop .mul .f64 (((List.range N).map fx).getD i 0) 0) = _
  rw [rng_get fx 0 hi]
theorem ln_RI (h2 : N ≤ 4) {X : Nat → P2} {i m : Nat} (hi : i < N) : ∃ q, rwDI (opsLn N c) ((List.range N).map X) (outLn N) i m = slP 4 (X i) (c i, c i) q (if (i : Int) = m then (4607182418800017408, 4607182418800017408) else (0, 0)) (0, 0) ∧ RsW q q := by
  obtain ⟨g0, g1, g2⟩ := ln_at h2 c hi
  unfold rwDI
  rw [ln_get hi, regD_sI g2 (ln_ok h2 c _ _ g2).1]
  refine ⟨(regDI (opsLn N c) ((List.range N).map X) (3 * i + 2)).1, ?_, ?_⟩
  · show slP 4 (regDI (opsLn N c) ((List.range N).map X) (Int.ofNat (3 * i)).toNat).1 (regDI (opsLn N c) ((List.range N).map X) (Int.ofNat (3 * i + 1)).toNat).1 (regDI (opsLn N c) ((List.range N).map X) (3 * i + 2)).1 ((regDI (opsLn N c) ((List.range N).map X) (Int.ofNat (3 * i)).toNat).2 m) ((regDI (opsLn N c) ((List.range N).map X) (Int.ofNat (3 * i + 1)).toNat).2 m) = _
    rw [show (Int.ofNat (3 * i)).toNat = 3 * i from rfl, show (Int.ofNat (3 * i + 1)).toNat = 3 * i + 1 from rfl, regD_vI g0 (ln_ok h2 c _ _ g0).1, regD_vI g1 (ln_ok h2 c _ _ g1).1, regD_sI g0 (ln_ok h2 c _ _ g0).1, regD_sI g1 (ln_ok h2 c _ _ g1).1]
    show slP 4 (((List.range N).map X).getD i (0, 0)) (c i, c i) (regDI (opsLn N c) ((List.range N).map X) (3 * i + 2)).1 (if (i : Int) = m then (4607182418800017408, 4607182418800017408) else (0, 0)) (0, 0) = _
    rw [rng_get X (0, 0) hi]
  · have e := regD_vI g2 (ln_ok h2 c _ _ g2).1 (xs := (List.range N).map X)
    rw [e]
    show RsW (opP 4 _ _) (opP 4 _ _)
    exact ⟨opP_rs _ _ _, opP_rs _ _ _, wi_refl _⟩
end

/-! the numbers -/
theorem dy_one : Dy 0 1 4607182418800017408 := ⟨fi_one, by decide +kernel⟩
theorem dy_zero (e : Nat) : Dy e 0 0 := ⟨fi_zero.1, by rw [show kv 0 = 0 by decide +kernel]; simp⟩
theorem dy_v8 (zs : List Int) (i : Nat) : Dy 3 (vlI zs i) (vw8 (Fz (vlI zs i))) := by
  have b := vlI_bd zs i
  exact (Dy.quoT (Dy.F (n := vlI zs i) (by omega)) 3 fi_8.1 fi_8.2 (by omega) (by omega)).cast (by omega) rfl
theorem dy_4 : Dy 3 32 4616189618054758400 ∧ Dy 3 (-32) 13839561654909534208 := ⟨⟨⟨by decide +kernel, by decide +kernel, by decide +kernel⟩, by decide +kernel⟩, ⟨⟨by decide +kernel, by decide +kernel, by decide +kernel⟩, by decide +kernel⟩⟩
theorem dy_8 : Dy 3 64 4620693217682128896 ∧ Dy 3 (-64) 13844065254536904704 := ⟨⟨⟨by decide +kernel, by decide +kernel, by decide +kernel⟩, by decide +kernel⟩, ⟨⟨by decide +kernel, by decide +kernel, by decide +kernel⟩, by decide +kernel⟩⟩
theorem dy_b (ms : List Int) (i : Nat) : Dy 3 (vlI ms i - 8) (fop .sub .f64 (vw8 (Fz (vlI ms i))) 4607182418800017408) ∧ Dy 3 (vlI ms i + 8) (fop .add .f64 (vw8 (Fz (vlI ms i))) 4607182418800017408) := by
  have b := vlI_bd ms i
  have o8 : Dy 3 8 4607182418800017408 := (dy_one.up 3).cast (by omega) (by decide)
  exact ⟨(dy_v8 ms i).sub o8 (by omega) (by omega), (dy_v8 ms i).add o8 (by omega) (by omega)⟩
theorem ln_in (ms : List Int) (i : Nat) : NIn (vw8 (Fz (vlI ms i))) (bIv (fun i => vw8 (Fz (vlI ms i))) i) ∧ RsW (bIv (fun i => vw8 (Fz (vlI ms i))) i) (13844065254536904704, 4620693217682128896) := by
  obtain ⟨b1, b2⟩ := dy_b ms i
  have b := vlI_bd ms i
  have v := dy_v8 ms i
  refine ⟨⟨.inl v.fi.nn, rs_fi b1.fi b2.fi (b1.le b2 (by omega)), fun _ => ⟨b1.le v (by omega), v.le b2 (by omega)⟩⟩, rs_fi b1.fi b2.fi (b1.le b2 (by omega)), rs_fi dy_8.2.fi dy_8.1.fi (dy_8.2.le dy_8.1 (by omega)), dy_8.2.le b1 (by omega), b2.le dy_8.1 (by omega)⟩
def boxL : P2 := slP 4 (13844065254536904704, 4620693217682128896) (13839561654909534208, 4616189618054758400) (0, 0) (13830554455654793216, 4607182418800017408) (0, 0)
theorem boxL_bd : -ix 4616302208045442662 ≤ ix boxL.1 ∧ ix boxL.2 ≤ ix 4616302208045442662 := by decide +kernel
theorem one_box : RsW (4607182418800017408, 4607182418800017408) (13830554455654793216, 4607182418800017408) ∧ RsW (0, 0) (13830554455654793216, 4607182418800017408) := by
  have hm : Fi 13830554455654793216 := ⟨by decide +kernel, by decide +kernel, by decide +kernel⟩
  exact ⟨⟨rs_pt fi_one, rs_fi hm fi_one (by decide +kernel), by decide +kernel, by decide +kernel⟩, ⟨rs_pt fi_zero.1, rs_fi hm fi_one (by decide +kernel), by decide +kernel, by decide +kernel⟩⟩
theorem ln_mag {zs ms : List Int} {N i m : Nat} (h2 : N ≤ 4) (hi : i < N) : RsW (rwDI (opsLn N fun i => vw8 (Fz (vlI zs i))) ((List.range N).map (bIv fun i => vw8 (Fz (vlI ms i)))) (outLn N) i m) boxL := by
  obtain ⟨q, e, hq⟩ := ln_RI (c := fun i => vw8 (Fz (vlI zs i))) h2 (X := bIv fun i => vw8 (Fz (vlI ms i))) (m := m) hi
  rw [e]
  have v := dy_v8 zs i
  have b := vlI_bd zs i
  have hc : RsW (vw8 (Fz (vlI zs i)), vw8 (Fz (vlI zs i))) (13839561654909534208, 4616189618054758400) := ⟨rs_pt v.fi, rs_fi dy_4.2.fi dy_4.1.fi (dy_4.2.le dy_4.1 (by omega)), dy_4.2.le v (by omega), v.le dy_4.1 (by omega)⟩
  have hx : RsW (if (i : Int) = m then (4607182418800017408, 4607182418800017408) else (0, 0)) (13830554455654793216, 4607182418800017408) := by
    split
    · exact one_box.1
    · exact one_box.2
  have key := slp_wi 4 (ln_in ms i).2 hc hq hx (rsW_pt fi_zero.1)
  exact key
theorem ln_want {zs ms : List Int} {N i m : Nat} (h2 : N ≤ 4) (hi : i < N) : ∃ n : Int, Dy 3 n (rwD (opsLn N fun i => vw8 (Fz (vlI zs i))) ((List.range N).map fun i => vw8 (Fz (vlI ms i))) (outLn N) i m) ∧ Dy 3 n (wantL (fun i => vw8 (Fz (vlI zs i))) i m) := by
  rw [ln_R h2 hi]
  have v := dy_v8 zs i
  have b := vlI_bd zs i
  have w := dy_v8 ms i
  have b2 := vlI_bd ms i
  have z0 : Dy 3 0 (fop .mul .f64 (vw8 (Fz (vlI ms i))) 0) := (w.mul (dy_zero 0) (by simp) (by omega)).cast rfl (by simp)
  by_cases e : m = i
  · subst e
    rw [if_pos rfl]
    have a1 : Dy 3 (vlI zs m) (fop .mul .f64 4607182418800017408 (vw8 (Fz (vlI zs m)))) := (dy_one.mul v (by omega) (by omega)).cast (by omega) (by omega)
    have a2 := (a1.add z0 (by omega) (by omega)).cast rfl (show vlI zs m + 0 = vlI zs m by omega)
    refine ⟨vlI zs m, a2, ?_⟩
    unfold wantL
    rw [if_pos rfl]
    exact v
  · rw [if_neg (by omega)]
    have a1 : Dy 3 0 (fop .mul .f64 0 (vw8 (Fz (vlI zs i)))) := ((dy_zero 0).mul v (by simp) (by omega)).cast (by omega) (by simp)
    have a2 := (a1.add z0 (by omega) (by omega)).cast rfl (show (0 : Int) + 0 = 0 by omega)
    refine ⟨0, a2, ?_⟩
    unfold wantL
    rw [if_neg e]
    exact dy_zero 3
theorem map_get {α : Type} {N : Nat} (f : Nat → α) (d : α) {Q : α → Prop} (hd : Q d) (h : ∀ i, Q (f i)) (i : Nat) : Q (((List.range N).map f).getD i d) := by
  rw [List.getD_eq_getElem?_getD, List.getElem?_map]
  by_cases c : i < N
  · rw [List.getElem?_range c]; exact h i
  · rw [List.getElem?_eq_none (by simp; omega)]; exact hd
theorem grL_len (N : Nat) (c : Nat → Nat) : (grL N c).length = 6 * N := by
  unfold grL
  rw [List.length_flatMap]
  simp only [List.length_cons, List.length_nil]
  rw [List.map_const', List.sum_replicate_nat, List.length_range]
  omega
theorem grL_at {N : Nat} (h1 : 1 ≤ N) (h2 : N ≤ 4) (c : Nat → Nat) : (grL N c)[6 * (N - 1) + 3]? = some (opB (opsB (opsLn N c) true).cells) ∧ (grL N c)[6 * (N - 1) + 5]? = some (iB (intB (outLn N) true).cells) := by
  have hN : N = 1 ∨ N = 2 ∨ N = 3 ∨ N = 4 := by omega
  rcases hN with rfl | rfl | rfl | rfl <;> exact ⟨rfl, rfl⟩
theorem grRl_last {N : Nat} (h1 : 1 ≤ N) (h2 : N ≤ 4) (f : Nat → P2) : (grRi N f).length = 2 * N ∧ (grRi N f)[2 * N - 1]? = some (some ⟨((List.range N).flatMap fun i => pC (f i)).toArray, 29, 2, true⟩) := by
  have hN : N = 1 ∨ N = 2 ∨ N = 3 ∨ N = 4 := by omega
  rcases hN with rfl | rfl | rfl | rfl <;> exact ⟨rfl, rfl⟩
set_option maxHeartbeats 4000000 in
theorem jacLines_pad {o o2 : Option ABlk} {va vb : Value} {zs ms : List Int} (ha : Handed #[o, o2] zs va) (hb : Handed #[o, o2] ms vb) (n : Int) :
    Tells 6 #[va, .int .i64 n, vb] #[o, o2] (.bool true) := by
  have n0 := emod_bd n (m := 4) (by decide)
  obtain ⟨N, hN, n1, n2⟩ : ∃ N : Nat, n % 4 = Int.ofNat (N - 1) ∧ 1 ≤ N ∧ N ≤ 4 := ⟨(n % 4).toNat + 1, by simp; omega, by omega, by omega⟩
  obtain ⟨ar, cr, rfl⟩ := ha.parts
  have hP : ∀ i, ∃ p : Addr, i < zs.length → indexAddrV Try.prog 22 (.slice ar zs.length cr) (.int .i64 (Int.ofNat i)) = some (.pointer (some p)) ∧ ∀ c : AHeap, readVar Try.prog (#[o, o2] ++ c) 3 p = some (.int .i64 (zs.getD i 0)) := by
    intro i
    by_cases h : i < zs.length
    · obtain ⟨p, h1, h2⟩ := ha.get h
      exact ⟨p, fun _ => ⟨h1, h2⟩⟩
    · exact ⟨⟨0, 0, none⟩, fun h' => absurd h' h⟩
  obtain ⟨p, hp⟩ := Classical.axiomOfChoice hP
  let c : Nat → Nat := fun i => vw8 (Fz (vlI zs i))
  let fx : Nat → Nat := fun i => vw8 (Fz (vlI ms i))
  let xs : List Nat := (List.range N).map fx
  let Xs : List P2 := (List.range N).map (bIv fx)
  let R := rwD (opsLn N c) xs (outLn N)
  let RI := rwDI (opsLn N c) Xs (outLn N)
  have hmagE : ∀ i, ∃ g : Nat → Nat, i < N → ∀ m, Runs Try.prog 22 #[vI (RI i m)] #[] (.float .f64 (g m)) #[] ∧ NN (g m) ∧ ix (g m) ≤ ix 4616302208045442662 := by
    intro i
    by_cases hi : i < N
    · have : ∀ m, ∃ g, Runs Try.prog 22 #[vI (RI i m)] #[] (.float .f64 g) #[] ∧ NN g ∧ ix g ≤ ix 4616302208045442662 := by
        intro m
        have hw : RsW (RI i m) boxL := ln_mag (zs := zs) (ms := ms) (m := m) n2 hi
        obtain ⟨g, g1, g2, g3⟩ := mag_L hw.a.rt.l hw.a.rt.h
        refine ⟨g, g1, g2, ?_⟩
        obtain ⟨w1, w2⟩ := hw.w
        obtain ⟨b1, b2⟩ := boxL_bd
        have := hw.a.rt.le
        rcases g3 with e | e <;> omega
      obtain ⟨g, hg⟩ := Classical.axiomOfChoice this
      exact ⟨g, fun _ => hg⟩
    · exact ⟨fun _ => 0, fun h => absurd h hi⟩
  obtain ⟨mg, hmg⟩ := Classical.axiomOfChoice hmagE
  have r := lnRun n1 n2 (l := min zs.length N) (Nat.min_le_right _ _) o o2 n vb zs.length ar cr p (fun i => zs.getD i 0) (fun i => zs.getD i (Int.ofNat i) % 65) (fun i => vlI zs i) (fun i => Fz (vlI zs i)) fx R RI mg
  have hh := fun (c : List (Option ABlk)) {zs : List Int} {v : Value} (h : Handed [o, o2].toArray zs v) => h.list c
  have e2 : ∀ rest : List (Option ABlk), (o :: o2 :: rest).toArray = #[o, o2] ++ rest.toArray := fun rest => by
    apply Array.ext'
    simp
  have hx : xs.length = N := by simp [xs]
  have hX : Xs.length = N := by simp [Xs]
  have hol : (outLn N).length = N := by simp [outLn]
  have hou : ∀ u ∈ outLn N, 0 ≤ u ∧ u < (opsLn N c).length := fun u hu => by rw [ln_len]; exact ln_out hu
  have l1 : (hpL1 o o2 N c).length = 3 + 6 * N := by
    unfold hpL1
    rw [List.length_append, grL_len]
    show 3 + 6 * N = _
    rfl
  have q0 : ∀ rest, (hpL1 o o2 N c ++ rest)[3 + 6 * (N - 1) + 3]? = some (opB (opsB (opsLn N c) true).cells) := fun rest => by
    rw [List.getElem?_append_left (by omega)]
    unfold hpL1
    rw [List.getElem?_append_right (by show 3 ≤ _; omega), show 3 + 6 * (N - 1) + 3 - [o, o2, tcL N N].length = 6 * (N - 1) + 3 by show 3 + 6 * (N - 1) + 3 - 3 = _; omega]
    exact (grL_at n1 n2 c).1
  have q1 : ∀ rest, (hpL1 o o2 N c ++ rest)[3 + 6 * (N - 1) + 5]? = some (iB (intB (outLn N) true).cells) := fun rest => by
    rw [List.getElem?_append_left (by omega)]
    unfold hpL1
    rw [List.getElem?_append_right (by show 3 ≤ _; omega), show 3 + 6 * (N - 1) + 5 - [o, o2, tcL N N].length = 6 * (N - 1) + 5 by show 3 + 6 * (N - 1) + 5 - 3 = _; omega]
    exact (grL_at n1 n2 c).2
  have hcF : ∀ o ∈ opsLn N c, o.K = 0 → Fi o.C := by
    intro o ho h0
    obtain ⟨k, hk⟩ := List.getElem?_of_mem ho
    obtain ⟨i, hi⟩ := (ln_ok n2 c k o hk).2 h0
    rw [hi]
    exact (dy_v8 zs i).fi
  have hin : ∀ i, NIn (xs.getD i 0) (Xs.getD i (0, 0)) := by
    intro i
    by_cases hi : i < N
    · rw [show xs.getD i 0 = fx i from rng_get fx 0 hi, show Xs.getD i (0, 0) = bIv fx i from rng_get (bIv fx) (0, 0) hi]
      exact (ln_in ms i).1
    · rw [List.getD_eq_getElem?_getD, List.getD_eq_getElem?_getD, List.getElem?_eq_none (by omega), List.getElem?_eq_none (by omega)]
      exact nIn_zero
  have hD := regD_in hcF hin
  have hr : ∀ k, Rt (regDI (opsLn N c) Xs k).1 := fun k => (hD k).v.rs.rt
  refine tells_of r (okApp' (okApp' (okApp' (okApp' (okApp' (okApp' ⟨knownLn, by rw [← hN]; exact within4 n 3 (by decide), trivial⟩ (each_ok _ _ fun i hi => ?_)) ?_) (map_ok _ _ fun i hi => cmp_ok (decide_eq_true (List.mem_range.1 hi)))) ?_) (each_ok _ _ fun i hi => ?_)) ⟨cmp_ok (decide_eq_false (by omega)), trivial⟩)
  · have hlt := List.mem_range.1 hi
    refine okApp' (okApp' ⟨cmp_ok (decide_eq_true hlt), trivial⟩ ?_) ⟨ar_sub _ _, cv_ok _, trivial⟩
    by_cases h : i < min zs.length N
    · rw [if_pos h]
      have hz : i < zs.length := by omega
      obtain ⟨p1, p2⟩ := hp i hz
      refine ⟨cmp_ok (decide_eq_true hz), p1, ?_, ?_, trivial⟩
      · have := p2 (hL N c i).toArray
        rw [← e2] at this
        exact this
      · have e : zs.getD i (Int.ofNat i) = zs.getD i 0 := by
          rw [List.getD_eq_getElem?_getD, List.getD_eq_getElem?_getD, List.getElem?_eq_getElem hz]
          rfl
        show (wiOl (zs.getD i 0) 65 (zs.getD i (Int.ofNat i) % 65)).ok Try.prog
        rw [e]
        exact within4 _ 64 (by decide)
    · rw [if_neg h]
      have hz : ¬ i < zs.length := by omega
      refine ⟨cmp_ok (decide_eq_false hz), ?_, trivial⟩
      have e : zs.getD i (Int.ofNat i) = Int.ofNat i := by
        rw [List.getD_eq_getElem?_getD, List.getElem?_eq_none (by omega)]
        rfl
      show (wiOl (Int.ofNat i) 65 (zs.getD i (Int.ofNat i) % 65)).ok Try.prog
      rw [e]
      exact within4 _ 64 (by decide)
  · refine ⟨cmp_ok (decide_eq_false (by omega)), ?_, ?_, trivial⟩
    · have := val_rn (l := hpL1 o o2 N c) n1 n2 (by
        have h9 := hh (tcL N N :: grL N c) hb
        exact h9) (s := 3 + 6 * N) l1.symm
      exact this
    · have := jacAny_rn (l := hpL1 o o2 N c ++ [nwF xs]) (bo := 3 + 6 * (N - 1) + 3) (bu := 3 + 6 * (N - 1) + 5) (bx := 3 + 6 * N) (s := 4 + 6 * N) (fun k o h => (ln_ok n2 c k o h).1) hx hol hou n1 n2 (ln_len N c) (by omega) (by omega) (q0 _) (q1 _)
        (by rw [List.getElem?_append_right (by omega), l1, Nat.sub_self]; rfl) (by omega) (by omega) (by omega) (by rw [List.length_append, l1]; simp; omega)
      exact this
  · refine ⟨cmp_ok (decide_eq_false (by omega)), ?_, trivial⟩
    have lt : (tabJ (4 + 6 * N) N R).length = N + 1 := tab_len _ N R
    have lh : (hpL1 o o2 N c ++ [nwF xs] ++ tabJ (4 + 6 * N) N R).length = 5 + 7 * N := by
      rw [List.length_append, List.length_append, l1, lt]
      simp
      omega
    obtain ⟨gl, gg⟩ := grRl_last n1 n2 (bIv fx)
    have := jacAnyI_rn (l := hpL2 o o2 N c fx R) (bo := 3 + 6 * (N - 1) + 3) (bu := 3 + 6 * (N - 1) + 5) (bx := 4 + 9 * N) (s := 5 + 9 * N) hr (fun k o h => (ln_ok n2 c k o h).1) hX hol hou n1 n2 (ln_len N c) (by omega) (by omega)
      (by unfold hpL2; rw [List.append_assoc, List.append_assoc]; exact q0 _) (by unfold hpL2; rw [List.append_assoc, List.append_assoc]; exact q1 _)
      (by
        unfold hpL2
        rw [List.getElem?_append_right (by show (hpL1 o o2 N c ++ [nwF xs] ++ tabJ (4 + 6 * N) N R).length ≤ _; omega), show 4 + 9 * N - (hpL1 o o2 N c ++ [nwF ((List.range N).map fx)] ++ tabJ (4 + 6 * N) N R).length = 2 * N - 1 by show _ - (hpL1 o o2 N c ++ [nwF xs] ++ tabJ (4 + 6 * N) N R).length = _; omega, gg]
        show _ = some (some (⟨(Xs.flatMap pC).toArray, 29, 2, true⟩ : ABlk))
        rw [show Xs = (List.range N).map (bIv fx) from rfl, List.flatMap_map]) (by omega) (by omega) (by omega) (by
          unfold hpL2
          rw [List.length_append, gl]
          show 5 + 9 * N = (hpL1 o o2 N c ++ [nwF xs] ++ tabJ (4 + 6 * N) N R).length + _
          omega)
    exact this
  · have hlt := List.mem_range.1 hi
    refine okApp' (okApp' ⟨cmp_ok (decide_eq_true hlt), trivial⟩ (each_ok _ _ fun m hm => ?_)) ⟨cmp_ok (decide_eq_false (by omega)), trivial⟩
    refine okApp' ⟨cmp_ok (decide_eq_true (List.mem_range.1 hm)), trivial⟩ ?_
    obtain ⟨k, d1, d2⟩ := ln_want (zs := zs) (ms := ms) (m := m) n2 hlt
    have eix : ix (R i m) = ix (wantL c i m) := Int.le_antisymm (d1.le d2 (Int.le_refl _)) (d2.le d1 (Int.le_refl _))
    have hI : NIn (R i m) (RI i m) := (hD _).s m
    have hip := hI.is d1.fi.nn
    refine ⟨(fc _ rfl _ _).trans ((neq_ix d1.fi.nn d2.fi.nn).trans (congrArg some (decide_eq_false (fun h => h eix)))), in_yesT d2.fi.nn hI.rs.rt ⟨by rw [← eix]; exact hip.1, by rw [← eix]; exact hip.2⟩, (hmg i hlt m).1, ?_, trivial⟩
    exact (fc _ rfl _ _).trans ((gtr_ix (hmg i hlt m).2.1 ⟨by decide +kernel, by decide +kernel, by decide +kernel⟩).trans (congrArg some (decide_eq_false (by have := (hmg i hlt m).2.2; omega))))

end Go.Proofs.Ytdlinjijccnaeaa
