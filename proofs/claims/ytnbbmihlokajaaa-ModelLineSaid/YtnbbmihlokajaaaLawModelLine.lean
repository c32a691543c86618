/- The law ModelLine returns true, whatever it is handed. -/
import Derived.Test.YtnbbmihlokajaaaModelLn0
import Derived.Test.YtnbbmihlokajaaaModelLn1
import Derived.Test.YtnbbmihlokajaaaModelLn2
namespace Go.Proofs.Ytnbbmihlokajaaa
open Go
set_option linter.unusedVariables false
set_option linter.unusedSimpArgs false
set_option maxRecDepth 100000

theorem ln_all : ∀ a, a < 9 → ∀ b, b < 9 → LnR a b ∧ lnOk a b = true
  | 0, _, 0, _ => ⟨lnR_0_0, lnOk_0_0⟩
  | 0, _, 1, _ => ⟨lnR_0_1, lnOk_0_1⟩
  | 0, _, 2, _ => ⟨lnR_0_2, lnOk_0_2⟩
  | 0, _, 3, _ => ⟨lnR_0_3, lnOk_0_3⟩
  | 0, _, 4, _ => ⟨lnR_0_4, lnOk_0_4⟩
  | 0, _, 5, _ => ⟨lnR_0_5, lnOk_0_5⟩
  | 0, _, 6, _ => ⟨lnR_0_6, lnOk_0_6⟩
  | 0, _, 7, _ => ⟨lnR_0_7, lnOk_0_7⟩
  | 0, _, 8, _ => ⟨lnR_0_8, lnOk_0_8⟩
  | 1, _, 0, _ => ⟨lnR_1_0, lnOk_1_0⟩
  | 1, _, 1, _ => ⟨lnR_1_1, lnOk_1_1⟩
  | 1, _, 2, _ => ⟨lnR_1_2, lnOk_1_2⟩
  | 1, _, 3, _ => ⟨lnR_1_3, lnOk_1_3⟩
  | 1, _, 4, _ => ⟨lnR_1_4, lnOk_1_4⟩
  | 1, _, 5, _ => ⟨lnR_1_5, lnOk_1_5⟩
  | 1, _, 6, _ => ⟨lnR_1_6, lnOk_1_6⟩
  | 1, _, 7, _ => ⟨lnR_1_7, lnOk_1_7⟩
  | 1, _, 8, _ => ⟨lnR_1_8, lnOk_1_8⟩
  | 2, _, 0, _ => ⟨lnR_2_0, lnOk_2_0⟩
  | 2, _, 1, _ => ⟨lnR_2_1, lnOk_2_1⟩
  | 2, _, 2, _ => ⟨lnR_2_2, lnOk_2_2⟩
  | 2, _, 3, _ => ⟨lnR_2_3, lnOk_2_3⟩
  | 2, _, 4, _ => ⟨lnR_2_4, lnOk_2_4⟩
  | 2, _, 5, _ => ⟨lnR_2_5, lnOk_2_5⟩
  | 2, _, 6, _ => ⟨lnR_2_6, lnOk_2_6⟩
  | 2, _, 7, _ => ⟨lnR_2_7, lnOk_2_7⟩
  | 2, _, 8, _ => ⟨lnR_2_8, lnOk_2_8⟩
  | 3, _, 0, _ => ⟨lnR_3_0, lnOk_3_0⟩
  | 3, _, 1, _ => ⟨lnR_3_1, lnOk_3_1⟩
  | 3, _, 2, _ => ⟨lnR_3_2, lnOk_3_2⟩
  | 3, _, 3, _ => ⟨lnR_3_3, lnOk_3_3⟩
  | 3, _, 4, _ => ⟨lnR_3_4, lnOk_3_4⟩
  | 3, _, 5, _ => ⟨lnR_3_5, lnOk_3_5⟩
  | 3, _, 6, _ => ⟨lnR_3_6, lnOk_3_6⟩
  | 3, _, 7, _ => ⟨lnR_3_7, lnOk_3_7⟩
  | 3, _, 8, _ => ⟨lnR_3_8, lnOk_3_8⟩
  | 4, _, 0, _ => ⟨lnR_4_0, lnOk_4_0⟩
  | 4, _, 1, _ => ⟨lnR_4_1, lnOk_4_1⟩
  | 4, _, 2, _ => ⟨lnR_4_2, lnOk_4_2⟩
  | 4, _, 3, _ => ⟨lnR_4_3, lnOk_4_3⟩
  | 4, _, 4, _ => ⟨lnR_4_4, lnOk_4_4⟩
  | 4, _, 5, _ => ⟨lnR_4_5, lnOk_4_5⟩
  | 4, _, 6, _ => ⟨lnR_4_6, lnOk_4_6⟩
  | 4, _, 7, _ => ⟨lnR_4_7, lnOk_4_7⟩
  | 4, _, 8, _ => ⟨lnR_4_8, lnOk_4_8⟩
  | 5, _, 0, _ => ⟨lnR_5_0, lnOk_5_0⟩
  | 5, _, 1, _ => ⟨lnR_5_1, lnOk_5_1⟩
  | 5, _, 2, _ => ⟨lnR_5_2, lnOk_5_2⟩
  | 5, _, 3, _ => ⟨lnR_5_3, lnOk_5_3⟩
  | 5, _, 4, _ => ⟨lnR_5_4, lnOk_5_4⟩
  | 5, _, 5, _ => ⟨lnR_5_5, lnOk_5_5⟩
  | 5, _, 6, _ => ⟨lnR_5_6, lnOk_5_6⟩
  | 5, _, 7, _ => ⟨lnR_5_7, lnOk_5_7⟩
  | 5, _, 8, _ => ⟨lnR_5_8, lnOk_5_8⟩
  | 6, _, 0, _ => ⟨lnR_6_0, lnOk_6_0⟩
  | 6, _, 1, _ => ⟨lnR_6_1, lnOk_6_1⟩
  | 6, _, 2, _ => ⟨lnR_6_2, lnOk_6_2⟩
  | 6, _, 3, _ => ⟨lnR_6_3, lnOk_6_3⟩
  | 6, _, 4, _ => ⟨lnR_6_4, lnOk_6_4⟩
  | 6, _, 5, _ => ⟨lnR_6_5, lnOk_6_5⟩
  | 6, _, 6, _ => ⟨lnR_6_6, lnOk_6_6⟩
  | 6, _, 7, _ => ⟨lnR_6_7, lnOk_6_7⟩
  | 6, _, 8, _ => ⟨lnR_6_8, lnOk_6_8⟩
  | 7, _, 0, _ => ⟨lnR_7_0, lnOk_7_0⟩
  | 7, _, 1, _ => ⟨lnR_7_1, lnOk_7_1⟩
  | 7, _, 2, _ => ⟨lnR_7_2, lnOk_7_2⟩
  | 7, _, 3, _ => ⟨lnR_7_3, lnOk_7_3⟩
  | 7, _, 4, _ => ⟨lnR_7_4, lnOk_7_4⟩
  | 7, _, 5, _ => ⟨lnR_7_5, lnOk_7_5⟩
  | 7, _, 6, _ => ⟨lnR_7_6, lnOk_7_6⟩
  | 7, _, 7, _ => ⟨lnR_7_7, lnOk_7_7⟩
  | 7, _, 8, _ => ⟨lnR_7_8, lnOk_7_8⟩
  | 8, _, 0, _ => ⟨lnR_8_0, lnOk_8_0⟩
  | 8, _, 1, _ => ⟨lnR_8_1, lnOk_8_1⟩
  | 8, _, 2, _ => ⟨lnR_8_2, lnOk_8_2⟩
  | 8, _, 3, _ => ⟨lnR_8_3, lnOk_8_3⟩
  | 8, _, 4, _ => ⟨lnR_8_4, lnOk_8_4⟩
  | 8, _, 5, _ => ⟨lnR_8_5, lnOk_8_5⟩
  | 8, _, 6, _ => ⟨lnR_8_6, lnOk_8_6⟩
  | 8, _, 7, _ => ⟨lnR_8_7, lnOk_8_7⟩
  | 8, _, 8, _ => ⟨lnR_8_8, lnOk_8_8⟩
  | a + 9, h, _, _ => absurd h (by omega)
  | 0, _, b + 9, h => absurd h (by omega)
  | 1, _, b + 9, h => absurd h (by omega)
  | 2, _, b + 9, h => absurd h (by omega)
  | 3, _, b + 9, h => absurd h (by omega)
  | 4, _, b + 9, h => absurd h (by omega)
  | 5, _, b + 9, h => absurd h (by omega)
  | 6, _, b + 9, h => absurd h (by omega)
  | 7, _, b + 9, h => absurd h (by omega)
  | 8, _, b + 9, h => absurd h (by omega)
theorem each_ln {P : Program} (f : Nat → List Obl) : ∀ (l : List Nat), (∀ i ∈ l, okAll P (f i)) → okAll P (l.flatMap f)
  | [], _ => trivial
  | a :: l, h => okAll_append (h a (List.mem_cons_self ..)) (each_ln f l fun i hi => h i (List.mem_cons_of_mem _ hi))
theorem nnB_ok {x : Nat} (h : nnB x = true) : NN x := by
  unfold nnB at h
  simp only [Bool.and_eq_true, decide_eq_true_eq] at h
  exact ⟨h.1.1, h.1.2, h.2⟩
theorem in_ok {x : Nat} {X : P2} {t : Bool} (hx : NN x) (hX : ivB2 X = true) (h : inB x X = t) : (inLn x X t).ok Try.prog := by
  unfold ivB2 at hX
  simp only [Bool.and_eq_true] at hX
  have h1 := nnB_ok hX.1
  have h2 := nnB_ok hX.2
  unfold inB at h
  cases t with
  | true =>
    simp only [Bool.and_eq_true, decide_eq_true_eq] at h
    exact in_yesR hx h1 h2 h.1 h.2
  | false =>
    refine in_noR hx h1 h2 ?_
    simp only [Bool.and_eq_false_iff, decide_eq_false_iff_not] at h
    omega
noncomputable def absLn (x y : Nat) : Obl := .run 49 #[.float .f64 x] #[] (.float .f64 y) #[]
noncomputable def askAb5 (f : FuncId) : Nat := if f == 49 then 1 else if f == 56 then 2 else 0
theorem mag_came5 (a b x y : Nat) (c : Bool) : (askN askAb5 fltC 12 28 #[fl2 a b] #[] [isG x, isG y, yes c]).map (fun r => (r.1, r.2.2)) = some (.float .f64 (sel c y x), [absLn a x, absLn b y, cmpF .gtr y x c]) := by
  cases c <;> kernel_rfl
theorem mag_5 {X : P2} (hX : ivB2 X = true) : (mgLn X (magW X)).ok Try.prog ∧ NN (magW X) ∧ (ix (magW X) = (ix X.1).natAbs ∨ ix (magW X) = (ix X.2).natAbs) := by
  unfold ivB2 at hX
  simp only [Bool.and_eq_true] at hX
  have h1 := nnB_ok hX.1
  have h2 := nnB_ok hX.2
  obtain ⟨a1, a2⟩ := abs_ix h1
  obtain ⟨b1, b2⟩ := abs_ix h2
  obtain ⟨s1, s2, s3, s4⟩ := sel_hi b1 a1 rfl
  have ob : okAll Try.prog [absLn X.1 (fabs X.1), absLn X.2 (fabs X.2), cmpF .gtr (fabs X.2) (fabs X.1) (decide (ix (fabs X.1) < ix (fabs X.2)))] := ⟨abs_runs h1, abs_runs h2, (fc _ rfl _ _).trans (gtr_ix b1 a1), trivial⟩
  refine ⟨quiet_of' (mag_came5 X.1 X.2 _ _ _) ob rfl rfl, s1, ?_⟩
  rcases s4 with h | h
  · right; show ix (sel _ _ _) = _; rw [h]; omega
  · left; show ix (sel _ _ _) = _; rw [h]; omega
theorem known5Ln : Runs Try.prog 15 #[] #[] (.bool true) #[] := by
  have h : (askN noF noC 12 15 #[] #[] []).map (fun r => (r.1, r.2.2)) = some (.bool true, []) := by kernel_rfl
  obtain ⟨H', h⟩ := tells_of h trivial
  exact h.quiet rfl rfl #[]
theorem oneAt_len (a v : Nat) : (oneAt a v).length = 9 := by simp [oneAt]
theorem rowHand (a v b : Nat) {H : AHeap} (h : H[b]? = some (rowLn a v)) : HandV H ((oneAt a v).map fV) (.slice (some ⟨b, 0, none⟩) 9 9) := by
  refine .inr ⟨b, ⟨((oneAt a v).map fV).toArray, 24, 1, true⟩, ?_, ?_, h, rfl⟩
  · intro e
    have := congrArg List.length e
    rw [List.length_map, oneAt_len] at this
    cases this
  · rw [List.length_map, oneAt_len]
theorem nn_lit : NN wL6 ∧ NN wLm6 ∧ NN 0 ∧ NN wLe := ⟨⟨by decide +kernel, by decide +kernel, by decide +kernel⟩, ⟨by decide +kernel, by decide +kernel, by decide +kernel⟩, nn_zero.1, ⟨by decide +kernel, by decide +kernel, by decide +kernel⟩⟩
theorem modelLine_tells (i j : Int) : Tells 5 #[.int .i64 i, .int .i64 j] #[] (.bool true) := by
  have i1 := Int.emod_nonneg i (b := 9) (by decide)
  have i2 := Int.emod_lt_of_pos i (b := 9) (by decide)
  have j1 := Int.emod_nonneg j (b := 9) (by decide)
  have j2 := Int.emod_lt_of_pos j (b := 9) (by decide)
  obtain ⟨a, ha⟩ : ∃ a : Nat, i % 9 = Int.ofNat a := ⟨(i % 9).toNat, by simp; omega⟩
  obtain ⟨b, hb⟩ : ∃ b : Nat, j % 9 = Int.ofNat b := ⟨(j % 9).toNat, by simp; omega⟩
  have a9 : a < 9 := by rw [ha] at i2; simp at i2; omega
  have b9 : b < 9 := by rw [hb] at j2; simp at j2; omega
  obtain ⟨hr, hok⟩ := ln_all a a9 b b9
  unfold lnOk at hok
  simp only [Bool.and_eq_true, List.all_eq_true] at hok
  obtain ⟨⟨⟨h9, r9⟩, z9⟩, c9⟩ := hok
  have r := hr i j (ofM (oneAt a wL2)) (ofM (oneAt b wL3)) (mLn a b) (fun k => magW (mLn a b k))
  have nw : ∀ k, NN (wantLn a b k) := fun k => by unfold wantLn; split; exact nn_lit.1; exact nn_lit.2.2.1
  refine tells_of r (okAll_append ⟨known5Ln, by rw [show wiLn i a = .run 17 #[.int .i64 i, .int .i64 (Int.ofNat (8 + 1))] #[] (.int .i64 (i % Int.ofNat (8 + 1))) #[] by rw [show i % Int.ofNat (8 + 1) = Int.ofNat a from ha]; rfl]; exact within5 i 8 (by decide), by rw [show wiLn j b = .run 17 #[.int .i64 j, .int .i64 (Int.ofNat (8 + 1))] #[] (.int .i64 (j % Int.ofNat (8 + 1))) #[] by rw [show j % Int.ofNat (8 + 1) = Int.ofNat b from hb]; rfl]; exact within5 j 8 (by decide), ?_, ?_, mulM_runs _ _, trivial⟩ (okAll_append (each_ln (fun k => [inLn (wantLn a b k) (mLn a b k) true, mgLn (mLn a b k) (magW (mLn a b k)), cmLnO .gtr (magW (mLn a b k)) (fop .add .f64 (wantLn a b k) wLe) false]) _ fun k hk => ?_) ?_))
  · exact of_2 (H := [rowLn a wL2, rowLn b wL3].toArray) (by rw [oneAt_len]; decide) (rowHand a wL2 0 rfl)
  · exact of_2 (H := [rowLn a wL2, rowLn b wL3].toArray) (by rw [oneAt_len]; decide) (rowHand b wL3 1 rfl)
  · obtain ⟨⟨⟨⟨k1, k2⟩, k3⟩, k4⟩, k5⟩ := h9 k hk
    simp only [decide_eq_true_eq] at k3 k4
    obtain ⟨m1, m2, m3⟩ := mag_5 k1
    refine ⟨in_ok (nw k) k1 k2, m1, (fc _ rfl _ _).trans ((gtr_ix m2 (nnB_ok k5)).trans (congrArg some (decide_eq_false ?_))), trivial⟩
    rcases m3 with e | e <;> rw [e] <;> omega
  · by_cases h8 : a + b ≤ 8
    · rw [if_pos h8] at c9 ⊢
      simp only [Bool.and_eq_true, decide_eq_true_eq] at c9
      obtain ⟨m1, m2, m3⟩ := mag_5 r9
      refine ⟨in_ok nn_lit.2.2.1 r9 z9, m1, (fc _ rfl _ _).trans ((lss_ix m2 nn_lit.2.2.2).trans (congrArg some (decide_eq_true ?_))), trivial⟩
      rcases m3 with e | e <;> rw [e] <;> omega
    · rw [if_neg h8] at c9 ⊢
      simp only [Bool.and_eq_true, beq_iff_eq] at c9
      exact ⟨in_ok nn_lit.2.2.1 r9 z9, in_ok nn_lit.1 r9 c9.1, in_ok nn_lit.2.1 r9 c9.2, trivial⟩

end Go.Proofs.Ytnbbmihlokajaaa
