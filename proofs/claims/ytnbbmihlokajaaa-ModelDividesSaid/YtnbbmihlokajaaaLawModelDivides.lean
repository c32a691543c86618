/- The law ModelDivides returns true, whatever it is handed. -/
import Derived.Test.YtnbbmihlokajaaaDivides0
import Derived.Test.YtnbbmihlokajaaaSliceTwo
namespace Go.Proofs.Ytnbbmihlokajaaa
open Go
set_option linter.unusedVariables false
set_option linter.unusedSimpArgs false
set_option maxRecDepth 100000

theorem div_run_of {H : AHeap} (h : DiRuns H) {k : Nat} (hk : k < 5) : ∀ cs : List Int, DiRun H k (cs.map iV) ((cs.map F).map fV)
  | [] => h.b k hk
  | c :: cs => h.a k hk _ _ _ _
theorem div_nil_of {H : AHeap} (h : DiRuns H) : ∀ cs : List Int, DiNil H (cs.map iV)
  | [] => h.m
  | c :: cs => h.n _ _
theorem rat_le {a : Int} {b : Int} (h : a ≤ b) : (a : Rat) ≤ (b : Rat) := by exact_mod_cast h
theorem y_pos {k : Nat} (hk : k < 5) {d0 : Int} (h0 : 16 ≤ d0) : ∀ l : List Int, l.length ≤ 3 → (∀ c ∈ l, c.natAbs ≤ 4) → 0 < atR (sR k) (d0 :: l) := by
  have r0 := rat_le h0
  have hb : ∀ {c : Int}, c.natAbs ≤ 4 → (-4 : Rat) ≤ (c : Rat) ∧ (c : Rat) ≤ 4 := fun {c} h => ⟨rat_le (show -4 ≤ c by omega), rat_le (show c ≤ 4 by omega)⟩
  have hk5 : k = 0 ∨ k = 1 ∨ k = 2 ∨ k = 3 ∨ k = 4 := by omega
  intro l hl h
  have r0' : (16 : Rat) ≤ (d0 : Rat) := r0
  match l, hl with
  | [], _ => rcases hk5 with rfl | rfl | rfl | rfl | rfl <;> simp only [atR, sR, sN] <;> grind
  | [a], _ =>
    have ha := hb (h a (by simp))
    rcases hk5 with rfl | rfl | rfl | rfl | rfl <;> simp only [atR, sR, sN] <;> grind
  | [a, b], _ =>
    have ha := hb (h a (by simp))
    have hb' := hb (h b (by simp))
    rcases hk5 with rfl | rfl | rfl | rfl | rfl <;> simp only [atR, sR, sN] <;> grind
  | [a, b, c], _ =>
    have ha := hb (h a (by simp))
    have hb' := hb (h b (by simp))
    have hc := hb (h c (by simp))
    rcases hk5 with rfl | rfl | rfl | rfl | rfl <;> simp only [atR, sR, sN] <;> grind
  | _ :: _ :: _ :: _ :: _, hl => simp only [List.length_cons] at hl; omega
/-- The rows of a Model of whole numbers. -/
theorem em_of0 {l : List Int} (hl : l.length ≤ 9) (h : ∀ c ∈ l, c.natAbs ≤ 64) : EM 1030 (ofM (l.map F)) (fun k => ((getZ l k : Int) : Rat)) 0 := by
  refine ⟨fun k hk => ?_, ?_⟩
  · have e : ofM (l.map F) k = (getF (l.map F) k, getF (l.map F) k) := by unfold ofM; rw [Nat.ble_eq_true_of_le hk]; rfl
    rw [e]
    rcases getF_F l k with g | ⟨g, g2⟩
    · rw [g]
      obtain ⟨b1, b2⟩ := F_bd (getZ_sm l h k)
      exact MR.point b1 b2
    · rw [g, g2]
      exact mr_zero (by decide)
  · have e : ofM (l.map F) 9 = (0, 0) := by unfold ofM; rw [show Nat.ble 9 8 = false from rfl]; exact cond_false _ _
    rw [e]; exact mr_zero (by decide)

theorem modelDivides_run {Hp : AHeap} (hrun : DiRuns Hp) {zs us : List Int} {va vb : Value} (ha : Handed Hp zs va) (hb : Handed Hp us vb) (n : Int) : Tells 10 #[va, vb, .int .i64 n] Hp (.bool true) := by
  obtain ⟨cs4, cl⟩ := wZs_sm 5 zs
  obtain ⟨ds4, dl⟩ := wZs_sm 4 us
  have hva := ha.toV
  have hvb := hb.toV
  have n0 := Int.emod_nonneg n (b := 5) (by decide)
  have n5 := Int.emod_lt_of_pos n (b := 5) (by decide)
  have w1 := whole5_2 (H := Hp) hva
  have w2 := whole4_2 (H := nx Hp (slA 3 (((zs.take 5).map wZ).map iV))) (hvb.next _)
  generalize (zs.take 5).map wZ = cs at cs4 cl w1 w2
  generalize (us.take 4).map wZ = ds at ds4 dl w2
  obtain ⟨k, hk⟩ := Int.eq_ofNat_of_zero_le n0
  have hk5 : k < 5 := by omega
  have wn := wi5_5 n
  rw [hk] at wn
  cases ds with
  | nil => exact tells_of (div_nil_of hrun cs va vb n) ⟨known5, w1, w2, trivial⟩
  | cons d0 ds =>
    have hd0 := ds4 d0 (List.mem_cons_self ..)
    have e20 : iw5 (20 + d0) = 20 + d0 := wrap_id (by omega) (by omega)
    simp only [List.length_cons] at dl
    have hc24 : ∀ c ∈ cs, c.natAbs ≤ 24 := fun c h => Nat.le_trans (cs4 c h) (by decide)
    have hc64 : ∀ c ∈ cs, c.natAbs ≤ 64 := fun c h => Nat.le_trans (cs4 c h) (by decide)
    have hd64 : ∀ c ∈ (20 + d0) :: ds, c.natAbs ≤ 64 := fun c h => by
      rcases List.mem_cons.1 h with rfl | h
      · omega
      · exact Nat.le_trans (ds4 c (List.mem_cons_of_mem _ h)) (by decide)
    obtain ⟨s0, s1⟩ := sR_in hk5
    have hs := s_mr hk5
    have cl9 : cs.length ≤ 9 := by omega
    have dl9 : ((20 + d0) :: ds).length ≤ 9 := by simp only [List.length_cons]; omega
    have ex := at_ex (sN_le k) (s_dy hk5) cs (E := 10) (by omega) cl9 hc24
    rw [sR_eq] at ex
    have evA := ev_of0 cl9 hc64 (sR k)
    have emB := em_of0 dl9 hd64
    have hyB := pS_at (sR k) ((20 + d0) :: ds) dl9
    have evB : Ev 1030 (sR k) (ofM (((20 + d0) :: ds).map F)) (atR (sR k) ((20 + d0) :: ds)) := ⟨_, _, emB, by rw [hyB, Rat.add_zero]⟩
    have evC := evA.mul evB (p := 1038) (by decide) (by decide) (by decide) (by decide) rfl (by decide) s0 s1
    have hpos := y_pos hk5 (show 16 ≤ 20 + d0 by omega) ds (by omega) (fun c h => ds4 c (List.mem_cons_of_mem _ h))
    have b0 : ofM (((20 + d0) :: ds).map F) 0 = (F (20 + d0), F (20 + d0)) := rfl
    have hF := F_fi (n := 20 + d0) (by omega)
    have h0 : (un : Int) ≤ kv (ofM (((20 + d0) :: ds).map F) 0).1 := by
      rw [b0]
      show (un : Int) ≤ kv (F (20 + d0))
      rw [hF.2]
      have hu : (0 : Int) < un := by have := un_pos; omega
      have := Int.mul_le_mul_of_nonneg_right (show 1 ≤ 20 + d0 by omega) (Int.le_of_lt hu)
      omega
    have hδ : (((getZ ((20 + d0) :: ds) 0 : Int)) : Rat) ≠ 0 := by
      have h1 : 20 + d0 ≠ 0 := by omega
      show ((20 + d0 : Int) : Rat) ≠ 0
      exact_mod_cast h1
    have evQ := evC.quo emB (by rw [hyB, Rat.add_zero]) (by decide) (by decide) h0 hδ hpos rfl s0 s1
    have q1 := holdsT_runs evQ (by decide) (by decide) hs ex.kR.1 ex.kR.2
    have r1 := in_of_tr (evQ.range (by decide) (by decide) s0 s1) ex.kR.1 ex.kR.2
    have mkh : ∀ {H : AHeap} {c : Nat → P2} {x : Nat}, Runs Try.prog 30 #[mW c, .float .f64 (sW k), .float .f64 x] #[] (.bool true) #[] → (hoM H c (sW k) x).ok Try.prog := by
      intro H c x h
      exact mk2_v (h.quiet rfl rfl _)
    have hv1 := (HandV.new Hp 3 (cs.map iV))
    have hv2 : ∀ H : AHeap, HandV (pushL H [some ⟨(iV (iw5 (20 + d0)) :: ds.map iV).toArray, 3, 1, true⟩]) (((20 + d0) :: ds).map iV) (outV H.size (iV (iw5 (20 + d0)) :: ds.map iV)) := by
      intro H
      rw [e20]
      refine .inr ⟨H.size, ⟨(iV (20 + d0) :: ds.map iV).toArray, 3, 1, true⟩, by simp, rfl, ?_, rfl⟩
      unfold pushL
      rw [List.getElem?_toArray, List.getElem?_append_right (by simp)]
      simp
    have fcl := floats_2 (H := pushL (nx Hp (slA 3 (cs.map iV))) [some ⟨(iV (iw5 (20 + d0)) :: ds.map iV).toArray, 3, 1, true⟩]) cl9 (hv1.push _)
    have q2 := quoM_runs (mulM (ofM (cs.map F)) (ofM (((20 + d0) :: ds).map F))) (d := ofM (((20 + d0) :: ds).map F)) hF.1.nn hF.1.nn
    refine tells_of (div_run_of hrun hk5 cs va vb n d0 (ds.map iV) (fV (F (20 + d0))) ((ds.map F).map fV) (ofM (cs.map F)) (ofM (((20 + d0) :: ds).map F)) _ _ _ (atW (sW k) cs)) ⟨known5, w1, w2, fcl, ?_, ?_, ?_, wn, mulM_runs _ _, q2, ?_, mkh q1, ?_, mulM_runs _ _, q2, rangeM_runs _, r1, trivial⟩
    · exact of_2 (by rw [List.length_map]; exact cl9) (HandV.new _ _ _)
    · exact floats_2 dl9 (((hv2 _).next _).next _)
    · exact of_2 (by rw [List.length_map]; exact dl9) (HandV.new _ _ _)
    · exact at_2 cl9 ((((((hv1.push _).next _).next _).next _).next _).push _)
    · exact at_2 cl9 ((((((((hv1.push _).next _).next _).next _).next _).push _).next _).next _)

theorem modelDivides_two {Hp : AHeap} (hs : Hp.size ≤ 2) {zs us : List Int} {va vb : Value} (ha : Handed Hp zs va) (hb : Handed Hp us vb) (a : Int) : Tells 10 #[va, vb, .int .i64 a] Hp (.bool true) := by
  have h : DiRuns Hp := by
    obtain ⟨l⟩ := Hp
    match l, hs with
    | [], _ => exact di0
    | [o], _ => exact di1 o
    | [o1, o2], _ => exact di2 o1 o2
  exact modelDivides_run h ha hb a

end Go.Proofs.Ytnbbmihlokajaaa
