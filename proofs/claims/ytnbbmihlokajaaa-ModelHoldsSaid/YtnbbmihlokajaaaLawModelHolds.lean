/- The law ModelHolds returns true, whatever it is handed. -/
import Derived.Test.YtnbbmihlokajaaaHolds0
import Derived.Test.YtnbbmihlokajaaaHolds1
import Derived.Test.YtnbbmihlokajaaaHolds2
import Derived.Test.YtnbbmihlokajaaaSliceTwo
namespace Go.Proofs.Ytnbbmihlokajaaa
open Go
set_option linter.unusedVariables false
set_option linter.unusedSimpArgs false
set_option maxRecDepth 100000

theorem cs_nil {m : Nat} {zs : List Int} (f : List Int → List Value) (hf : ∀ l, f l = [] ↔ l = []) : True := trivial
theorem run_of {H : AHeap} (h : HoRuns H) {k : Nat} (hk : k < 5) : ∀ cs ds : List Int, HoRun H k (cs.map iV) (ds.map iV) ((cs.map F).map fV) ((ds.map F).map fV)
  | [], [] => (h k hk).2.2.2
  | c :: cs, [] => (h k hk).2.1 _ _ _ _
  | [], d :: ds => (h k hk).2.2.1 _ _ _ _
  | c :: cs, d :: ds => (h k hk).1 _ _ _ _ _ _ _ _
theorem sR_eq (k : Nat) : ((sN k : Int) : Rat) / 4 = sR k := rfl
theorem sN_le (k : Nat) : (sN k).natAbs ≤ 4 := by
  unfold sN; split <;> decide
theorem wi5_5 (z : Int) : Runs Try.prog 17 #[.int .i64 z, .int .i64 5] #[] (.int .i64 (z % 5)) #[] := within5 z 4 (by decide)
theorem wZs_sm (m : Nat) (zs : List Int) : (∀ c ∈ (zs.take m).map wZ, c.natAbs ≤ 4) ∧ ((zs.take m).map wZ).length ≤ m := by
  refine ⟨fun c hc => ?_, by rw [List.length_map]; exact List.length_take_le _ _⟩
  obtain ⟨z, _, rfl⟩ := List.mem_map.1 hc
  exact wZ_sm z

theorem modelHolds_run {Hp : AHeap} (hrun : HoRuns Hp) {zs us : List Int} {va vb : Value} (ha : Handed Hp zs va) (hb : Handed Hp us vb) (n rest : Int) : Tells 6 #[va, vb, .int .i64 n, .int .i64 rest] Hp (.bool true) := by
  obtain ⟨cs4, cl⟩ := wZs_sm 9 zs
  obtain ⟨ds4, dl⟩ := wZs_sm 9 us
  have hva := ha.toV
  have hvb := hb.toV
  have t0 := Int.emod_nonneg rest (b := 5) (by decide)
  have t5 := Int.emod_lt_of_pos rest (b := 5) (by decide)
  have n0 := Int.emod_nonneg n (b := 5) (by decide)
  have n5 := Int.emod_lt_of_pos n (b := 5) (by decide)
  have w1 := whole9_2 (H := Hp) hva
  have w2 := whole9_2 (H := nx Hp (slA 3 (((zs.take 9).map wZ).map iV))) (hvb.next _)
  generalize (zs.take 9).map wZ = cs at cs4 cl w1 w2
  generalize (us.take 9).map wZ = ds at ds4 dl w2
  obtain ⟨k, hk⟩ := Int.eq_ofNat_of_zero_le n0
  have hk5 : k < 5 := by omega
  obtain ⟨ew, mw⟩ := w_ex t0 t5
  have wr := wi5_5 rest
  have wn := wi5_5 n
  rw [hk] at wn
  generalize rest % 5 = t at *
  have hc24 : ∀ c ∈ cs, c.natAbs ≤ 24 := fun c h => Nat.le_trans (cs4 c h) (by decide)
  have hd24 : ∀ c ∈ ds, c.natAbs ≤ 24 := fun c h => Nat.le_trans (ds4 c h) (by decide)
  have hc64 : ∀ c ∈ cs, c.natAbs ≤ 64 := fun c h => Nat.le_trans (cs4 c h) (by decide)
  have hd64 : ∀ c ∈ ds, c.natAbs ≤ 64 := fun c h => Nat.le_trans (ds4 c h) (by decide)
  obtain ⟨s0, s1⟩ := sR_in hk5
  have hs := s_mr hk5
  have ex := at_ex (sN_le k) (s_dy hk5) cs (E := 18) (by omega) cl hc24
  have ey := at_ex (sN_le k) (s_dy hk5) ds (E := 18) (by omega) dl hd24
  rw [sR_eq] at ex ey
  have p18 : pw 18 = 262144 := rfl
  have p16 : pw 16 = 65536 := rfl
  have ex' := ex.cast rfl (show 24 * cs.length * pw 18 ≤ 56623104 by rw [p18]; omega)
  have ey' := ey.cast rfl (show 24 * ds.length * pw 18 ≤ 56623104 by rw [p18]; omega)
  have ew' := (ew.up 16).cast (e' := 18) rfl (show 4 * pw 16 ≤ 262144 by rw [p16]; decide)
  have eu := ex'.add ew' (by decide) (by decide)
  have a1 := eu.add ey' (by decide) (by decide)
  have a2 := eu.sub ey' (by decide) (by decide)
  have a3 := eu.mul ey' (by decide) (by decide)
  have evA := ev_of cl hc64 mw (sR k)
  have evD := ev_of0 dl hd64 (sR k)
  have e1 := evA.add evD (by decide) (by decide)
  have e2 := evA.sub evD (by decide) (by decide)
  have e3 := evA.mul evD (p := 1038) (by decide) (by decide) (by decide) (by decide) rfl (by decide) s0 s1
  have q1 := holds_runs e1 (by decide) (by decide) hs a1.kR.1 a1.kR.2
  have q2 := holds_runs e2 (by decide) (by decide) hs a2.kR.1 a2.kR.2
  have q3 := holds_runs e3 (by decide) (by decide) hs a3.kR.1 a3.kR.2
  have r1 := in_of_mr (evA.range (by decide) (by decide) s0 s1) (by decide) eu.kR.1 eu.kR.2
  have r2 := in_of_mr (evD.range (by decide) (by decide) s0 s1) (by decide) ey'.kR.1 ey'.kR.2
  have mkh : ∀ {H : AHeap} {c : Nat → P2} {x : Nat}, Runs Try.prog 30 #[mW c, .float .f64 (sW k), .float .f64 x] #[] (.bool true) #[] → (hoM H c (sW k) x).ok Try.prog := by
    intro H c x h
    exact mk2_v (h.quiet rfl rfl _)
  have hv1 := (HandV.new Hp 3 (cs.map iV))
  have hv2 := (HandV.new (nx Hp (slA 3 (cs.map iV))) 3 (ds.map iV))
  refine tells_of (run_of hrun hk5 cs ds va vb n rest (ofM (cs.map F)) (ofM (ds.map F)) _ _ _ _ _ (atW (sW k) cs) (atW (sW k) ds) t) ⟨known5, w1, w2, floats_2 cl (hv1.next _), ?_, floats_2 dl ((hv2.next _).next _), ?_, wr, wn, ?_, ?_, addM_runs _ _, mkh q1, subM_runs _ _, mkh q2, mulM_runs _ _, mkh q3, rangeM_runs _, r1, rangeM_runs _, r2, trivial⟩
  · exact of_2 (by rw [List.length_map]; exact cl) (HandV.new _ _ _)
  · exact of_2 (by rw [List.length_map]; exact dl) (HandV.new _ _ _)
  · exact at_2 cl ((((((hv1.next _).next _).next _).next _).next _).push _)
  · exact at_2 dl (((((((hv2.next _).next _).next _).next _).push _)).next _)

theorem modelHolds_two {Hp : AHeap} (hs : Hp.size ≤ 2) {zs us : List Int} {va vb : Value} (ha : Handed Hp zs va) (hb : Handed Hp us vb) (a b : Int) : Tells 6 #[va, vb, .int .i64 a, .int .i64 b] Hp (.bool true) := by
  have h : HoRuns Hp := by
    obtain ⟨l⟩ := Hp
    match l, hs with
    | [], _ => exact ho0
    | [o], _ => exact ho1 o
    | [o1, o2], _ => exact ho2 o1 o2
  exact modelHolds_run h ha hb a b

end Go.Proofs.Ytnbbmihlokajaaa
