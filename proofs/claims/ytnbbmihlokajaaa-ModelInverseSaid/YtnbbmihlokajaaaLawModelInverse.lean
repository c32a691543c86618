/- The law ModelInverse returns true, whatever it is handed. -/
import Derived.Test.YtnbbmihlokajaaaModelDiv
namespace Go.Proofs.Ytnbbmihlokajaaa
open Go
set_option linter.unusedVariables false
set_option linter.unusedSimpArgs false
set_option maxRecDepth 100000

/-- A quotient by what is nowhere less than one: it is finite. -/
theorem Ev.quo1 {n : Nat} {s x y z : Rat} {c d : Nat → P2} {δ : Nat → Rat} {σ : Rat} (h : Ev n s c x) (hd : EM 1030 d δ σ) (hy : pS δ s + σ = y) (hn : 1023 ≤ n) (hn2 : n < 1300) (h0 : (un : Int) ≤ kv (d 0).1) (hδ : δ 0 ≠ 0) (h1 : (un : Int) ≤ kv (rangeM d).1) (hz0 : zIn (d 0) = false) (hz1 : zIn (rangeM d) = false) (hz : x = z * y) (s0 : -1 ≤ s) (s1 : s ≤ 0) : Ev (n + 400) s (quoM c d) z := by
  obtain ⟨γ, ρ, hc, rfl⟩ := h
  have evd : Ev 1030 s d y := ⟨δ, σ, hd, hy⟩
  have rd := evd.range (by decide) (by decide) s0 s1
  have eq : quoM c d = divM c d := by unfold quoM; rw [hz0, hz1]; rfl
  rw [eq]
  have q9 := qL_mr hc hd hn (by omega) h0 hδ 9 (by decide)
  have hq : EM (n + 270) (qC c d) (fun k => atS (qS γ δ 9) (8 - k)) 0 := by
    refine ⟨fun k hk => ?_, ?_⟩
    · have e : qC c d k = at0 (qL c d 9) (8 - k) := by unfold qC; rw [Nat.ble_eq_true_of_le hk]; rfl
      rw [e]; exact q9.at (by omega) _
    · have e : qC c d 9 = (0, 0) := by unfold qC; rw [show Nat.ble 9 8 = false from rfl]; exact cond_false _ _
      rw [e]; exact mr_zero (by omega)
  have evq : Ev (n + 270) s (qC c d) (pS (fun k => atS (qS γ δ 9) (8 - k)) s) := ⟨_, _, hq, by rw [Rat.add_zero]⟩
  have evc : Ev n s c (pS γ s + ρ) := ⟨γ, ρ, hc, rfl⟩
  have evm := evd.mul evq (p := n + 278) (by decide) (by omega) (by decide) (by omega) (by omega) (by omega) s0 s1
  have evs := (evc.mono (show n ≤ n + 278 + 77 by omega)).sub evm (by omega) (by omega)
  have rs := evs.range (by omega) (by omega) s0 s1
  refine ⟨fun k => atS (qS γ δ 9) (8 - k), z - pS (fun k => atS (qS γ δ 9) (8 - k)) s, ⟨fun k hk => ?_, ?_⟩, by grind⟩
  · have e : divM c d k = qC c d k := by unfold divM; rw [Nat.ble_eq_true_of_le hk]; rfl
    rw [e]
    exact (hq.co k hk).mono (by omega)
  · have e9 : divM c d 9 = finP c d := by unfold divM finP; rw [show Nat.ble 9 8 = false from rfl]; exact cond_false _ _
    rw [e9]
    exact (rs.div1 (z := z - pS (fun k => atS (qS γ δ 9) (8 - k)) s) rd (by omega) (by decide) h1 (by rw [hz]; grind)).mono (by omega)

theorem F_bd2 {n : Int} (h : n.natAbs ≤ 8192) : Bd 1037 (F n) ∧ kR (F n) = (n : Rat) * uR := by
  refine ⟨⟨(F_fi (by omega)).1.1, ?_⟩, (Dy.F (n := n) (by omega)).rat (by
    have : ((pw 0 : Nat) : Rat) = 1 := rfl
    rw [this, Rat.mul_one])⟩
  have hr := F_rd n
  refine hr.2.abs (by decide) (by omega) ?_
  have e0 : ((un : Nat) : Int).natAbs = un := Int.natAbs_natCast _
  have e : pw (51 + 1037) = pw 14 * un := by unfold un; rw [pw_add]
  rw [rg_bd (by decide), Int.natAbs_mul, Nat.mul_one, e0, e]
  exact Nat.mul_le_mul_right _ (Nat.le_trans h (by decide))
theorem em_one {P : Int} (h : P.natAbs ≤ 8192) : EM 1037 (ofM [F P]) (fun k => match k with | 0 => (P : Rat) | _ => 0) 0 := by
  obtain ⟨b1, b2⟩ := F_bd2 h
  refine ⟨fun k hk => ?_, ?_⟩
  · match k, hk with
    | 0, _ => exact MR.point b1 b2
    | k + 1, hk =>
      have e : ofM [F P] (k + 1) = (0, 0) := by unfold ofM; rw [Nat.ble_eq_true_of_le hk]; rfl
      rw [e]; exact mr_zero (by decide)
  · have e : ofM [F P] 9 = (0, 0) := by unfold ofM; rw [show Nat.ble 9 8 = false from rfl]; exact cond_false _ _
    rw [e]; exact mr_zero (by decide)
theorem em_two {p q : Int} (hp : p.natAbs ≤ 64) (hq : q.natAbs ≤ 64) : EM 1030 (ofM [F p, F q]) (fun k => match k with | 0 => (p : Rat) | 1 => (q : Rat) | _ => 0) 0 := by
  obtain ⟨b1, b2⟩ := F_bd hp
  obtain ⟨c1, c2⟩ := F_bd hq
  refine ⟨fun k hk => ?_, ?_⟩
  · match k, hk with
    | 0, _ => exact MR.point b1 b2
    | 1, _ => exact MR.point c1 c2
    | k + 2, hk =>
      have e : ofM [F p, F q] (k + 2) = (0, 0) := by unfold ofM; rw [Nat.ble_eq_true_of_le hk]; rfl
      rw [e]; exact mr_zero (by decide)
  · have e : ofM [F p, F q] 9 = (0, 0) := by unfold ofM; rw [show Nat.ble 9 8 = false from rfl]; exact cond_false _ _
    rw [e]; exact mr_zero (by decide)

/-- What the denominator may be: nowhere less than one. Its lower ends, in sixteenths. -/
structure LB (n : Nat) (N : Int) (X : P2) : Prop where
  bl : Bd n X.1
  bh : Bd n X.2
  le : ix X.1 ≤ ix X.2
  lo : N * un ≤ kv X.1 * pw 4
theorem LB.mono {n m : Nat} {N M : Int} {X : P2} (h : LB n N X) (hn : n ≤ m) (hN : M ≤ N) : LB m M X := ⟨h.bl.mono hn, h.bh.mono hn, h.le, Int.le_trans (Int.mul_le_mul_of_nonneg_right hN (Int.natCast_nonneg _)) h.lo⟩
theorem LB.add {n : Nat} {N M : Int} {X Y : P2} (h : LB n N X) (h' : LB n M Y) (hn : 0 < n) (hn2 : n < 2040) (hN : N.natAbs ≤ 100000) (hM : M.natAbs ≤ 100000) : LB (n + 2) (N + M - 1) (addP X Y) := by
  have f1 := h.bl.fi (by omega)
  have f2 := h.bh.fi (by omega)
  have g1 := h'.bl.fi (by omega)
  have g2 := h'.bh.fi (by omega)
  have bs := h.bl.add h'.bl hn (by omega)
  have bt := h.bh.add h'.bh hn (by omega)
  have m1 := add_mono f1 g1 f2 g2 h.le h'.le
  have hle := out_le (bs.fi (by omega)).nn (bt.fi (by omega)).nn m1
  have e : addP X Y = (dn (fop .add .f64 X.1 Y.1), up (fop .add .f64 X.2 Y.2)) := outP_eq (bs.fi (by omega)).nn (bt.fi (by omega)).nn hle
  rw [e]
  refine ⟨(bs.dn (by omega)).1, (bt.up (by omega)).1, hle, ?_⟩
  have hp := pwi_pos 4
  have hu : (0 : Int) < un := by have := un_pos; omega
  obtain ⟨j, a1, a2, a3⟩ := rep_int (N := N + M - 1) (e := 4) (by omega) (by decide)
  obtain ⟨i, b1, b2, b3⟩ := rep_int (N := N + M) (e := 4) (by omega) (by decide)
  have hij : j < i := by
    have h1 : rk j * pw 4 < rk i * pw 4 := by
      rw [a3, b3]
      exact Int.mul_lt_mul_of_pos_right (by omega) hu
    have h2 : rk j < rk i := Int.lt_of_mul_lt_mul_right h1 (Int.le_of_lt hp)
    by_cases c : j < i
    · exact c
    · have := rk_le (show i ≤ j by omega)
      omega
  have hr := add_rd f1 g1
  have hge : i ≤ ix (fop .add .f64 X.1 Y.1) := by
    refine hr.2.ge (by decide) (by omega) (by omega) ?_
    rw [Int.natCast_one, Int.mul_one]
    have h1 : rk i * pw 4 ≤ (kv X.1 + kv Y.1) * pw 4 := by
      rw [b3, Int.add_mul, Int.add_mul]
      exact Int.add_le_add h.lo h'.lo
    exact Int.le_of_mul_le_mul_right h1 hp
  have d := (bs.dn (by omega)).2
  have : rk j ≤ kv (dn (fop .add .f64 X.1 Y.1)) := by
    unfold kv
    rw [d]
    exact rk_le (by omega)
  rw [← a3]
  exact Int.mul_le_mul_of_nonneg_right this (Int.le_of_lt hp)
theorem lb_zero : ∀ o : Bool, LB 1040 (-1) (mulP (0, 0) (pwP o))
  | true => ⟨by unfold Bd; decide +kernel, by unfold Bd; decide +kernel, by decide +kernel, by decide +kernel⟩
  | false => ⟨by unfold Bd; decide +kernel, by unfold Bd; decide +kernel, by decide +kernel, by decide +kernel⟩
def qP (j : Nat) : P2 := mulP (F (Int.ofNat j - 4), F (Int.ofNat j - 4)) (pwP true)
theorem lb_q : ∀ j < 9, ((qP j).1 < 18446744073709551616 ∧ (ix (qP j).1).natAbs ≤ 1040 * 4503599627370496) ∧ ((qP j).2 < 18446744073709551616 ∧ (ix (qP j).2).natAbs ≤ 1040 * 4503599627370496) ∧ ix (qP j).1 ≤ ix (qP j).2 ∧ -65 * (un : Int) ≤ kv (qP j).1 * pw 4 := by decide +kernel
theorem lb_00 : LB 1040 0 ((0, 0) : P2) := ⟨bd_zero.mono (by decide), bd_zero.mono (by decide), Int.le_refl _, by rw [Int.zero_mul]; decide +kernel⟩
theorem r_low {p : Int} {j : Nat} (h8 : 8 ≤ p) (h64 : p < 64) (hj : j < 9) : (un : Int) ≤ kv (rangeM (ofM [F p, F (Int.ofNat j - 4)])).1 := by
  have hu : (0 : Int) < un := by have := un_pos; omega
  obtain ⟨b1, _⟩ := F_bd (n := p) (by omega)
  have z0 : LB 1040 128 (F p, F p) := ⟨b1.mono (by decide), b1.mono (by decide), Int.le_refl _, by
    show 128 * (un : Int) ≤ kv (F p) * ((16 : Nat) : Int)
    rw [(F_fi (n := p) (by omega)).2]
    have := Int.mul_le_mul_of_nonneg_right h8 (Int.le_of_lt hu)
    omega⟩
  obtain ⟨q1, q2, q3, q4⟩ := lb_q j hj
  have z1 : LB 1040 (-65) (qP j) := ⟨q1, q2, q3, q4⟩
  have w := lb_zero
  have r1 := z0.add z1 (by decide) (by decide) (by decide) (by decide)
  have r2 := r1.add ((w false).mono (by decide) (Int.le_refl _)) (by decide) (by decide) (by decide) (by decide)
  have r3 := r2.add ((w true).mono (by decide) (Int.le_refl _)) (by decide) (by decide) (by decide) (by decide)
  have r4 := r3.add ((w false).mono (by decide) (Int.le_refl _)) (by decide) (by decide) (by decide) (by decide)
  have r5 := r4.add ((w true).mono (by decide) (Int.le_refl _)) (by decide) (by decide) (by decide) (by decide)
  have r6 := r5.add ((w false).mono (by decide) (Int.le_refl _)) (by decide) (by decide) (by decide) (by decide)
  have r7 := r6.add ((w true).mono (by decide) (Int.le_refl _)) (by decide) (by decide) (by decide) (by decide)
  have r8 := r7.add ((w false).mono (by decide) (Int.le_refl _)) (by decide) (by decide) (by decide) (by decide)
  have r9 := r8.add (lb_00.mono (by decide) (Int.le_refl _)) (by decide) (by decide) (by decide) (by decide)
  have e : rangeM (ofM [F p, F (Int.ofNat j - 4)]) = addP (addP (addP (addP (addP (addP (addP (addP (addP (F p, F p) (qP j)) (mulP (0, 0) (pwP false))) (mulP (0, 0) (pwP true))) (mulP (0, 0) (pwP false))) (mulP (0, 0) (pwP true))) (mulP (0, 0) (pwP false))) (mulP (0, 0) (pwP true))) (mulP (0, 0) (pwP false))) (0, 0) := rfl
  rw [e]
  have := r9.lo
  have e16 : ((pw 4 : Nat) : Int) = 16 := rfl
  rw [e16] at this
  omega

noncomputable def askNv (f : FuncId) : Nat := if [15, 17, 24, 37, 30, 18, 20, 43].contains f then 1 else 2
def pI (p : Int) : Int := iw5 (8 + p)
def qI (q : Int) : Int := iw5 (q - 4)
def dI (p q : Int) : Int := iw5 (pI p - qI q)
def mI (p q : Int) : Int := iw5 (pI p * dI p q)
def fBlk (l : List Nat) : Option ABlk := some ⟨(l.map fV).toArray, 24, 1, true⟩
noncomputable def finO (x : Nat) : Obl := .run 43 #[.float .f64 x] #[] (.bool true) #[]
noncomputable def nvL (c d p q : Int) (A B C : Nat → P2) (X : P2) : List Obl :=
  let H1 := pushL #[] [fBlk [F (mI p q)]]
  let H2 := pushL (nx H1 (isV' (mW A))) [fBlk [F (pI p), F (qI q)]]
  let H3 := pushL (nx H2 (isV' (mW B))) [blkW (mW C)]
  let H4 := nx H3 (yes true)
  [kn5O, wi5O c 56 p, wi5O d 9 q, mk2 H1 24 #[.slice (some ⟨0, 0, none⟩) 1 1] (isV' (mW A)), mk2 H2 24 #[.slice (some ⟨1, 0, none⟩) 2 2] (isV' (mW B)), .run 37 #[mW A, mW B] #[] (mW C) #[],
   mk2 H3 30 #[mW C, .float .f64 0, .float .f64 (F (dI p q))] (yes true), mk2 H4 30 #[mW C, .float .f64 moneW, .float .f64 (F (pI p))] (yes true),
   .run 18 #[mW C] #[] (vI X) #[], inR (F (pI p)) X true, .run 18 #[mW C] #[] (vI X) #[], inR (F (dI p q)) X true, finO (C 9).2]
theorem nv_came (c d p q : Int) (A B C : Nat → P2) (X : P2) : (askN askNv noC 12 12 #[.int .i64 c, .int .i64 d] #[] [yes true, isI p, isI q, isV' (mW A), isV' (mW B), isV' (mW C), yes true, yes true, isV' (vI X), yes true, isV' (vI X), yes true, yes true]).map (fun r => (r.1, r.2.2)) =
  some (.bool true, nvL c d p q A B C X) := by kernel_rfl

theorem fin_at {x : Nat} (h : Fi x) : Runs Try.prog 43 #[.float .f64 x] #[] (.bool true) #[] := by
  have hc : (askN noF fltC 12 43 #[.float .f64 x] #[] [yes true]).map (fun r => (r.1, r.2.2)) = some (.bool true, [cmpF .eql (fop .sub .f64 x x) 0 true]) := by kernel_rfl
  have hr := sub_rd h h
  have e : kv x - kv x = rk 0 * ((1 : Nat) : Int) := by rw [rk_zero]; omega
  rw [e] at hr
  have h0 := hr.2.eq (by decide) (by decide) (by decide)
  exact quiet_of' hc ⟨(fc _ rfl _ _).trans ((eql_ix hr.nn fi_zero.1.nn).trans (congrArg some (decide_eq_true (by rw [h0, fi_zero.2])))), trivial⟩ rfl rfl
theorem hand_push (H : AHeap) (l : List Nat) (hl : l ≠ []) : HandV (pushL H [fBlk l]) (l.map fV) (.slice (some ⟨H.size, 0, none⟩) l.length l.length) := by
  refine .inr ⟨H.size, ⟨(l.map fV).toArray, 24, 1, true⟩, fun h => hl (List.map_eq_nil_iff.1 h), by rw [List.length_map], ?_, rfl⟩
  unfold pushL
  rw [List.getElem?_toArray, List.getElem?_append_right (by simp)]
  simp [fBlk]

theorem modelInverse_tells (c d : Int) : Tells 12 #[.int .i64 c, .int .i64 d] #[] (.bool true) := by
  have c0 := Int.emod_nonneg c (b := 56) (by decide)
  have c1 := Int.emod_lt_of_pos c (b := 56) (by decide)
  have d0 := Int.emod_nonneg d (b := 9) (by decide)
  have d1 := Int.emod_lt_of_pos d (b := 9) (by decide)
  have wc : Runs Try.prog 17 #[.int .i64 c, .int .i64 56] #[] (.int .i64 (c % 56)) #[] := within5 c 55 (by decide)
  have wd := wi5 d
  obtain ⟨i, hi⟩ := Int.eq_ofNat_of_zero_le c0
  obtain ⟨j, hj⟩ := Int.eq_ofNat_of_zero_le d0
  rw [hi] at wc c1
  rw [hj] at wd d1
  have hi' : i < 56 := by omega
  have hj' : j < 9 := by omega
  have ep : pI (i : Int) = 8 + i := wrap_id (by omega) (by omega)
  have eq : qI (j : Int) = j - 4 := wrap_id (by omega) (by omega)
  have ed : dI (i : Int) (j : Int) = 8 + i - (j - 4) := by unfold dI; rw [ep, eq]; exact wrap_id (by omega) (by omega)
  have mb : ((8 + (i : Int)) * (8 + i - (j - 4))).natAbs ≤ 8192 := by
    rw [Int.natAbs_mul]
    exact Nat.le_trans (Nat.mul_le_mul (show (8 + (i : Int)).natAbs ≤ 63 by omega) (show (8 + (i : Int) - (j - 4)).natAbs ≤ 67 by omega)) (by decide)
  have em : mI (i : Int) (j : Int) = (8 + i) * (8 + i - (j - 4)) := by unfold mI; rw [ep, ed]; exact wrap_id (by omega) (by omega)
  have h1 : (un : Int) ≤ kv (rangeM (ofM [F (8 + (i : Int)), F ((j : Int) - 4)])).1 := r_low (by omega) (by omega) hj'
  have hrun := nv_came c d (i : Int) (j : Int) (ofM [F (mI i j)]) (ofM [F (pI i), F (qI j)]) (quoM (ofM [F (mI i j)]) (ofM [F (pI i), F (qI j)])) (rangeM (quoM (ofM [F (mI i j)]) (ofM [F (pI i), F (qI j)])))
  unfold nvL at hrun
  rw [ep, eq, ed, em] at hrun
  clear ep eq ed em
  generalize hp : 8 + (i : Int) = p at *
  generalize hq : (j : Int) - 4 = q at *
  have p8 : 8 ≤ p := by omega
  have p64 : p < 64 := by omega
  have q4 : -4 ≤ q := by omega
  have q5 : q ≤ 4 := by omega
  have emB := em_two (p := p) (q := q) (by omega) (by omega)
  have emA := em_one mb
  have hF := F_fi (n := p) (by omega)
  have hu : (0 : Int) < un := by have := un_pos; omega
  have h0 : (un : Int) ≤ kv (ofM [F p, F q] 0).1 := by
    show (un : Int) ≤ kv (F p)
    rw [hF.2]
    have := Int.mul_le_mul_of_nonneg_right (show 1 ≤ p by omega) (Int.le_of_lt hu)
    omega
  have z1 : zIn (rangeM (ofM [F p, F q])) = false := decide_eq_false (by
    have := kv_pos.1 (show 0 < kv (rangeM (ofM [F p, F q])).1 by omega)
    omega)
  have z0 : zIn (ofM [F p, F q] 0) = false := by
    have h2 : 0 < kv (F p) := by rw [hF.2]; exact Int.mul_pos (by omega) hu
    have h3 := kv_pos.1 h2
    exact decide_eq_false (by
      show ¬ (ix (F p) ≤ 0 ∧ 0 ≤ ix (F p))
      omega)
  have hpr : (p : Rat) ≠ 0 := by
    have : p ≠ 0 := by omega
    exact_mod_cast this
  have mr : (((p * (p - q) : Int)) : Rat) = (p : Rat) * ((p : Rat) - (q : Rat)) := by rw [Rat.intCast_mul, Rat.intCast_sub]
  have dr : (((p - q : Int)) : Rat) = (p : Rat) - (q : Rat) := Rat.intCast_sub _ _
  have evA : ∀ s : Rat, Ev 1037 s (ofM [F (p * (p - q))]) ((p * (p - q) : Int) : Rat) := fun s => ⟨_, _, emA, by simp only [pS]; grind⟩
  have e0 := (evA (sR 0)).quo1 (z := ((p - q : Int) : Rat)) emB (y := (p : Rat)) (by simp only [pS, sR, sN]; grind) (by decide) (by decide) h0 hpr h1 z0 z1 (by rw [mr, dr]; grind) (sR_in (by decide)).1 (sR_in (by decide)).2
  have e1 := (evA (sR 1)).quo1 (z := (p : Rat)) emB (y := (p : Rat) - (q : Rat)) (by simp only [pS, sR, sN]; grind) (by decide) (by decide) h0 hpr h1 z0 z1 (by rw [mr]) (sR_in (by decide)).1 (sR_in (by decide)).2
  have fp := F_bd2 (n := p) (by omega)
  have fd := F_bd2 (n := p - q) (by omega)
  have q1 := holds_runs (s := sW 0) e0 (by decide) (by decide) (s_mr (by decide)) (fd.1.fi (by decide)) fd.2
  have q2 := holds_runs (s := sW 1) e1 (by decide) (by decide) (s_mr (by decide)) (fp.1.fi (by decide)) fp.2
  have r0 := in_of_mr (e0.range (by decide) (by decide) (sR_in (by decide)).1 (sR_in (by decide)).2) (by decide) (fd.1.fi (by decide)) fd.2
  have r1 := in_of_mr (e1.range (by decide) (by decide) (sR_in (by decide)).1 (sR_in (by decide)).2) (by decide) (fp.1.fi (by decide)) fp.2
  have hdv := quoM_runs (ofM [F (p * (p - q))]) (d := ofM [F p, F q]) hF.1.nn hF.1.nn
  have hfin : Fi (quoM (ofM [F (p * (p - q))]) (ofM [F p, F q]) 9).2 := by
    obtain ⟨γ, ρ, he, _⟩ := e0
    exact he.re.bh.fi (by decide)
  refine tells_of hrun ⟨known5, wc, wd, ?_, ?_, hdv, mk2_v (q1.quiet rfl rfl _), mk2_v (q2.quiet rfl rfl _), rangeM_runs _, r1, rangeM_runs _, r0, fin_at hfin, trivial⟩
  · exact of_2 (by simp) (hand_push #[] _ (by simp))
  · exact of_2 (by simp) (hand_push _ [F p, F q] (by simp))

end Go.Proofs.Ytnbbmihlokajaaa
