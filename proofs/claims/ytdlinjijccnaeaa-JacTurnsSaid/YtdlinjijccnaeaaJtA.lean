/- The norm of whole numbers: its value, but for rounding; anywhere in memory. -/
import Derived.Test.YtdlinjijccnaeaaJacNormsA
import Derived.Test.YtdlinjijccnaeaaJcW
namespace Go.Proofs.Ytdlinjijccnaeaa
open Go
set_option linter.unusedVariables false
set_option linter.unusedSimpArgs false
set_option maxRecDepth 100000

structure SC (N : Int) (j : Nat) (s : Nat) : Prop where
  fi : Fi s
  lo : N * un ≤ kv s
  hi : kv s * pw 40 ≤ (N * pw 40 + j) * un
theorem SC.step {N m : Int} {j s e : Nat} (h : SC N j s) (he : Fi e) (hm : kv e = m * un) (hN : (N + m).natAbs ≤ 1000) (hj : j ≤ 100) : SC (N + m) (j + 1) (up (fop .add .f64 s e)) := by
  have hp := pwi_pos 40
  have p40 : ((pw 40 : Nat) : Int) = 1099511627776 := rfl
  have hu : (0 : Int) < un := by have := un_pos; omega
  obtain ⟨a, a1, a2, a3⟩ := rep_int (N := (N + m) * 1099511627776 + j) (e := 40) (by omega) (by decide)
  obtain ⟨b, b1, b2, b3⟩ := rep_int (N := (N + m) * 1099511627776 + j + 1) (e := 40) (by omega) (by decide)
  have hab : a < b := by
    have h1 : rk a * pw 40 < rk b * pw 40 := by
      rw [a3, b3]
      exact Int.mul_lt_mul_of_pos_right (by omega) hu
    have h2 : rk a < rk b := Int.lt_of_mul_lt_mul_right h1 (Int.le_of_lt hp)
    by_cases c : a < b
    · exact c
    · have := rk_le (show b ≤ a by omega)
      omega
  have hr := add_rd h.fi he
  have hle : ix (fop .add .f64 s e) ≤ a := by
    refine hr.2.le (by decide) (by omega) (by omega) ?_
    rw [Int.natCast_one, Int.mul_one]
    have h1 : (kv s + kv e) * pw 40 ≤ rk a * pw 40 := by
      have h2 := h.hi
      rw [p40] at h2 a3 ⊢
      rw [a3, Int.add_mul, hm]
      have e1 : (m * un) * 1099511627776 = m * 1099511627776 * un := by rw [Int.mul_right_comm]
      have e2 : ((N + m) * 1099511627776 + j) * un = (N * 1099511627776 + j) * un + m * 1099511627776 * un := by rw [← Int.add_mul]; congr 1; omega
      rw [e1, e2]
      omega
    exact Int.le_of_mul_le_mul_right h1 hp
  obtain ⟨u1, u2⟩ := up_ix hr.nn
  rw [if_neg (by omega)] at u2
  have hn := hr.nn.2
  have hk : kv (up (fop .add .f64 s e)) = rk (ix (fop .add .f64 s e) + 1) := by unfold kv; rw [u2]
  refine ⟨⟨u1.1, by omega, by omega⟩, ?_, ?_⟩
  · have g := hr.2.up (by decide) (by omega)
    rw [Int.natCast_one, Int.mul_one, ← hk, hm] at g
    have := h.lo
    rw [Int.add_mul]
    omega
  · have g : kv (up (fop .add .f64 s e)) ≤ rk b := by rw [hk]; exact rk_le (by omega)
    have := Int.mul_le_mul_of_nonneg_right g (Int.le_of_lt hp)
    rw [b3] at this
    rw [p40] at this ⊢
    have e3 : (N + m) * 1099511627776 + ((j + 1 : Nat) : Int) = (N + m) * 1099511627776 + j + 1 := by omega
    rw [e3]
    exact this
theorem SC.mono {N : Int} {j k s : Nat} (h : SC N j s) (hk : j ≤ k) : SC N k s := ⟨h.fi, h.lo, Int.le_trans h.hi (Int.mul_le_mul_of_nonneg_right (by omega) (Int.natCast_nonneg _))⟩
theorem SC.F {N : Int} (h : N.natAbs ≤ 1000) : SC N 0 (F N) := by
  obtain ⟨h1, h2⟩ := F_fi (n := N) (by omega)
  exact ⟨h1, by omega, by rw [h2, Int.natCast_zero, Int.add_zero, Int.mul_right_comm]; exact Int.le_refl _⟩
theorem sAt_sc {M : Nat → P2} {e : Nat → Nat} {i : Nat} {hi : Int} {z : Nat → Int} (hM : (M i).2 = F hi) (hh : hi.natAbs ≤ 28) (hz : ∀ k, (z k).natAbs ≤ 28) (he : ∀ k, Fi (e k) ∧ kv (e k) = z k * un) :
    ∀ k, k ≤ 10 → SC (sI hi z i k) k (sAt M e i k)
  | 0, _ => by
    show SC hi 0 (M i).2
    rw [hM]
    exact SC.F (by omega)
  | k + 1, hk => by
    have ih := sAt_sc (i := i) hM hh hz he k (by omega)
    have b := sI_le (i := i) hh hz (k + 1)
    unfold sAt sI
    unfold sI at b
    cases hb : Nat.beq k i with
    | true => rw [cond_true, cond_true]; exact ih.mono (by omega)
    | false =>
      rw [hb, cond_false] at b
      rw [cond_false, cond_false]
      exact ih.step (he k).1 (he k).2 (by omega) (by omega)
theorem mx_sc {S : Nat → Int} {r : Nat → Nat} {j : Nat} : ∀ i, (∀ k, k ≤ i → SC (S k) j (r k)) → SC (mI S i) j (mxW r i)
  | 0, h => h 0 (Nat.le_refl _)
  | i + 1, h => by
    have ih := mx_sc i fun k hk => h k (by omega)
    have g := h (i + 1) (Nat.le_refl _)
    have hu : (0 : Int) < un := by have := un_pos; omega
    have p40 : ((pw 40 : Nat) : Int) = 1099511627776 := rfl
    unfold mxW mI gm
    by_cases c : ix (mxW r i) < ix (r (i + 1))
    · rw [decide_eq_true c]
      show SC _ _ (r (i + 1))
      have hle : kv (mxW r i) ≤ kv (r (i + 1)) := rk_le (by omega)
      by_cases c2 : S (i + 1) > mI S i
      · rw [if_pos c2]; exact g
      · rw [if_neg c2]
        exact ⟨g.fi, Int.le_trans ih.lo hle, Int.le_trans g.hi (Int.mul_le_mul_of_nonneg_right (by rw [p40]; omega) (Int.le_of_lt hu))⟩
    · rw [decide_eq_false c]
      show SC _ _ (mxW r i)
      have hle : kv (r (i + 1)) ≤ kv (mxW r i) := rk_le (by omega)
      by_cases c2 : S (i + 1) > mI S i
      · rw [if_pos c2]
        exact ⟨ih.fi, Int.le_trans g.lo hle, Int.le_trans ih.hi (Int.mul_le_mul_of_nonneg_right (by rw [p40]; omega) (Int.le_of_lt hu))⟩
      · rw [if_neg c2]; exact ih
theorem norm_bothE {m : Nat} {M : Nat → Nat → P2} (hM : OkM (m + 1) M) {e : Nat → Nat → Nat} (he : ∀ i c, Runs Try.prog 35 #[vI (M i c)] #[] (.float .f64 (e i c)) #[] ∧ Runs Try.prog 22 #[vI (M i c)] #[] (.float .f64 (e i c)) #[] ∧ NN (e i c) ∧ 0 ≤ ix (e i c)) :
    NN (mxW (fun i => sAt (M i) (e i) i (m + 1)) m) ∧ okAll Try.prog (nO (m + 1) M e (uOf M e) (tOf fun i => sAt (M i) (e i) i (m + 1)) (m + 1) 0 0) ∧ nS (m + 1) M (uOf M e) (tOf fun i => sAt (M i) (e i) i (m + 1)) (m + 1) 0 0 = mxW (fun i => sAt (M i) (e i) i (m + 1)) m ∧
      okAll Try.prog (nOR (m + 1) M e (uOf M e) (tR fun i => sAt (M i) (e i) i (m + 1)) (m + 1) 0 bR) ∧ nSR (m + 1) M (uOf M e) (tR fun i => sAt (M i) (e i) i (m + 1)) (m + 1) 0 bR = mxW (fun i => sAt (M i) (e i) i (m + 1)) m ∧ (2 ≤ (m + 1) → tR (fun i => sAt (M i) (e i) i (m + 1)) 0 = true) := by
  have rows : ∀ i, i < (m + 1) → okAll Try.prog (rO (M i) (e i) (fun k => sAt (M i) (e i) i (k + 1)) i (m + 1) 0 (M i i).2) ∧ okAll Try.prog (rOR (M i) (e i) (fun k => sAt (M i) (e i) i (k + 1)) i (m + 1) 0 (M i i).2) := by
    intro i hi
    by_cases h1 : m = 0
    · subst h1
      have : i = 0 := by omega
      subst this
      exact ⟨trivial, trivial⟩
    · have g := fun k => sAt_gt (i := i) (hM.nn i i).2 (hM.gt (by omega) i) (fun k => (he i k).2.2) k
      have nn : ∀ k, k < (m + 1) → NN (fop .add .f64 (sAt (M i) (e i) i k) (e i k)) := fun k _ => (add_up (g k).1 (g k).2 (he i k).2.2.1 (he i k).2.2.2).1
      exact ⟨rO_ok (n := m + 1) (fun k _ => (he i k).1) nn (m + 1) 0 (by omega), rOR_ok (n := m + 1) (fun k _ => (he i k).2.1) nn (m + 1) 0 (by omega)⟩
  have rn : ∀ i, i < (m + 1) → NN (sAt (M i) (e i) i (m + 1)) := by
    intro i hi
    by_cases h1 : m = 0
    · subst h1
      have : i = 0 := by omega
      subst this
      exact (hM.nn 0 0).2
    · exact (sAt_gt (i := i) (hM.nn i i).2 (hM.gt (by omega) i) (fun k => (he i k).2.2) (m + 1)).1
  have xn : NN (mxW (fun i => sAt (M i) (e i) i (m + 1)) m) := mx_nn m fun k hk => rn k (by omega)
  refine ⟨xn, ?_, ?_, ?_, ?_, fun h2 => ?_⟩
  · unfold nO
    rw [row_at]
    exact app_ok' (rows 0 (by omega)).1 ⟨(fc _ rfl _ _).trans (nn_self (rn 0 (by omega))).1, nO_ok (fun i hi => (rows i hi).1) rn m 1 (by decide) (by omega)⟩
  · have h := nS_at (n := m + 1) (M := M) (e := e) m 1 (by decide)
    have h0 : nS (m + 1) M (uOf M e) (tOf fun i => sAt (M i) (e i) i (m + 1)) (m + 1) 0 0 = nS (m + 1) M (uOf M e) (tOf fun i => sAt (M i) (e i) i (m + 1)) m 1 (mxW (fun i => sAt (M i) (e i) i (m + 1)) 0) := by
      show nS (m + 1) M (uOf M e) _ m (0 + 1) (rowW (m + 1) M (uOf M e) 0) = _
      rw [row_at]
      rfl
    rw [h0, h]
    have e1 : 1 + m - 1 = m := by omega
    rw [e1]
  · exact nOR_ok (fun i hi => (rows i hi).2) rn (m + 1) 0 (by omega)
  · have h := nSR_at (n := m + 1) (M := M) (e := e) (m + 1) 0
    have h2 : nSR (m + 1) M (uOf M e) (tR fun i => sAt (M i) (e i) i (m + 1)) (m + 1) 0 bR = mxR (fun i => sAt (M i) (e i) i (m + 1)) (0 + (m + 1)) := h
    rw [h2, Nat.zero_add]
    exact mxR_eq m fun k hk => rn k (by omega)
  · have g := (sAt_gt (i := 0) (hM.nn 0 0).2 (hM.gt h2 0) (fun k => (he 0 k).2.2) (m + 1)).2
    show decide (ix bR < ix (sAt (M 0) (e 0) 0 (m + 1))) = true
    rw [bR_eq, ninf_nn.2]
    exact decide_eq_true g

theorem both2E {M : Nat → Nat → P2} (hM : OkM 2 M) {e : Nat → Nat → Nat} (he : ∀ i c, Runs Try.prog 35 #[vI (M i c)] #[] (.float .f64 (e i c)) #[] ∧ Runs Try.prog 22 #[vI (M i c)] #[] (.float .f64 (e i c)) #[] ∧ NN (e i c) ∧ 0 ≤ ix (e i c)) : ∃ x, x = mxW (fun i => sAt (M i) (e i) i 2) 1 ∧ NN x ∧ (∃ bs, Runs Try.prog 14 #[.slice (some ⟨2, 0, none⟩) 2 2] (hN2 M) (.float .f64 x) (hN2 M ++ bs)) ∧ (∃ bs, Runs Try.prog 24 #[.slice (some ⟨2, 0, none⟩) 2 2] (hN2 M) (.float .f64 x) (hN2 M ++ bs)) := by
  obtain ⟨hx, h1, h2, h3, h4, h5⟩ := norm_bothE (m := 1) hM he
  obtain ⟨p1, p2⟩ := nJ_tB2 M e (uOf M e) (tOf fun i => sAt (M i) (e i) i 2)
  obtain ⟨q1, q2⟩ := nR_tB2 M e (uOf M e) (tR fun i => sAt (M i) (e i) i 2)
  rw [← p1] at h1
  rw [← p2] at h2
  rw [h5 (by decide)] at q1 q2
  rw [← q1] at h3
  rw [← q2] at h4
  refine ⟨_, rfl, hx, ?_, ?_⟩
  · rw [← h2]; exact askN_ex (norm2_came M e (uOf M e) _ _ _) h1
  · rw [← h4]; exact askN_ex (normR2_came M e (uOf M e) _ _ _) h3
theorem both3E {M : Nat → Nat → P2} (hM : OkM 3 M) {e : Nat → Nat → Nat} (he : ∀ i c, Runs Try.prog 35 #[vI (M i c)] #[] (.float .f64 (e i c)) #[] ∧ Runs Try.prog 22 #[vI (M i c)] #[] (.float .f64 (e i c)) #[] ∧ NN (e i c) ∧ 0 ≤ ix (e i c)) : ∃ x, x = mxW (fun i => sAt (M i) (e i) i 3) 2 ∧ NN x ∧ (∃ bs, Runs Try.prog 14 #[.slice (some ⟨3, 0, none⟩) 3 3] (hN3 M) (.float .f64 x) (hN3 M ++ bs)) ∧ (∃ bs, Runs Try.prog 24 #[.slice (some ⟨3, 0, none⟩) 3 3] (hN3 M) (.float .f64 x) (hN3 M ++ bs)) := by
  obtain ⟨hx, h1, h2, h3, h4, h5⟩ := norm_bothE (m := 2) hM he
  obtain ⟨p1, p2⟩ := nJ_tB3 M e (uOf M e) (tOf fun i => sAt (M i) (e i) i 3)
  obtain ⟨q1, q2⟩ := nR_tB3 M e (uOf M e) (tR fun i => sAt (M i) (e i) i 3)
  rw [← p1] at h1
  rw [← p2] at h2
  rw [h5 (by decide)] at q1 q2
  rw [← q1] at h3
  rw [← q2] at h4
  refine ⟨_, rfl, hx, ?_, ?_⟩
  · rw [← h2]; exact askN_ex (norm3_came M e (uOf M e) _ _ _) h1
  · rw [← h4]; exact askN_ex (normR3_came M e (uOf M e) _ _ _) h3
theorem both4E {M : Nat → Nat → P2} (hM : OkM 4 M) {e : Nat → Nat → Nat} (he : ∀ i c, Runs Try.prog 35 #[vI (M i c)] #[] (.float .f64 (e i c)) #[] ∧ Runs Try.prog 22 #[vI (M i c)] #[] (.float .f64 (e i c)) #[] ∧ NN (e i c) ∧ 0 ≤ ix (e i c)) : ∃ x, x = mxW (fun i => sAt (M i) (e i) i 4) 3 ∧ NN x ∧ (∃ bs, Runs Try.prog 14 #[.slice (some ⟨4, 0, none⟩) 4 4] (hN4 M) (.float .f64 x) (hN4 M ++ bs)) ∧ (∃ bs, Runs Try.prog 24 #[.slice (some ⟨4, 0, none⟩) 4 4] (hN4 M) (.float .f64 x) (hN4 M ++ bs)) := by
  obtain ⟨hx, h1, h2, h3, h4, h5⟩ := norm_bothE (m := 3) hM he
  obtain ⟨p1, p2⟩ := nJ_tB4 M e (uOf M e) (tOf fun i => sAt (M i) (e i) i 4)
  obtain ⟨q1, q2⟩ := nR_tB4 M e (uOf M e) (tR fun i => sAt (M i) (e i) i 4)
  rw [← p1] at h1
  rw [← p2] at h2
  rw [h5 (by decide)] at q1 q2
  rw [← q1] at h3
  rw [← q2] at h4
  refine ⟨_, rfl, hx, ?_, ?_⟩
  · rw [← h2]; exact askN_ex (norm4_came M e (uOf M e) _ _ _) h1
  · rw [← h4]; exact askN_ex (normR4_came M e (uOf M e) _ _ _) h3

/-! whole numbers -/
theorem mag_twoI {lo hi m : Int} (hl : lo.natAbs ≤ 64) (hh : hi.natAbs ≤ 64) (hm : m = max (lo.natAbs : Int) hi.natAbs) : ∃ e, Runs Try.prog 35 #[vI (F lo, F hi)] #[] (.float .f64 e) #[] ∧ Runs Try.prog 22 #[vI (F lo, F hi)] #[] (.float .f64 e) #[] ∧ Fi e ∧ kv e = m * un ∧ 0 ≤ ix e := by
  obtain ⟨fl, kl⟩ := F_fi (n := lo) (by omega)
  obtain ⟨fh, kh⟩ := F_fi (n := hi) (by omega)
  obtain ⟨a1, a2⟩ := abs_ix fl.nn
  obtain ⟨b1, b2⟩ := abs_ix fh.nn
  obtain ⟨s1, s2, s3, s4⟩ := sel_hi b1 a1 rfl
  have ob : okAll Try.prog [absO (F lo) (fabs (F lo)), absO (F hi) (fabs (F hi)), cmpF .gtr (fabs (F hi)) (fabs (F lo)) (decide (ix (fabs (F lo)) < ix (fabs (F hi))))] := ⟨abs_runs fl.nn, abs_runs fh.nn, (fc _ rfl _ _).trans (gtr_ix b1 a1), trivial⟩
  have hl2 := fl.2
  have hh2 := fh.2
  have rn : ∀ i : Int, rk (i.natAbs : Int) = ((rk i).natAbs : Int) := by
    intro i
    rw [rk_abs, rk_nat]
  have r1 : rk ((ix (F lo)).natAbs : Int) = (lo.natAbs : Int) * un := by
    rw [rn]
    show ((kv (F lo)).natAbs : Int) = _
    rw [kl, Int.natAbs_mul, Int.natAbs_natCast, Int.natCast_mul]
  have r2 : rk ((ix (F hi)).natAbs : Int) = (hi.natAbs : Int) * un := by
    rw [rn]
    show ((kv (F hi)).natAbs : Int) = _
    rw [kh, Int.natAbs_mul, Int.natAbs_natCast, Int.natCast_mul]
  have hu : (0 : Int) < un := by have := un_pos; omega
  refine ⟨_, quiet_of' (mag_came (F lo) (F hi) _ _ _) ob rfl rfl, quiet_of' (mag_cameR (F lo) (F hi) _ _ _) ob rfl rfl, ⟨s1.1, ?_, ?_⟩, ?_, by omega⟩
  · rcases s4 with h | h <;> rw [h] <;> omega
  · rcases s4 with h | h <;> rw [h] <;> omega
  · have g1 : (lo.natAbs : Int) * un ≤ kv (sel (decide (ix (fabs (F lo)) < ix (fabs (F hi)))) (fabs (F hi)) (fabs (F lo))) := by
      rw [← r1]; exact rk_le (by omega)
    have g2 : (hi.natAbs : Int) * un ≤ kv (sel (decide (ix (fabs (F lo)) < ix (fabs (F hi)))) (fabs (F hi)) (fabs (F lo))) := by
      rw [← r2]; exact rk_le (by omega)
    have g3 : kv (sel (decide (ix (fabs (F lo)) < ix (fabs (F hi)))) (fabs (F hi)) (fabs (F lo))) = (lo.natAbs : Int) * un ∨ kv (sel (decide (ix (fabs (F lo)) < ix (fabs (F hi)))) (fabs (F hi)) (fabs (F lo))) = (hi.natAbs : Int) * un := by
      rcases s4 with h | h
      · right; rw [← r2]; show rk (ix (sel _ _ _)) = _; rw [h, b2]
      · left; rw [← r1]; show rk (ix (sel _ _ _)) = _; rw [h, a2]
    rw [hm]
    by_cases c : (lo.natAbs : Int) ≤ hi.natAbs
    · rw [Int.max_eq_right c]
      rcases g3 with h | h
      · rw [h] at g2 ⊢
        have := Int.mul_le_mul_of_nonneg_right c (Int.le_of_lt hu)
        omega
      · exact h
    · rw [Int.max_eq_left (by omega)]
      rcases g3 with h | h
      · exact h
      · rw [h] at g1 ⊢
        have := Int.mul_le_mul_of_nonneg_right (show (hi.natAbs : Int) ≤ lo.natAbs by omega) (Int.le_of_lt hu)
        omega
/-- A table of whole numbers. -/
structure ZT (L H : Nat → Nat → Int) : Prop where
  lo : ∀ i c, -12 ≤ L i c ∧ L i c ≤ 12
  hi : ∀ i c, -12 ≤ H i c ∧ H i c ≤ 12
def zS (L H : Nat → Nat → Int) (i c : Nat) : Int := max ((L i c).natAbs : Int) (H i c).natAbs
def mT (L H : Nat → Nat → Int) (i c : Nat) : P2 := (F (L i c), F (H i c))
/-- The norm, in whole numbers. -/
def nI (n : Nat) (L H : Nat → Nat → Int) : Int := mI (fun i => sI (H i i) (zS L H i) i n) (n - 1)
theorem okT {n : Nat} {L H : Nat → Nat → Int} (h : ZT L H) : OkM n (mT L H) := by
  have f : ∀ z : Int, -12 ≤ z ∧ z ≤ 12 → Fi (F z) := fun z hz => (F_fi (n := z) (by omega)).1
  exact ⟨fun i c => ⟨(f _ (h.lo i c)).nn, (f _ (h.hi i c)).nn⟩, fun _ i => (f _ (h.hi i i)).2.1⟩
theorem eT {L H : Nat → Nat → Int} (h : ZT L H) : ∃ e : Nat → Nat → Nat, ∀ i c, (Runs Try.prog 35 #[vI (mT L H i c)] #[] (.float .f64 (e i c)) #[] ∧ Runs Try.prog 22 #[vI (mT L H i c)] #[] (.float .f64 (e i c)) #[] ∧ NN (e i c) ∧ 0 ≤ ix (e i c)) ∧ Fi (e i c) ∧ kv (e i c) = zS L H i c * un := by
  have hm : ∀ i c : Nat, ∃ e, (Runs Try.prog 35 #[vI (mT L H i c)] #[] (.float .f64 e) #[] ∧ Runs Try.prog 22 #[vI (mT L H i c)] #[] (.float .f64 e) #[] ∧ NN e ∧ 0 ≤ ix e) ∧ Fi e ∧ kv e = zS L H i c * un := fun i c => by
    have hl := h.lo i c
    have hh := h.hi i c
    obtain ⟨e, a, b, c, d, f⟩ := mag_twoI (lo := L i c) (hi := H i c) (by omega) (by omega) rfl
    exact ⟨e, ⟨a, b, c.nn, f⟩, c, d⟩
  exact ⟨fun i c => Classical.choose (hm i c), fun i c => Classical.choose_spec (hm i c)⟩
/-- Both norms of a table, and how far off they are. -/
def NrT (n : Nat) (hN : (Nat → Nat → P2) → AHeap) : Prop := ∀ {L H : Nat → Nat → Int}, ZT L H → ∃ x, SC (nI n L H) n x ∧ (∃ bs, Runs Try.prog 14 #[.slice (some ⟨n, 0, none⟩) n n] (hN (mT L H)) (.float .f64 x) (hN (mT L H) ++ bs)) ∧ (∃ bs, Runs Try.prog 24 #[.slice (some ⟨n, 0, none⟩) n n] (hN (mT L H)) (.float .f64 x) (hN (mT L H) ++ bs))
theorem rowT {n : Nat} (hn : n ≤ 4) {L H : Nat → Nat → Int} (h : ZT L H) {e : Nat → Nat → Nat} (he : ∀ i c, Fi (e i c) ∧ kv (e i c) = zS L H i c * un) (i : Nat) : SC (sI (H i i) (zS L H i) i n) n (sAt (mT L H i) (e i) i n) := by
  have hz : ∀ k, (zS L H i k).natAbs ≤ 28 := fun k => by
    have hl := h.lo i k
    have hh := h.hi i k
    unfold zS
    omega
  exact sAt_sc (M := mT L H i) (z := zS L H i) rfl (by have := h.hi i i; omega) hz (he i) n (by omega)
theorem nrT_2 : NrT 2 hN2 := by
  intro L H h
  obtain ⟨e, he⟩ := eT h
  obtain ⟨x, hx, _, h1, h2⟩ := both2E (okT h) (fun i c => (he i c).1)
  refine ⟨x, ?_, h1, h2⟩
  rw [hx]
  exact mx_sc 1 fun k _ => rowT (by decide) h (fun i c => (he i c).2) k
theorem nrT_3 : NrT 3 hN3 := by
  intro L H h
  obtain ⟨e, he⟩ := eT h
  obtain ⟨x, hx, _, h1, h2⟩ := both3E (okT h) (fun i c => (he i c).1)
  refine ⟨x, ?_, h1, h2⟩
  rw [hx]
  exact mx_sc 2 fun k _ => rowT (by decide) h (fun i c => (he i c).2) k
theorem nrT_4 : NrT 4 hN4 := by
  intro L H h
  obtain ⟨e, he⟩ := eT h
  obtain ⟨x, hx, _, h1, h2⟩ := both4E (okT h) (fun i c => (he i c).1)
  refine ⟨x, ?_, h1, h2⟩
  rw [hx]
  exact mx_sc 3 fun k _ => rowT (by decide) h (fun i c => (he i c).2) k

/-! turned -/
def swN (p q i : Nat) : Nat := if i = p then q else if i = q then p else i
theorem swN_lt {n p q i : Nat} (hp : p < n) (hq : q < n) (hi : i < n) : swN p q i < n := by unfold swN; split; exact hq; split; exact hp; exact hi
theorem swN_inv (p q i : Nat) : swN p q (swN p q i) = i := by
  unfold swN
  by_cases h1 : i = p
  · subst h1
    simp only [if_true]
    by_cases h2 : q = i
    · subst h2; simp
    · rw [if_neg h2] <;> simp
  · rw [if_neg h1]
    by_cases h2 : i = q
    · subst h2; simp
    · rw [if_neg h2, if_neg h1, if_neg h2]
def sumZ (z : Nat → Int) : Nat → Int
  | 0 => 0
  | n + 1 => sumZ z n + z n
theorem sI_sum (hi : Int) (z : Nat → Int) (i : Nat) : ∀ n, sI hi z i n = hi + sumZ z n - if i < n then z i else 0
  | 0 => by show hi = hi + 0 - _; rw [if_neg (by omega)]; omega
  | n + 1 => by
    have ih := sI_sum hi z i n
    show (bif Nat.beq n i then sI hi z i n else sI hi z i n + z n) = hi + (sumZ z n + z n) - _
    by_cases h : n = i
    · subst h
      rw [show Nat.beq n n = true from Nat.beq_refl n, cond_true, ih, if_neg (by omega), if_pos (by omega)]
      omega
    · rw [show Nat.beq n i = false from Bool.eq_false_iff.2 fun c => h (Nat.eq_of_beq_eq_true c), cond_false, ih]
      by_cases c : i < n
      · rw [if_pos c, if_pos (by omega)]; omega
      · rw [if_neg c, if_neg (by omega)]; omega
theorem sum_sw {n p q : Nat} (h2 : 2 ≤ n) (h4 : n ≤ 4) (hp : p < n) (hq : q < n) (z : Nat → Int) : sumZ (fun c => z (swN p q c)) n = sumZ z n := by
  have hn : n = 2 ∨ n = 3 ∨ n = 4 := by omega
  have hp4 : p = 0 ∨ p = 1 ∨ p = 2 ∨ p = 3 := by omega
  have hq4 : q = 0 ∨ q = 1 ∨ q = 2 ∨ q = 3 := by omega
  rcases hn with rfl | rfl | rfl <;> rcases hp4 with rfl | rfl | rfl | rfl <;> rcases hq4 with rfl | rfl | rfl | rfl <;> first | omega | (simp only [sumZ, swN]; simp; omega) | (simp only [sumZ, swN]; simp)
theorem mI_ge (S : Nat → Int) : ∀ (m k : Nat), k ≤ m → S k ≤ mI S m
  | 0, k, h => by have : k = 0 := by omega
                  subst this; exact Int.le_refl _
  | m + 1, k, h => by
    have ih := mI_ge S m
    show S k ≤ gm (mI S m) (S (m + 1))
    unfold gm
    by_cases c : k = m + 1
    · subst c; split <;> omega
    · have := ih k (by omega); split <;> omega
theorem mI_is (S : Nat → Int) : ∀ m : Nat, ∃ k, k ≤ m ∧ mI S m = S k
  | 0 => ⟨0, Nat.le_refl _, rfl⟩
  | m + 1 => by
    obtain ⟨k, h1, h2⟩ := mI_is S m
    show ∃ k, k ≤ m + 1 ∧ gm (mI S m) (S (m + 1)) = S k
    unfold gm
    split
    · exact ⟨m + 1, Nat.le_refl _, rfl⟩
    · exact ⟨k, by omega, h2⟩
/-- Rows and columns in another order: the same norm. -/
theorem nI_sw {n p q : Nat} (h2 : 2 ≤ n) (h4 : n ≤ 4) (hp : p < n) (hq : q < n) (L H : Nat → Nat → Int) : nI n (fun i c => L (swN p q i) (swN p q c)) (fun i c => H (swN p q i) (swN p q c)) = nI n L H := by
  have hS : ∀ i, i < n → sI (H (swN p q i) (swN p q i)) (zS (fun i c => L (swN p q i) (swN p q c)) (fun i c => H (swN p q i) (swN p q c)) i) i n = sI (H (swN p q i) (swN p q i)) (zS L H (swN p q i)) (swN p q i) n := by
    intro i hi
    rw [sI_sum, sI_sum, if_pos hi, if_pos (swN_lt hp hq hi)]
    have := sum_sw h2 h4 hp hq (zS L H (swN p q i))
    show _ + sumZ (fun c => zS L H (swN p q i) (swN p q c)) n - zS L H (swN p q i) (swN p q i) = _
    rw [this]
  unfold nI
  generalize hA : (fun i => sI (H i i) (zS L H i) i n) = A
  have hB : ∀ i, i < n → (fun i => sI (H (swN p q i) (swN p q i)) (zS (fun i c => L (swN p q i) (swN p q c)) (fun i c => H (swN p q i) (swN p q c)) i) i n) i = A (swN p q i) := fun i hi => by rw [← hA]; exact hS i hi
  generalize hBB : (fun i => sI (H (swN p q i) (swN p q i)) (zS (fun i c => L (swN p q i) (swN p q c)) (fun i c => H (swN p q i) (swN p q c)) i) i n) = B at hB
  show mI B (n - 1) = mI A (n - 1)
  obtain ⟨k, k1, k2⟩ := mI_is B (n - 1)
  obtain ⟨j, j1, j2⟩ := mI_is A (n - 1)
  have g1 := mI_ge A (n - 1) (swN p q k) (by have := swN_lt (n := n) hp hq (i := k) (by omega); omega)
  have g2 := mI_ge B (n - 1) (swN p q j) (by have := swN_lt (n := n) hp hq (i := j) (by omega); omega)
  rw [hB _ (swN_lt hp hq (by omega)), swN_inv] at g2
  rw [k2, hB k (by omega)] at g2 ⊢
  omega
/-- Two that are off by so little are near. -/
theorem near_sc {N : Int} {j x y : Nat} (h : SC N j x) (h' : SC N j y) (hN : N.natAbs ≤ 1000) (hj : j ≤ 100) : ix (fop .sub .f64 x y) < ix 4472406533629990549 ∧ ix 13695778570484766357 < ix (fop .sub .f64 x y) ∧ NN (fop .sub .f64 x y) := by
  have hr := sub_rd h.fi h'.fi
  have hu : (0 : Int) < un := by have := un_pos; omega
  have hp := pwi_pos 40
  have p40 : ((pw 40 : Nat) : Int) = 1099511627776 := rfl
  have b1 : (kv x - kv y) * pw 40 ≤ (j : Int) * un := by
    have a1 := h.hi
    have a2 := Int.mul_le_mul_of_nonneg_right h'.lo (Int.le_of_lt hp)
    rw [Int.sub_mul]
    rw [p40] at *
    have e1 : (N * 1099511627776 + j) * un = N * un * 1099511627776 + j * un := by rw [Int.add_mul, Int.mul_right_comm]
    omega
  have b2 : -((j : Int) * un) ≤ (kv x - kv y) * pw 40 := by
    have a1 := h'.hi
    have a2 := Int.mul_le_mul_of_nonneg_right h.lo (Int.le_of_lt hp)
    rw [Int.sub_mul]
    rw [p40] at *
    have e1 : (N * 1099511627776 + j) * un = N * un * 1099511627776 + j * un := by rw [Int.add_mul, Int.mul_right_comm]
    omega
  have ju : (j : Int) * un ≤ 100 * un := Int.mul_le_mul_of_nonneg_right (by omega) (Int.le_of_lt hu)
  obtain ⟨a, a1, a2, a3⟩ := rep_int (N := 128) (e := 40) (by decide) (by decide)
  obtain ⟨b, c1, c2, c3⟩ := rep_int (N := -128) (e := 40) (by decide) (by decide)
  have ha : a < ix 4472406533629990549 := by
    have h1 : rk a * pw 40 < rk (ix 4472406533629990549) * pw 40 := by
      rw [a3]; decide +kernel
    have h2 : rk a < rk (ix 4472406533629990549) := Int.lt_of_mul_lt_mul_right h1 (Int.le_of_lt hp)
    by_cases c : a < ix 4472406533629990549
    · exact c
    · have := rk_le (show ix 4472406533629990549 ≤ a by omega); omega
  have hb : ix 13695778570484766357 < b := by
    have h1 : rk (ix 13695778570484766357) * pw 40 < rk b * pw 40 := by
      rw [c3]; decide +kernel
    have h2 : rk (ix 13695778570484766357) < rk b := Int.lt_of_mul_lt_mul_right h1 (Int.le_of_lt hp)
    by_cases c : ix 13695778570484766357 < b
    · exact c
    · have := rk_le (show b ≤ ix 13695778570484766357 by omega); omega
  have hle : ix (fop .sub .f64 x y) ≤ a := by
    refine hr.2.le (by decide) (by omega) (by omega) ?_
    rw [Int.natCast_one, Int.mul_one]
    have h1 : (kv x - kv y) * pw 40 ≤ rk a * pw 40 := by rw [a3]; omega
    exact Int.le_of_mul_le_mul_right h1 hp
  have hge : b ≤ ix (fop .sub .f64 x y) := by
    refine hr.2.ge (by decide) (by omega) (by omega) ?_
    rw [Int.natCast_one, Int.mul_one]
    have h1 : rk b * pw 40 ≤ (kv x - kv y) * pw 40 := by rw [c3]; omega
    exact Int.le_of_mul_le_mul_right h1 hp
  exact ⟨by omega, by omega, hr.nn⟩

/-! anywhere in memory -/
theorem oC_eq (n : Nat) (σ : Nat → Nat) : ∀ m, m ≤ n → oCells n σ m = (List.range' (n - m) m).map fun i => .slice (some ⟨σ i, 0, none⟩) n n
  | 0, _ => rfl
  | m + 1, h => by
    show _ :: oCells n σ m = _
    rw [oC_eq n σ m (by omega), List.range'_succ, List.map_cons, show n - (m + 1) + 1 = n - m by omega]
theorem norm_at {n : Nat} {f : FuncId} {H2 H1 : AHeap} {x : Nat} {M : Nat → Nat → P2} {bt : Nat} {rb : Nat → Nat} {ow : Bool} (hx : ∃ bs, Runs Try.prog f #[.slice (some ⟨n, 0, none⟩) n n] H2 (.float .f64 x) (H2 ++ bs))
    (hr : ∀ i, i < n → H2[i]? = some (rBlk false n (M i))) (ht : H2[n]? = some (oBlk false n idN)) (hs : H2.size = n + 1)
    (gr : ∀ i, i < n → ∃ B, H1[rb i]? = some (some B) ∧ RelK (n + 1) (fun b => if b < n then rb b else bt) ⟨(cells n (M i) n).toArray, 29, 2, false⟩ B) (gt : ∃ B, H1[bt]? = some (some B) ∧ RelK (n + 1) (fun b => if b < n then rb b else bt) ⟨(oCells n idN n).toArray, 26, 1, false⟩ B)
    (hi : ∀ i j, i < n → j < n → rb i = rb j → i = j) (hb : ∀ i, i < n → rb i ≠ bt) : Runs Try.prog f #[.slice (some ⟨bt, 0, none⟩) n n] H1 (.float .f64 x) H1 := by
  obtain ⟨bs, hx⟩ := hx
  have cs : ∀ (b : Nat) (B : ABlk), H2[b]? = some (some B) → (b < n ∧ B = ⟨(cells n (M b) n).toArray, 29, 2, false⟩) ∨ (b = n ∧ B = ⟨(oCells n idN n).toArray, 26, 1, false⟩) := by
    intro b B h
    have hlt := lt_of_get h
    by_cases c : b < n
    · rw [hr b c] at h
      injection h with h; injection h with h
      exact .inl ⟨c, h.symm⟩
    · have : b = n := by omega
      subst this
      rw [ht] at h
      injection h with h; injection h with h
      exact .inr ⟨rfl, h.symm⟩
  have hf : AllFrozen H2 := by
    intro b B h
    rcases cs b B h with ⟨_, rfl⟩ | ⟨_, rfl⟩ <;> rfl
  have rs : RelS 0 (fun b => if b < n then rb b else bt) [.slice (some ⟨n, 0, none⟩) n n] H2 [.slice (some ⟨bt, 0, none⟩) n n] H1 := by
    refine rel2 rfl (fun i v2 v1 h2 h1 => ?_) (fun b B h => ?_) (fun b b' B B' h h' he => ?_)
    · match i, h2, h1 with
      | 0, h2, h1 =>
        injection h2 with h2; injection h1 with h1
        subst h2 h1
        exact .slice n bt 0 none _ _ _ (by omega) (if_neg (Nat.lt_irrefl n))
      | i + 1, h2, _ => simp at h2
    · rw [hs]
      rcases cs b B h with ⟨c, rfl⟩ | ⟨rfl, rfl⟩
      · simp only [if_pos c]
        exact gr b c
      · simp only [if_neg (Nat.lt_irrefl b)]
        exact gt
    · rcases cs b B h with ⟨c, _⟩ | ⟨rfl, _⟩ <;> rcases cs b' B' h' with ⟨c', _⟩ | ⟨rfl, _⟩
      · simp only [if_pos c, if_pos c'] at he
        exact hi _ _ c c' he
      · simp only [if_pos c, if_neg (Nat.lt_irrefl b')] at he
        exact absurd he (hb _ c)
      · simp only [if_pos c', if_neg (Nat.lt_irrefl b)] at he
        exact absurd he.symm (hb _ c')
      · rfl
  exact Runs.view hx hf rfl rs

end Go.Proofs.Ytdlinjijccnaeaa
