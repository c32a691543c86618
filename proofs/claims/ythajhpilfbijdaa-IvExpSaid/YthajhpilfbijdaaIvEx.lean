/- The bound of e to the x as a plain function of words; it rises. -/
import Derived.Test.YthajhpilfbijdaaMemR
namespace Go.Proofs.Ythajhpilfbijdaa
open Go
set_option linter.unusedVariables false
set_option linter.unusedSimpArgs false
set_option maxRecDepth 100000

def c1024 : Nat := 4652218415073722368
def c1w : Nat := 4607182418800017408
def c16 : Nat := 4625196817309499392
def c64 : Nat := 4634204016564240384
def sqC (y : P2) : P2 := (dn (fop .mul .f64 y.1 y.1), up (fop .mul .f64 y.2 y.2))
def ezU (x : Nat) : P2 := (dn (fop .sub .f64 c1w (up (fop .quo .f64 x c1024))), up (fop .sub .f64 c1w (dn (fop .quo .f64 x c1024))))
def ezY (u : P2) : P2 := (dn (fop .quo .f64 c1w u.2), up (fop .quo .f64 c1w u.1))
def itC : Nat → P2 → P2
  | 0, y => y
  | n + 1, y => itC n (sqC y)
def ezC (x : Nat) : Nat := (itC 10 (ezY (ezU x))).2

instance (b : Nat) : Decidable (Fi b) := inferInstanceAs (Decidable (_ ∧ _ ∧ _))
theorem ix_inj {x y : Nat} (h : 0 < ix x) (e : ix x = ix y) : x = y := by
  have hx : x < 9223372036854775808 := by
    by_cases c : x < 9223372036854775808
    · exact c
    · rw [ix_neg c] at h; omega
  have hy : y < 9223372036854775808 := by
    by_cases c : y < 9223372036854775808
    · exact c
    · rw [e, ix_neg c] at h; omega
  rw [ix_pos hx, ix_pos hy] at e
  omega
theorem fiBt {x lo hi : Nat} (hx : NN x) (hl : Fi lo) (hh : Fi hi) (h1 : ix lo ≤ ix x) (h2 : ix x ≤ ix hi) : Fi x := ⟨hx.1, Int.lt_of_lt_of_le hl.2.1 h1, Int.lt_of_le_of_lt h2 hh.2.2⟩
theorem dn_up_mono {s t : Nat} (hs : Fi s) (ht : Fi t) (h : ix s ≤ ix t) : ix (dn s) ≤ ix (dn t) ∧ ix (up s) ≤ ix (up t) ∧ ix (dn s) ≤ ix (up t) := by
  obtain ⟨_, a⟩ := dn_ix hs.nn
  obtain ⟨_, b⟩ := dn_ix ht.nn
  obtain ⟨_, c⟩ := up_ix hs.nn
  obtain ⟨_, d⟩ := up_ix ht.nn
  have := hs.2; have := ht.2
  rw [if_neg (by omega)] at a b c d
  omega
theorem sq_mono {p q r s : Nat} (hp : Fi p) (hq : Fi q) (hr : Fi r) (hs : Fi s) (p0 : 0 ≤ ix p) (q0 : 0 ≤ ix q) (h1 : ix p ≤ ix r) (h2 : ix q ≤ ix s) : ix (fop .mul .f64 p q) ≤ ix (fop .mul .f64 r s) := by
  refine (mul_rd hp hq).2.mono un_pos un_pos (mul_rd hr hs).2 ?_
  have k0 : ∀ {x : Nat}, 0 ≤ ix x → 0 ≤ kv x := fun {x} h => by have := rk_le h; rw [rk_zero] at this; exact this
  have a := rk_le h1
  have b := rk_le h2
  have c : kv p * kv q ≤ kv r * kv s := Int.mul_le_mul a b (k0 q0) (Int.le_trans (k0 p0) a)
  exact Int.mul_le_mul_of_nonneg_right c (Int.natCast_nonneg _)
/-- Between two of which the lower one's ends are above 0. -/
structure Btw3 (A y B : P2) : Prop where
  fa : Fi A.1
  fb : Fi B.2
  f1 : Fi y.1
  f2 : Fi y.2
  pa : 0 < ix A.1
  l : ix A.1 ≤ ix y.1
  m : ix y.1 ≤ ix y.2
  h : ix y.2 ≤ ix B.2
theorem sel_t {a b : Nat} {c : Prop} [Decidable c] (h : c) : sel (decide c) a b = a := by rw [decide_eq_true h]; rfl
theorem sel_f {a b : Nat} {c : Prop} [Decidable c] (h : ¬ c) : sel (decide c) a b = b := by rw [decide_eq_false h]; rfl
theorem hiB_eq {x y : Nat} (h0 : 0 < ix x) (h : ix y ≤ ix x) : hiB x y = x := by
  unfold hiB
  by_cases c : ix y < ix x
  · exact sel_t c
  · rw [sel_f c]
    exact (ix_inj h0 (by omega)).symm
theorem loB_eq {x y : Nat} (h : ix y ≤ ix x) : loB x y = y := by
  unfold loB
  exact sel_f (by omega)
/-- A step: the square. -/
theorem Btw3.sq {A y B : P2} (h : Btw3 A y B) (ha : Fi (fop .mul .f64 A.1 A.1)) (hb : Fi (fop .mul .f64 B.2 B.2)) (ha1 : 0 < ix (dn (fop .mul .f64 A.1 A.1))) (hb1 : Fi (up (fop .mul .f64 B.2 B.2))) :
    mulP y y = sqC y ∧ Btw3 (sqC A) (sqC y) (sqC B) := by
  have y1 : 0 < ix y.1 := Int.lt_of_lt_of_le h.pa h.l
  have y2 : 0 < ix y.2 := Int.lt_of_lt_of_le y1 h.m
  have e0 := sq_mono h.fa h.fa h.f1 h.f1 (by have := h.pa; omega) (by have := h.pa; omega) h.l h.l
  have e1 := sq_mono h.f1 h.f1 h.f1 h.f2 (by omega) (by omega) (Int.le_refl _) h.m
  have e2 := sq_mono h.f1 h.f2 h.f2 h.f2 (by omega) (by omega) h.m (Int.le_refl _)
  have e3 := sq_mono h.f2 h.f2 h.fb h.fb (by omega) (by omega) h.h h.h
  have e1' := sq_mono h.f1 h.f1 h.f2 h.f1 (by omega) (by omega) h.m (Int.le_refl _)
  have e2' := sq_mono h.f2 h.f1 h.f2 h.f2 (by omega) (by omega) (Int.le_refl _) h.m
  have nA := (mul_rd h.f1 h.f1).nn
  have nB := (mul_rd h.f1 h.f2).nn
  have nC := (mul_rd h.f2 h.f1).nn
  have nD := (mul_rd h.f2 h.f2).nn
  have fA : Fi (fop .mul .f64 y.1 y.1) := fiBt nA ha hb e0 (by omega)
  have fD : Fi (fop .mul .f64 y.2 y.2) := fiBt nD ha hb (by omega) e3
  have m1 := dn_up_mono ha fA e0
  have m2 := dn_up_mono fA fD (by omega)
  have m3 := dn_up_mono fD hb e3
  have pA : 0 < ix (fop .mul .f64 y.1 y.1) := by
    have := (dn_ix ha.nn).2
    have := ha.2
    rw [if_neg (by omega)] at *
    omega
  refine ⟨?_, ?_, hb1, ?_, ?_, ha1, m1.1, m2.2.2, m3.2.1⟩
  · have := spanP_eq nA nB nC nD
    unfold mulP
    rw [this]
    rw [loB_eq e1, loB_eq e1', loB_eq (Int.le_trans e1 e2)]
    have i1 : ix (hiB (fop .mul .f64 y.1 y.2) (fop .mul .f64 y.1 y.1)) ≤ ix (fop .mul .f64 y.2 y.2) := by
      unfold hiB
      by_cases c : ix (fop .mul .f64 y.1 y.1) < ix (fop .mul .f64 y.1 y.2)
      · rw [sel_t c]; exact e2
      · rw [sel_f c]; omega
    have i2 : ix (hiB (fop .mul .f64 y.2 y.1) (hiB (fop .mul .f64 y.1 y.2) (fop .mul .f64 y.1 y.1))) ≤ ix (fop .mul .f64 y.2 y.2) := by
      generalize hiB (fop .mul .f64 y.1 y.2) (fop .mul .f64 y.1 y.1) = t at i1
      unfold hiB
      by_cases c : ix t < ix (fop .mul .f64 y.2 y.1)
      · rw [sel_t c]; exact e2'
      · rw [sel_f c]; exact i1
    rw [hiB_eq (by omega) i2]
    rfl
  · exact ⟨(dn_ix ha.nn).1.1, Int.lt_trans (by decide) ha1, Int.lt_of_le_of_lt (Int.le_trans m1.1 (Int.le_trans m2.2.2 m3.2.1)) hb1.2.2⟩
  · exact fiBt (dn_ix fA.nn).1 ⟨(dn_ix ha.nn).1.1, Int.lt_trans (by decide) ha1, Int.lt_of_le_of_lt (Int.le_trans m1.1 (Int.le_trans m2.2.2 m3.2.1)) hb1.2.2⟩ hb1 m1.1 (Int.le_trans m2.2.2 m3.2.1)
  · exact fiBt (up_ix fD.nn).1 ⟨(dn_ix ha.nn).1.1, Int.lt_trans (by decide) ha1, Int.lt_of_le_of_lt (Int.le_trans m1.1 (Int.le_trans m2.2.2 m3.2.1)) hb1.2.2⟩ hb1 (Int.le_trans m1.1 m2.2.2) m3.2.1

/-- The two that are farthest out: so many steps from them may be made. -/
def okC : Nat → P2 → P2 → Bool
  | 0, _, _ => true
  | n + 1, A, B => decide (Fi (fop .mul .f64 A.1 A.1)) && decide (Fi (fop .mul .f64 B.2 B.2)) && decide (0 < ix (dn (fop .mul .f64 A.1 A.1))) && decide (Fi (up (fop .mul .f64 B.2 B.2))) && okC n (sqC A) (sqC B)
def itP : Nat → P2 → P2
  | 0, y => y
  | n + 1, y => itP n (mulP y y)
theorem itP_eq : ∀ (n : Nat) {A y B : P2}, okC n A B = true → Btw3 A y B → itP n y = itC n y ∧ Btw3 (itC n A) (itC n y) (itC n B)
  | 0, A, y, B, _, h => ⟨rfl, h⟩
  | n + 1, A, y, B, ho, h => by
    unfold okC at ho
    simp only [Bool.and_eq_true, decide_eq_true_eq] at ho
    obtain ⟨⟨⟨⟨h1, h2⟩, h3⟩, h4⟩, h5⟩ := ho
    obtain ⟨e, hb⟩ := h.sq h1 h2 h3 h4
    have := itP_eq n h5 hb
    unfold itP itC
    rw [e]
    exact this
/-- The step's ends rise. -/
theorem itC_mono : ∀ (n : Nat) {A y B y' : P2}, okC n A B = true → Btw3 A y B → Btw3 A y' B → ix y.2 ≤ ix y'.2 → ix (itC n y).2 ≤ ix (itC n y').2
  | 0, A, y, B, y', _, _, _, h => h
  | n + 1, A, y, B, y', ho, hy, hy', h => by
    unfold okC at ho
    simp only [Bool.and_eq_true, decide_eq_true_eq] at ho
    obtain ⟨⟨⟨⟨h1, h2⟩, h3⟩, h4⟩, h5⟩ := ho
    have b := (hy.sq h1 h2 h3 h4).2
    have b' := (hy'.sq h1 h2 h3 h4).2
    unfold itC
    refine itC_mono n h5 b b' ?_
    have y2 : 0 < ix y.2 := Int.lt_of_lt_of_le hy.pa (Int.le_trans hy.l hy.m)
    have e := sq_mono hy.f2 hy.f2 hy'.f2 hy'.f2 (by omega) (by omega) h h
    have f1 : Fi (fop .mul .f64 y.2 y.2) := fiBt (mul_rd hy.f2 hy.f2).nn h1 h2 (sq_mono hy.fa hy.fa hy.f2 hy.f2 (by have := hy.pa; omega) (by have := hy.pa; omega) (Int.le_trans hy.l hy.m) (Int.le_trans hy.l hy.m)) (sq_mono hy.f2 hy.f2 hy.fb hy.fb (by omega) (by omega) hy.h hy.h)
    have y2' : 0 < ix y'.2 := Int.lt_of_lt_of_le hy'.pa (Int.le_trans hy'.l hy'.m)
    have f2 : Fi (fop .mul .f64 y'.2 y'.2) := fiBt (mul_rd hy'.f2 hy'.f2).nn h1 h2 (sq_mono hy'.fa hy'.fa hy'.f2 hy'.f2 (by have := hy'.pa; omega) (by have := hy'.pa; omega) (Int.le_trans hy'.l hy'.m) (Int.le_trans hy'.l hy'.m)) (sq_mono hy'.f2 hy'.f2 hy'.fb hy'.fb (by omega) (by omega) hy'.h hy'.h)
    exact (dn_up_mono f1 f2 e).2.1

/-! its beginning -/
def xLo : Nat := fop .quo .f64 (F (-8000)) c64
def xHi : Nat := fop .quo .f64 (F 8045) c64
theorem quo_le {p q r s : Nat} (hp : Fi p) (hq : Fi q) (hr : Fi r) (hs : Fi s) (q0 : 0 < ix q) (s0 : 0 < ix s) (h : kv p * kv s ≤ kv r * kv q) : ix (fop .quo .f64 p q) ≤ ix (fop .quo .f64 r s) := by
  have a := quo_rd hp hq (by have := kv_pos.2 q0; omega)
  have b := quo_rd hr hs (by have := kv_pos.2 s0; omega)
  have kq := kv_pos.2 q0
  have ks := kv_pos.2 s0
  have na : ((kv q).natAbs : Int) = kv q := Int.natAbs_of_nonneg (Int.le_of_lt kq)
  have nb : ((kv s).natAbs : Int) = kv s := Int.natAbs_of_nonneg (Int.le_of_lt ks)
  rw [if_neg (by omega), Int.mul_one] at a b
  refine a.2.mono (by omega) (by omega) b.2 ?_
  rw [na, nb]
  have := Int.mul_le_mul_of_nonneg_right h (Int.natCast_nonneg un)
  calc kv p * ↑un * kv s = kv p * kv s * ↑un := by rw [Int.mul_assoc, Int.mul_comm (↑un) (kv s), ← Int.mul_assoc]
    _ ≤ kv r * kv q * ↑un := this
    _ = kv r * ↑un * kv q := by rw [Int.mul_assoc, Int.mul_comm (kv q) (↑un), ← Int.mul_assoc]
theorem sub_le' {p q r s : Nat} (hp : Fi p) (hq : Fi q) (hr : Fi r) (hs : Fi s) (h : kv p - kv q ≤ kv r - kv s) : ix (fop .sub .f64 p q) ≤ ix (fop .sub .f64 r s) := by
  refine (sub_rd hp hq).2.mono (by decide) (by decide) (sub_rd hr hs).2 ?_
  omega
theorem c_fi : Fi c1024 ∧ Fi c1w ∧ 0 < ix c1024 := ⟨⟨by decide +kernel, by decide +kernel, by decide +kernel⟩, ⟨by decide +kernel, by decide +kernel, by decide +kernel⟩, by decide +kernel⟩
theorem q_lo : Fi (fop .quo .f64 xLo c1024) ∧ Fi (fop .quo .f64 xHi c1024) ∧ Fi xLo ∧ Fi xHi := ⟨⟨by decide +kernel, by decide +kernel, by decide +kernel⟩, ⟨by decide +kernel, by decide +kernel, by decide +kernel⟩, ⟨by decide +kernel, by decide +kernel, by decide +kernel⟩, ⟨by decide +kernel, by decide +kernel, by decide +kernel⟩⟩
theorem nnQ {x y : Nat} (hx : Fi x) (hy : Fi y) (h : 0 < ix y) : NN (fop .quo .f64 x y) := (quo_rd hx hy (by have := kv_pos.2 h; omega)).nn
theorem span1 {q : Nat} (h : NN q) : spanP q q q q = (dn q, up q) := by
  have e1 : loB q q = q := loB_eq (Int.le_refl _)
  have e2 : hiB q q = q := by unfold hiB; exact sel_f (by omega)
  rw [spanP_eq h h h h, e1, e1, e1, e2, e2, e2]
theorem span2 {a b : Nat} (ha : NN a) (hb : NN b) (h0 : 0 < ix b) (h : ix b ≤ ix a) : spanP a b a b = (dn b, up a) := by
  have e1 : loB b a = b := by
    unfold loB
    by_cases c : ix b < ix a
    · exact sel_t c
    · rw [sel_f c]; exact (ix_inj h0 (by omega)).symm
  have e2 : loB a b = b := loB_eq h
  have e3 : loB b b = b := loB_eq (Int.le_refl _)
  have e4 : hiB b a = a := by unfold hiB; exact sel_f (by omega)
  have e5 : hiB a a = a := by unfold hiB; exact sel_f (by omega)
  rw [spanP_eq ha hb ha hb, e1, e2, e3, e4, e5, e4]
theorem q_bd : -4600000000000000000 ≤ ix (fop .quo .f64 xLo c1024) ∧ ix (fop .quo .f64 xHi c1024) ≤ 4600000000000000000 := ⟨by decide +kernel, by decide +kernel⟩
theorem u_bd : 4600000000000000000 ≤ ix (fop .sub .f64 c1w (up (fop .quo .f64 xHi c1024))) ∧ ix (fop .sub .f64 c1w (dn (fop .quo .f64 xLo c1024))) ≤ 4610000000000000000 := ⟨by decide +kernel, by decide +kernel⟩
theorem y_bd : 4600000000000000000 ≤ ix (fop .quo .f64 c1w (ezU xLo).2) ∧ ix (fop .quo .f64 c1w (ezU xHi).1) ≤ 4610000000000000000 := ⟨by decide +kernel, by decide +kernel⟩
theorem fi_bd {x : Nat} (h : NN x) (h1 : -5000000000000000000 ≤ ix x) (h2 : ix x ≤ 5000000000000000000) : Fi x := ⟨h.1, by omega, by omega⟩
/-- One less, one more. -/
theorem dn_fi {x : Nat} (h : Fi x) : NN (dn x) ∧ ix (dn x) = ix x - 1 := by
  obtain ⟨a, b⟩ := dn_ix h.nn
  have := h.2
  rw [if_neg (by omega)] at b
  exact ⟨a, b⟩
theorem up_fi {x : Nat} (h : Fi x) : NN (up x) ∧ ix (up x) = ix x + 1 := by
  obtain ⟨a, b⟩ := up_ix h.nn
  have := h.2
  rw [if_neg (by omega)] at b
  exact ⟨a, b⟩
/-- What rises, and what falls. -/
theorem ez_q {x x' : Nat} (hx : Fi x) (hx' : Fi x') (h : ix x ≤ ix x') : ix (fop .quo .f64 x c1024) ≤ ix (fop .quo .f64 x' c1024) := by
  refine quo_le hx c_fi.1 hx' c_fi.1 c_fi.2.2 c_fi.2.2 ?_
  exact Int.mul_le_mul_of_nonneg_right (rk_le h) (Int.le_of_lt (kv_pos.2 c_fi.2.2))
structure EzQ (x : Nat) : Prop where
  fx : Fi x
  fq : Fi (fop .quo .f64 x c1024)
  lo : ix (fop .quo .f64 xLo c1024) ≤ ix (fop .quo .f64 x c1024)
  hi : ix (fop .quo .f64 x c1024) ≤ ix (fop .quo .f64 xHi c1024)
  fd : Fi (dn (fop .quo .f64 x c1024))
  fu : Fi (up (fop .quo .f64 x c1024))
theorem ezQ {x : Nat} (hx : NN x) (h1 : ix xLo ≤ ix x) (h2 : ix x ≤ ix xHi) : EzQ x := by
  have fx := fiBt hx q_lo.2.2.1 q_lo.2.2.2 h1 h2
  have a := ez_q q_lo.2.2.1 fx h1
  have b := ez_q fx q_lo.2.2.2 h2
  have nq := nnQ fx c_fi.1 c_fi.2.2
  have fq := fiBt nq q_lo.1 q_lo.2.1 a b
  obtain ⟨d1, d2⟩ := dn_fi fq
  obtain ⟨e1, e2⟩ := up_fi fq
  have g := q_bd
  exact ⟨fx, fq, a, b, fi_bd d1 (by omega) (by omega), fi_bd e1 (by omega) (by omega)⟩
theorem xLo_q : EzQ xLo := ezQ q_lo.2.2.1.nn (Int.le_refl _) (by decide +kernel)
theorem xHi_q : EzQ xHi := ezQ q_lo.2.2.2.nn (by decide +kernel) (Int.le_refl _)
/-- Of a lesser one the second is no less. -/
theorem ezU_mono {x x' : Nat} (h : EzQ x) (h' : EzQ x') (hle : ix (fop .quo .f64 x c1024) ≤ ix (fop .quo .f64 x' c1024)) :
    ix (fop .sub .f64 c1w (up (fop .quo .f64 x' c1024))) ≤ ix (fop .sub .f64 c1w (up (fop .quo .f64 x c1024))) ∧ ix (fop .sub .f64 c1w (dn (fop .quo .f64 x' c1024))) ≤ ix (fop .sub .f64 c1w (dn (fop .quo .f64 x c1024))) ∧ ix (fop .sub .f64 c1w (up (fop .quo .f64 x c1024))) ≤ ix (fop .sub .f64 c1w (dn (fop .quo .f64 x c1024))) := by
  obtain ⟨_, d2⟩ := dn_fi h.fq
  obtain ⟨_, e2⟩ := up_fi h.fq
  obtain ⟨_, d2'⟩ := dn_fi h'.fq
  obtain ⟨_, e2'⟩ := up_fi h'.fq
  have k1 : kv (up (fop .quo .f64 x c1024)) ≤ kv (up (fop .quo .f64 x' c1024)) := rk_le (by omega)
  have k2 : kv (dn (fop .quo .f64 x c1024)) ≤ kv (dn (fop .quo .f64 x' c1024)) := rk_le (by omega)
  have k3 : kv (dn (fop .quo .f64 x c1024)) ≤ kv (up (fop .quo .f64 x c1024)) := rk_le (by omega)
  exact ⟨sub_le' c_fi.2.1 h'.fu c_fi.2.1 h.fu (by omega), sub_le' c_fi.2.1 h'.fd c_fi.2.1 h.fd (by omega), sub_le' c_fi.2.1 h.fu c_fi.2.1 h.fd (by omega)⟩
structure EzU (x : Nat) : Prop where
  q : EzQ x
  f1 : Fi (ezU x).1
  f2 : Fi (ezU x).2
  lo : ix (ezU xHi).1 ≤ ix (ezU x).1
  mid : ix (ezU x).1 ≤ ix (ezU x).2
  hi : ix (ezU x).2 ≤ ix (ezU xLo).2
  p : 4500000000000000000 ≤ ix (ezU x).1
  r : ix (ezU x).2 ≤ 4700000000000000000
  e1 : divP (x, x) (c1024, c1024) = (dn (fop .quo .f64 x c1024), up (fop .quo .f64 x c1024))
  e2 : subP (c1w, c1w) (dn (fop .quo .f64 x c1024), up (fop .quo .f64 x c1024)) = ezU x
theorem ezU_ok {x : Nat} (h : EzQ x) : EzU x := by
  obtain ⟨a1, a2, a3⟩ := ezU_mono h xHi_q h.hi
  obtain ⟨b1, b2, b3⟩ := ezU_mono xLo_q h h.lo
  have g := u_bd
  have n1 := (sub_rd c_fi.2.1 h.fu).nn
  have n2 := (sub_rd c_fi.2.1 h.fd).nn
  have f1 := fi_bd n1 (by omega) (by omega)
  have f2 := fi_bd n2 (by omega) (by omega)
  have fH := fi_bd (sub_rd c_fi.2.1 xHi_q.fu).nn (by omega) (by omega)
  have fL := fi_bd (sub_rd c_fi.2.1 xLo_q.fd).nn (by omega) (by omega)
  obtain ⟨c1, c2⟩ := dn_fi f1
  obtain ⟨d1, d2⟩ := up_fi f2
  obtain ⟨_, e2⟩ := dn_fi fH
  obtain ⟨_, e3⟩ := up_fi fL
  have E1 : ix (ezU x).1 = ix (dn (fop .sub .f64 c1w (up (fop .quo .f64 x c1024)))) := rfl
  have E2 : ix (ezU x).2 = ix (up (fop .sub .f64 c1w (dn (fop .quo .f64 x c1024)))) := rfl
  have E3 : ix (ezU xHi).1 = ix (dn (fop .sub .f64 c1w (up (fop .quo .f64 xHi c1024)))) := rfl
  have E4 : ix (ezU xLo).2 = ix (up (fop .sub .f64 c1w (dn (fop .quo .f64 xLo c1024)))) := rfl
  refine ⟨h, fi_bd (x := (ezU x).1) c1 (by omega) (by omega), fi_bd (x := (ezU x).2) d1 (by omega) (by omega), by omega, by omega, by omega, by omega, by omega, ?_, ?_⟩
  · unfold divP
    rw [decide_eq_false (by have := c_fi.2.2; intro hh; exact absurd hh.1 (by show ¬ ix c1024 ≤ 0; omega))]
    exact span1 h.fq.nn
  · have hle : ix (dn (fop .sub .f64 c1w (up (fop .quo .f64 x c1024)))) ≤ ix (up (fop .sub .f64 c1w (dn (fop .quo .f64 x c1024)))) := by omega
    exact outP_eq n1 n2 hle
theorem ezY_ok {x : Nat} (h : EzU x) : divP (c1w, c1w) (ezU x) = ezY (ezU x) ∧ Btw3 (ezY (ezU xLo)) (ezY (ezU x)) (ezY (ezU xHi)) := by
  have hL := ezU_ok xLo_q
  have hH := ezU_ok xHi_q
  have p1 := h.p
  have m := h.mid
  have k1 : 0 ≤ kv c1w := Int.le_of_lt (kv_pos.2 (by decide +kernel))
  have qm : ∀ {u v : Nat}, Fi u → Fi v → 0 < ix u → ix u ≤ ix v → ix (fop .quo .f64 c1w v) ≤ ix (fop .quo .f64 c1w u) := fun {u v} fu fv h0 hle =>
    quo_le c_fi.2.1 fv c_fi.2.1 fu (by omega) h0 (Int.mul_le_mul_of_nonneg_left (rk_le hle) k1)
  have g := y_bd
  have n1 := nnQ c_fi.2.1 h.f1 (by omega)
  have n2 := nnQ c_fi.2.1 h.f2 (by omega)
  have s1 := qm h.f1 h.f2 (by omega) m
  have s2 := qm h.f2 hL.f2 (by omega) h.hi
  have s3 := qm hH.f1 h.f1 (by have := hH.p; omega) h.lo
  have f1 := fi_bd n1 (by omega) (by omega)
  have f2 := fi_bd n2 (by omega) (by omega)
  have fL := fi_bd (nnQ c_fi.2.1 hL.f2 (by have := hL.p; have := hL.mid; omega)) (by omega) (by omega)
  have fH := fi_bd (nnQ c_fi.2.1 hH.f1 (by have := hH.p; omega)) (by omega) (by omega)
  obtain ⟨a1, a2⟩ := dn_fi fL
  obtain ⟨b1, b2⟩ := up_fi fH
  obtain ⟨c1, c2⟩ := dn_fi f2
  obtain ⟨d1, d2⟩ := up_fi f1
  have E1 : ix (ezY (ezU x)).1 = ix (dn (fop .quo .f64 c1w (ezU x).2)) := rfl
  have E2 : ix (ezY (ezU x)).2 = ix (up (fop .quo .f64 c1w (ezU x).1)) := rfl
  have E3 : ix (ezY (ezU xLo)).1 = ix (dn (fop .quo .f64 c1w (ezU xLo).2)) := rfl
  have E4 : ix (ezY (ezU xHi)).2 = ix (up (fop .quo .f64 c1w (ezU xHi).1)) := rfl
  refine ⟨?_, fi_bd (x := (ezY (ezU xLo)).1) a1 (by omega) (by omega), fi_bd (x := (ezY (ezU xHi)).2) b1 (by omega) (by omega), fi_bd (x := (ezY (ezU x)).1) c1 (by omega) (by omega), fi_bd (x := (ezY (ezU x)).2) d1 (by omega) (by omega), by omega, by omega, by omega, by omega⟩
  · unfold divP
    rw [decide_eq_false (fun hh => absurd hh.1 (by omega))]
    have g2 := g.1
    have n2' : 0 < ix (fop .quo .f64 c1w (ezU x).2) := by omega
    exact span2 n1 n2 n2' s1
theorem okC10 : okC 10 (ezY (ezU xLo)) (ezY (ezU xHi)) = true := by decide +kernel
/-- THE BOUND RISES. -/
theorem ezC_mono {x x' : Nat} (hx : NN x) (hx' : NN x') (h1 : ix xLo ≤ ix x) (h : ix x ≤ ix x') (h2 : ix x' ≤ ix xHi) : ix (ezC x) ≤ ix (ezC x') := by
  have q := ezQ hx h1 (Int.le_trans h h2)
  have q' := ezQ hx' (Int.le_trans h1 h) h2
  have u := ezU_ok q
  have u' := ezU_ok q'
  refine itC_mono 10 okC10 (ezY_ok u).2 (ezY_ok u').2 ?_
  have a := (ezU_mono q q' (ez_q q.fx q'.fx h)).1
  have n1 := fi_bd (sub_rd c_fi.2.1 q.fu).nn (by have := u.p; obtain ⟨_, c⟩ := dn_ix (sub_rd c_fi.2.1 q.fu).nn; have : ix (ezU x).1 = _ := c; split at this <;> omega) (by have := u.r; have := (ezU_mono q q (Int.le_refl _)).2.2; obtain ⟨_, c⟩ := up_ix (sub_rd c_fi.2.1 q.fd).nn; have : ix (ezU x).2 = _ := c; split at this <;> omega)
  have n2 := fi_bd (sub_rd c_fi.2.1 q'.fu).nn (by have := u'.p; obtain ⟨_, c⟩ := dn_ix (sub_rd c_fi.2.1 q'.fu).nn; have : ix (ezU x').1 = _ := c; split at this <;> omega) (by have := u'.r; have := (ezU_mono q' q' (Int.le_refl _)).2.2; obtain ⟨_, c⟩ := up_ix (sub_rd c_fi.2.1 q'.fd).nn; have : ix (ezU x').2 = _ := c; split at this <;> omega)
  have b := (dn_up_mono n2 n1 a).1
  have k1 : 0 ≤ kv c1w := Int.le_of_lt (kv_pos.2 (by decide +kernel))
  have c : ix (fop .quo .f64 c1w (ezU x).1) ≤ ix (fop .quo .f64 c1w (ezU x').1) := quo_le c_fi.2.1 u.f1 c_fi.2.1 u'.f1 (by have := u.p; omega) (by have := u'.p; omega) (Int.mul_le_mul_of_nonneg_left (rk_le b) k1)
  have y1 := (ezY_ok u).2.f2
  have y2 := (ezY_ok u').2.f2
  have m1 := nnQ c_fi.2.1 u.f1 (by have := u.p; omega)
  have m2 := nnQ c_fi.2.1 u'.f1 (by have := u'.p; omega)
  show ix (up (fop .quo .f64 c1w (ezU x).1)) ≤ ix (up (fop .quo .f64 c1w (ezU x').1))
  obtain ⟨_, e1⟩ := up_ix m1
  obtain ⟨_, e2⟩ := up_ix m2
  rw [e1, e2]
  have := m1.2; have := m2.2
  split <;> split <;> omega
/-- What iv.Exp tells. -/
theorem exp_runs {x : Nat} (hx : NN x) (h1 : ix xLo ≤ ix x) (h2 : ix x ≤ ix xHi) : Runs Try.prog 24 #[.float .f64 x] #[] (.float .f64 (ezC x)) #[] ∧ Fi (ezC x) ∧ 0 < ix (ezC x) := by
  have q := ezQ hx h1 h2
  have u := ezU_ok q
  obtain ⟨e3, b⟩ := ezY_ok u
  obtain ⟨e4, e5⟩ := itP_eq 10 okC10 b
  refine ⟨?_, e5.f2, Int.lt_of_lt_of_le e5.pa (Int.le_trans e5.l e5.m)⟩
  have n1024 := c_fi.1.nn
  have r1 := (div_w (x, x) (Y := (c1024, c1024)) n1024 n1024).1
  have r2 := (sub_w (c1w, c1w) (divP (x, x) (c1024, c1024))).1
  have r3 := (div_w (c1w, c1w) (Y := ezU x) u.f1.nn u.f2.nn).1
  rw [u.e1] at r1 r2
  rw [u.e2] at r2
  rw [e3] at r3
  have sq := fun (y : P2) => (mul_w y y).1
  have e : (ezC x) = (itP 10 (ezY (ezU x))).2 := by rw [e4]; rfl
  rw [e]
  have hr := exp_came x (dn (fop .quo .f64 x c1024), up (fop .quo .f64 x c1024)) (ezU x) (ezY (ezU x)) (itP 1 (ezY (ezU x))) (itP 2 (ezY (ezU x))) (itP 3 (ezY (ezU x))) (itP 4 (ezY (ezU x))) (itP 5 (ezY (ezU x))) (itP 6 (ezY (ezU x))) (itP 7 (ezY (ezU x))) (itP 8 (ezY (ezU x))) (itP 9 (ezY (ezU x))) (itP 10 (ezY (ezU x)))
  have stp : ∀ n y, itP (n + 1) y = mulP (itP n y) (itP n y) := by
    intro n
    induction n with
    | zero => intro y; rfl
    | succ n ih => intro y; rw [itP, ih (mulP y y)]; rfl
  have sqn : ∀ n, Runs Try.prog 21 #[vI (itP n (ezY (ezU x))), vI (itP n (ezY (ezU x)))] #[] (vI (itP (n + 1) (ezY (ezU x)))) #[] := fun n => by rw [stp]; exact sq _
  refine quiet_of hr ⟨(fc _ rfl _ _).trans ((neq_ix hx hx).trans (by rw [decide_eq_false]; intro h; exact h rfl)), (fc _ rfl _ _).trans ((geq_ix hx ⟨by decide +kernel, by decide +kernel, by decide +kernel⟩).trans ?_), r1, r2, r3, sqn 0, sqn 1, sqn 2, sqn 3, sqn 4, sqn 5, sqn 6, sqn 7, sqn 8, sqn 9, trivial⟩ rfl rfl
  have : ix xHi < ix 4647714815446351872 := by decide +kernel
  rw [decide_eq_false (by omega)]

end Go.Proofs.Ythajhpilfbijdaa
