/- What a from-to holds, of rational numbers: sums, differences, products, quotients hold what they must. -/
import Derived.Test.YtdlinjijccnaeaaIvW
import Derived.Test.YtdlinjijccnaeaaBound
namespace Go.Proofs.Ytdlinjijccnaeaa
open Go
set_option linter.unusedVariables false
set_option linter.unusedSimpArgs false

theorem Bd.mul {n m r x y : Nat} (hx : Bd n x) (hy : Bd m y) (hn : 1 ≤ n) (hm : 1 ≤ m) (hn2 : n < 2047) (hm2 : m < 2047) (hr : n + m ≤ r + 1023) (hr1 : 1 ≤ r) (hr2 : r < 2047) : Bd r (fop .mul .f64 x y) := by
  have h := mul_rd (hx.fi hn2) (hy.fi hm2)
  refine ⟨h.1, h.2.abs un_pos (by omega) ?_⟩
  rw [Int.natAbs_mul, rg_bd hr1]
  refine Nat.le_trans (Nat.mul_le_mul hx.kv hy.kv) ?_
  rw [rg_bd hn, rg_bd hm, pw_add]
  show _ ≤ pw (51 + r) * pw 1074
  rw [pw_add]
  exact pw_le (by omega)

theorem un_r : (0 : Rat) < ((un : Nat) : Rat) := by exact_mod_cast un_pos
abbrev uR : Rat := ((un : Nat) : Rat)
abbrev kR (b : Nat) : Rat := ((kv b : Int) : Rat)

/-- Ends that are no more than n binades, and a number between. -/
structure MR (n : Nat) (X : P2) (x : Rat) : Prop where
  bl : Bd n X.1
  bh : Bd n X.2
  lo : kR X.1 ≤ x * uR
  hi : x * uR ≤ kR X.2

theorem MR.mono {n m : Nat} {X : P2} {x : Rat} (h : MR n X x) (hn : n ≤ m) : MR m X x := ⟨h.bl.mono hn, h.bh.mono hn, h.lo, h.hi⟩
theorem MR.cast {n : Nat} {X : P2} {x y : Rat} (h : MR n X x) (e : x = y) : MR n X y := e ▸ h
theorem MR.rt {n : Nat} {X : P2} {x : Rat} (h : MR n X x) (hn : n < 2047) : Rt X := by
  refine ⟨(h.bl.fi hn).nn, (h.bh.fi hn).nn, ?_⟩
  have := Rat.le_trans h.lo h.hi
  have h2 : kv X.1 ≤ kv X.2 := by exact_mod_cast this
  exact rk_le_iff.1 h2

theorem dn_bd {n Q : Nat} {Z : Int} {s : Nat} (hQ : 0 < Q) (h : IsR Q Z s) (hb : Bd n s) (hn : n < 2046) : Bd (n + 1) (dn s) ∧ kv (dn s) * Q ≤ Z := by
  obtain ⟨h1, h2⟩ := hb.dn hn
  refine ⟨h1, ?_⟩
  have := h.2.down hQ (hb.fi (by omega)).2.1
  unfold kv
  rw [h2]
  omega
theorem up_bd {n Q : Nat} {Z : Int} {s : Nat} (hQ : 0 < Q) (h : IsR Q Z s) (hb : Bd n s) (hn : n < 2046) : Bd (n + 1) (up s) ∧ Z ≤ kv (up s) * Q := by
  obtain ⟨h1, h2⟩ := hb.up hn
  refine ⟨h1, ?_⟩
  have := h.2.up hQ (hb.fi (by omega)).2.2
  unfold kv
  rw [h2]
  omega
theorem outP_eq {s t : Nat} (hs : NN s) (ht : NN t) (h : ix (dn s) ≤ ix (up t)) : outP s t = (dn s, up t) := by
  unfold outP
  rw [isN_iff.2 hs, isN_iff.2 ht, decide_eq_true h]
  rfl

theorem MR.out {n : Nat} {s t : Nat} {Z W : Int} {x : Rat} (hs : IsR 1 Z s) (ht : IsR 1 W t) (bs : Bd n s) (bt : Bd n t) (hn : n < 2046) (h1 : (Z : Rat) ≤ x * uR) (h2 : x * uR ≤ (W : Rat)) : MR (n + 1) (outP s t) x := by
  obtain ⟨a1, a2⟩ := dn_bd (by decide) hs bs hn
  obtain ⟨b1, b2⟩ := up_bd (by decide) ht bt hn
  have a3 : kR (dn s) ≤ (Z : Rat) := by
    have : kv (dn s) ≤ Z := by omega
    exact_mod_cast this
  have b3 : (W : Rat) ≤ kR (up t) := by
    have : W ≤ kv (up t) := by omega
    exact_mod_cast this
  have l := Rat.le_trans a3 h1
  have u := Rat.le_trans h2 b3
  have hle : ix (dn s) ≤ ix (up t) := by
    have h3 : kv (dn s) ≤ kv (up t) := by exact_mod_cast Rat.le_trans l u
    exact rk_le_iff.1 h3
  rw [outP_eq hs.nn ht.nn hle]
  exact ⟨a1, b1, l, u⟩

theorem MR.add {n : Nat} {X Y : P2} {x y : Rat} (h : MR n X x) (h' : MR n Y y) (hn : 0 < n) (hn2 : n < 2045) : MR (n + 2) (addP X Y) (x + y) := by
  refine MR.out (n := n + 1) (add_rd (h.bl.fi (by omega)) (h'.bl.fi (by omega))) (add_rd (h.bh.fi (by omega)) (h'.bh.fi (by omega))) (h.bl.add h'.bl hn (by omega)) (h.bh.add h'.bh hn (by omega)) (by omega) ?_ ?_
  · have := h.lo; have := h'.lo
    rw [Rat.intCast_add]
    grind
  · have := h.hi; have := h'.hi
    rw [Rat.intCast_add]
    grind
theorem MR.sub {n : Nat} {X Y : P2} {x y : Rat} (h : MR n X x) (h' : MR n Y y) (hn : 0 < n) (hn2 : n < 2045) : MR (n + 2) (subP X Y) (x - y) := by
  refine MR.out (n := n + 1) (sub_rd (h.bl.fi (by omega)) (h'.bh.fi (by omega))) (sub_rd (h.bh.fi (by omega)) (h'.bl.fi (by omega))) (h.bl.sub h'.bh hn (by omega)) (h.bh.sub h'.bl hn (by omega)) (by omega) ?_ ?_
  · have := h.lo; have := h'.hi
    rw [Rat.intCast_sub]
    grind
  · have := h.hi; have := h'.lo
    rw [Rat.intCast_sub]
    grind

/-- Of numbers between ends a product is between the ends' products. -/
theorem corner_lo {A B C D X Y : Rat} (h1 : A ≤ X) (h2 : X ≤ B) (h3 : C ≤ Y) (h4 : Y ≤ D) : A * C ≤ X * Y ∨ A * D ≤ X * Y ∨ B * C ≤ X * Y ∨ B * D ≤ X * Y := by
  by_cases hy : 0 ≤ Y
  · have e2 := Rat.mul_le_mul_of_nonneg_right h1 hy
    by_cases ha : 0 ≤ A
    · exact .inl (Rat.le_trans (Rat.mul_le_mul_of_nonneg_left h3 ha) e2)
    · have ha' : 0 ≤ -A := by grind
      have := Rat.mul_le_mul_of_nonneg_left h4 ha'
      exact .inr (.inl (by grind))
  · have hy' : 0 ≤ -Y := by grind
    have e2 := Rat.mul_le_mul_of_nonneg_right h2 hy'
    by_cases hb : 0 ≤ B
    · have := Rat.mul_le_mul_of_nonneg_left h3 hb
      exact .inr (.inr (.inl (by grind)))
    · have hb' : 0 ≤ -B := by grind
      have := Rat.mul_le_mul_of_nonneg_left h4 hb'
      exact .inr (.inr (.inr (by grind)))
theorem corner_hi {A B C D X Y : Rat} (h1 : A ≤ X) (h2 : X ≤ B) (h3 : C ≤ Y) (h4 : Y ≤ D) : X * Y ≤ A * C ∨ X * Y ≤ A * D ∨ X * Y ≤ B * C ∨ X * Y ≤ B * D := by
  have := corner_lo (A := -B) (B := -A) (X := -X) (by grind) (by grind) h3 h4
  rcases this with h | h | h | h
  · exact .inr (.inr (.inl (by grind)))
  · exact .inr (.inr (.inr (by grind)))
  · exact .inl (by grind)
  · exact .inr (.inl (by grind))

theorem kv_le {x y : Nat} (h : ix x ≤ ix y) : kv x ≤ kv y := rk_le h

/-- A product's ends, as rational numbers. -/
theorem mul_dn {n : Nat} {a c lo : Nat} {z : Rat} (hb : Bd n (fop .mul .f64 a c)) (hl : Bd n lo) (hn : n < 2046) (ha : Fi a) (hc : Fi c) (hle : ix lo ≤ ix (fop .mul .f64 a c)) (h : kR a * kR c ≤ z * uR * uR) : kR (dn lo) ≤ z * uR := by
  obtain ⟨_, d2⟩ := dn_bd un_pos (mul_rd ha hc) hb hn
  have l1 := (hl.dn hn).2
  have l2 := (hb.dn hn).2
  have h3 : kv (dn lo) ≤ kv (dn (fop .mul .f64 a c)) := kv_le (by omega)
  have h4 : kv (dn lo) * un ≤ kv a * kv c := Int.le_trans (Int.mul_le_mul_of_nonneg_right h3 (Int.natCast_nonneg _)) d2
  have h5 : ((kv (dn lo) : Int) : Rat) * ((un : Nat) : Rat) ≤ ((kv a : Int) : Rat) * ((kv c : Int) : Rat) := by exact_mod_cast h4
  exact Rat.le_of_mul_le_mul_right (Rat.le_trans h5 h) un_r
theorem mul_up {n : Nat} {a c hi : Nat} {z : Rat} (hb : Bd n (fop .mul .f64 a c)) (hl : Bd n hi) (hn : n < 2046) (ha : Fi a) (hc : Fi c) (hle : ix (fop .mul .f64 a c) ≤ ix hi) (h : z * uR * uR ≤ kR a * kR c) : z * uR ≤ kR (up hi) := by
  obtain ⟨_, d2⟩ := up_bd un_pos (mul_rd ha hc) hb hn
  have l1 := (hl.up hn).2
  have l2 := (hb.up hn).2
  have h3 : kv (up (fop .mul .f64 a c)) ≤ kv (up hi) := kv_le (by omega)
  have h4 : kv a * kv c ≤ kv (up hi) * un := Int.le_trans d2 (Int.mul_le_mul_of_nonneg_right h3 (Int.natCast_nonneg _))
  have h5 : ((kv a : Int) : Rat) * ((kv c : Int) : Rat) ≤ ((kv (up hi) : Int) : Rat) * ((un : Nat) : Rat) := by exact_mod_cast h4
  exact Rat.le_of_mul_le_mul_right (Rat.le_trans h h5) un_r

theorem MR.mul {n m r : Nat} {X Y : P2} {x y : Rat} (h : MR n X x) (h' : MR m Y y) (hn : 1 ≤ n) (hm : 1 ≤ m) (hn2 : n < 2047) (hm2 : m < 2047) (hr : n + m ≤ r + 1023) (hr1 : 1 ≤ r) (hr2 : r < 2046) : MR (r + 1) (mulP X Y) (x * y) := by
  have fa := h.bl.fi hn2
  have fb := h.bh.fi hn2
  have fc := h'.bl.fi hm2
  have fd := h'.bh.fi hm2
  have b1 : Bd r (fop .mul .f64 X.1 Y.1) := h.bl.mul h'.bl hn hm hn2 hm2 hr hr1 (by omega)
  have b2 : Bd r (fop .mul .f64 X.1 Y.2) := h.bl.mul h'.bh hn hm hn2 hm2 hr hr1 (by omega)
  have b3 : Bd r (fop .mul .f64 X.2 Y.1) := h.bh.mul h'.bl hn hm hn2 hm2 hr hr1 (by omega)
  have b4 : Bd r (fop .mul .f64 X.2 Y.2) := h.bh.mul h'.bh hn hm hn2 hm2 hr hr1 (by omega)
  have f1 := (b1.fi (by omega)).nn
  have f2 := (b2.fi (by omega)).nn
  have f3 := (b3.fi (by omega)).nn
  have f4 := (b4.fi (by omega)).nn
  have e := ends_of f1 f2 f3 f4
  unfold mulP
  rw [spanP_eq f1 f2 f3 f4]
  generalize loB (fop .mul .f64 X.2 Y.2) (loB (fop .mul .f64 X.2 Y.1) (loB (fop .mul .f64 X.1 Y.2) (fop .mul .f64 X.1 Y.1))) = lo at e ⊢
  generalize hiB (fop .mul .f64 X.2 Y.2) (hiB (fop .mul .f64 X.2 Y.1) (hiB (fop .mul .f64 X.1 Y.2) (fop .mul .f64 X.1 Y.1))) = hi at e ⊢
  have bl : Bd r lo := by rcases e.lo_is with q | q | q | q <;> rw [q] <;> assumption
  have bh : Bd r hi := by rcases e.hi_is with q | q | q | q <;> rw [q] <;> assumption
  have q : x * y * uR * uR = (x * uR) * (y * uR) := by grind
  refine ⟨(bl.dn hr2).1, (bh.up hr2).1, ?_, ?_⟩
  · rcases corner_lo h.lo h.hi h'.lo h'.hi with c | c | c | c
    · exact mul_dn b1 bl hr2 fa fc e.lo_a (q ▸ c)
    · exact mul_dn b2 bl hr2 fa fd e.lo_b (q ▸ c)
    · exact mul_dn b3 bl hr2 fb fc e.lo_c (q ▸ c)
    · exact mul_dn b4 bl hr2 fb fd e.lo_d (q ▸ c)
  · rcases corner_hi h.lo h.hi h'.lo h'.hi with c | c | c | c
    · exact mul_up b1 bh hr2 fa fc e.hi_a (q ▸ c)
    · exact mul_up b2 bh hr2 fa fd e.hi_b (q ▸ c)
    · exact mul_up b3 bh hr2 fb fc e.hi_c (q ▸ c)
    · exact mul_up b4 bh hr2 fb fd e.hi_d (q ▸ c)

/-- A number that is told exactly. -/
theorem MR.point {n : Nat} {x : Nat} {q : Rat} (hb : Bd n x) (h : kR x = q * uR) : MR n (x, x) q := ⟨hb, hb, h ▸ Rat.le_refl, h ▸ Rat.le_refl⟩
/-- It is within. -/
theorem MR.holds {n : Nat} {X : P2} {x : Rat} {v : Nat} (h : MR n X x) (hn : n < 2047) (hv : kR v = x * uR) : ix X.1 ≤ ix v ∧ ix v ≤ ix X.2 := by
  have l := h.lo
  have u := h.hi
  rw [← hv] at l u
  have h1 : kv X.1 ≤ kv v := by exact_mod_cast l
  have h2 : kv v ≤ kv X.2 := by exact_mod_cast u
  exact ⟨rk_le_iff.1 h1, rk_le_iff.1 h2⟩

end Go.Proofs.Ytdlinjijccnaeaa
