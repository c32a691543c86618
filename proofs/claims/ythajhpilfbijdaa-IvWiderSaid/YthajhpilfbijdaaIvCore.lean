/- Sums, differences, products, quotients of from-tos with finite ends. -/
import Derived.Test.YthajhpilfbijdaaIvZ
namespace Go.Proofs.Ythajhpilfbijdaa
open Go
set_option linter.unusedVariables false
set_option linter.unusedSimpArgs false
set_option maxRecDepth 100000

theorem Bd.dn {n x : Nat} (h : Bd n x) (hn : n < 2046) : Bd (n + 1) (dn x) ∧ ix (dn x) = ix x - 1 := by
  have h2 := h.2
  obtain ⟨d1, d2⟩ := dn_ix (h.fi (by omega)).nn
  rw [if_neg (by omega)] at d2
  exact ⟨⟨d1.1, by rw [d2, Nat.add_mul]; omega⟩, d2⟩
theorem Bd.up {n x : Nat} (h : Bd n x) (hn : n < 2046) : Bd (n + 1) (up x) ∧ ix (up x) = ix x + 1 := by
  have h2 := h.2
  obtain ⟨d1, d2⟩ := up_ix (h.fi (by omega)).nn
  rw [if_neg (by omega)] at d2
  exact ⟨⟨d1.1, by rw [d2, Nat.add_mul]; omega⟩, d2⟩

theorem dn_mono {x y : Nat} (hx : NN x) (hy : NN y) (h : ix x ≤ ix y) : ix (dn x) ≤ ix (dn y) := by
  rw [(dn_ix hx).2, (dn_ix hy).2]
  have := hx.2; have := hy.2
  split <;> split <;> omega
theorem up_mono {x y : Nat} (hx : NN x) (hy : NN y) (h : ix x ≤ ix y) : ix (up x) ≤ ix (up y) := by
  rw [(up_ix hx).2, (up_ix hy).2]
  have := hx.2; have := hy.2
  split <;> split <;> omega
theorem dn_le {x : Nat} (hx : NN x) : ix (dn x) ≤ ix x := by
  rw [(dn_ix hx).2]
  have := hx.2
  split <;> omega
theorem le_up {x : Nat} (hx : NN x) : ix x ≤ ix (up x) := by
  rw [(up_ix hx).2]
  have := hx.2
  split <;> omega

/-- Sums of what is in order are in order. -/
theorem add_mono {x y z w : Nat} (hx : Fi x) (hy : Fi y) (hz : Fi z) (hw : Fi w) (h1 : ix x ≤ ix z) (h2 : ix y ≤ ix w) : ix (fop .add .f64 x y) ≤ ix (fop .add .f64 z w) := by
  refine (add_rd hx hy).2.mono (by decide) (by decide) (add_rd hz hw).2 ?_
  have := rk_le h1
  have := rk_le h2
  unfold kv
  omega
theorem sub_mono {x y z w : Nat} (hx : Fi x) (hy : Fi y) (hz : Fi z) (hw : Fi w) (h1 : ix x ≤ ix z) (h2 : ix w ≤ ix y) : ix (fop .sub .f64 x y) ≤ ix (fop .sub .f64 z w) := by
  refine (sub_rd hx hy).2.mono (by decide) (by decide) (sub_rd hz hw).2 ?_
  have := rk_le h1
  have := rk_le h2
  unfold kv
  omega

/-- The sum and the difference of two that are right. -/
theorem add_fi {a b c d : Nat} (ha : Fi a) (hb : Fi b) (hc : Fi c) (hd : Fi d) (h1 : ix a ≤ ix b) (h2 : ix c ≤ ix d) :
    Runs Try.prog 19 #[fl2 a b, fl2 c d] #[] (fl2 (dn (fop .add .f64 a c)) (up (fop .add .f64 b d))) #[] :=
  add_at (add_rd ha hc).nn (add_rd hb hd).nn (add_mono ha hc hb hd h1 h2)
theorem sub_fi {a b c d : Nat} (ha : Fi a) (hb : Fi b) (hc : Fi c) (hd : Fi d) (h1 : ix a ≤ ix b) (h2 : ix c ≤ ix d) :
    Runs Try.prog 20 #[fl2 a b, fl2 c d] #[] (fl2 (dn (fop .sub .f64 a d)) (up (fop .sub .f64 b c))) #[] :=
  sub_at (sub_rd ha hd).nn (sub_rd hb hc).nn (sub_mono ha hd hb hc h1 h2)
/-- The product of two. -/
theorem mul_fi {a b c d : Nat} (ha : Fi a) (hb : Fi b) (hc : Fi c) (hd : Fi d) :
    ∃ lo hi, Ends (fop .mul .f64 a c) (fop .mul .f64 a d) (fop .mul .f64 b c) (fop .mul .f64 b d) lo hi ∧ Runs Try.prog 21 #[fl2 a b, fl2 c d] #[] (fl2 (dn lo) (up hi)) #[] := by
  obtain ⟨lo, hi, he, hr⟩ := span_runs (mul_rd ha hc).nn (mul_rd ha hd).nn (mul_rd hb hc).nn (mul_rd hb hd).nn
  exact ⟨lo, hi, he, mul_runs hr⟩

theorem nz {x : Nat} (h : ix x ≠ 0) : kv x ≠ 0 := fun h2 => h (rk_inj (h2.trans rk_zero.symm))
/-- The quotient of two, the second of which holds no nought. -/
theorem div_fi {a b c d : Nat} (ha : Fi a) (hb : Fi b) (hc : Fi c) (hd : Fi d) (h : 0 < ix c ∨ ix d < 0) (h2 : ix c ≤ ix d) :
    ∃ lo hi, Ends (fop .quo .f64 a c) (fop .quo .f64 a d) (fop .quo .f64 b c) (fop .quo .f64 b d) lo hi ∧ Runs Try.prog 22 #[fl2 a b, fl2 c d] #[] (fl2 (dn lo) (up hi)) #[] := by
  have zc : kv c ≠ 0 := nz (by omega)
  have zd : kv d ≠ 0 := nz (by omega)
  obtain ⟨lo, hi, he, hr⟩ := span_runs (quo_rd ha hc zc).nn (quo_rd ha hd zd).nn (quo_rd hb hc zc).nn (quo_rd hb hd zd).nn
  exact ⟨lo, hi, he, div_runs (in_no nn_zero.1 hc.nn hd.nn (by rw [nn_zero.2]; exact h)) hr⟩

end Go.Proofs.Ythajhpilfbijdaa
