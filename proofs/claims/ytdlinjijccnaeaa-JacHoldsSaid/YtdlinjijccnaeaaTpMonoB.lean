/- The arithmetic of from-tos: of wider ones wider ones are told; what is reckoned of numbers within is within. -/
import Derived.Test.YtdlinjijccnaeaaTpMono
namespace Go.Proofs.Ytdlinjijccnaeaa
open Go
set_option linter.unusedVariables false
set_option linter.unusedSimpArgs false
set_option maxRecDepth 100000

/-- Right ends, none of them beyond all numbers on its own side. -/
structure Rs (X : Nat × Nat) : Prop where
  rt : Rt X
  lo : ix X.1 < ix pinf
  hi : ix ninf < ix X.2
def Wi (X Y : Nat × Nat) : Prop := ix Y.1 ≤ ix X.1 ∧ ix X.2 ≤ ix Y.2
theorem Wi.trans {X Y Z : Nat × Nat} (h : Wi X Y) (h' : Wi Y Z) : Wi X Z := ⟨Int.le_trans h'.1 h.1, Int.le_trans h.2 h'.2⟩
def Al : Nat × Nat := (ninf, pinf)
theorem wi_all {X : Nat × Nat} (h : Rt X) : Wi X Al := ⟨ix_ninf_le h.l, ix_le_pinf h.h⟩
theorem rs_all : Rs Al := ⟨rt_all, by rw [show (Al).1 = ninf from rfl, ninf_nn.2, pinf_nn.2]; decide, by rw [show (Al).2 = pinf from rfl, ninf_nn.2, pinf_nn.2]; decide⟩
theorem dn_lt {s : Nat} (h : NN s) : ix (dn s) < ix pinf := by
  rw [(dn_ix h).2, pinf_nn.2]
  have := h.2.2
  split <;> omega
theorem up_gt {s : Nat} (h : NN s) : ix ninf < ix (up s) := by
  rw [(up_ix h).2, ninf_nn.2]
  have := h.2.1
  split <;> omega
theorem dn_moT {s t : Nat} (hs : NN s) (ht : NN t) (h : ix s ≤ ix t) : ix (dn s) ≤ ix (dn t) := by
  rw [(dn_ix hs).2, (dn_ix ht).2]
  have := hs.2.1
  split <;> split <;> omega
theorem up_moT {s t : Nat} (hs : NN s) (ht : NN t) (h : ix s ≤ ix t) : ix (up s) ≤ ix (up t) := by
  rw [(up_ix hs).2, (up_ix ht).2]
  have := ht.2.2
  split <;> split <;> omega
theorem dn_leT {s : Nat} (hs : NN s) : ix (dn s) ≤ ix s := by
  rw [(dn_ix hs).2]
  split <;> omega
theorem up_geT {s : Nat} (hs : NN s) : ix s ≤ ix (up s) := by
  rw [(up_ix hs).2]
  split <;> omega
theorem outP_of {s t : Nat} (hs : NN s) (ht : NN t) (h : ix s ≤ ix t) : outP s t = (dn s, up t) := by
  unfold outP
  rw [isN_iff.2 hs, isN_iff.2 ht, decide_eq_true (Int.le_trans (dn_leT hs) (Int.le_trans h (up_geT ht)))]
  rfl
theorem outP_rs {s t : Nat} : Rs (outP s t) := by
  unfold outP
  cases h : (isN s && isN t && decide (ix (dn s) ≤ ix (up t))) with
  | true =>
    simp only [Bool.and_eq_true, decide_eq_true_eq] at h
    obtain ⟨⟨h1, h2⟩, h3⟩ := h
    rw [isN_iff] at h1 h2
    exact ⟨⟨(dn_ix h1).1, (up_ix h2).1, h3⟩, dn_lt h1, up_gt h2⟩
  | false => exact rs_all
theorem spanP_rs {a b c d : Nat} : Rs (spanP a b c d) := by
  unfold spanP
  cases h : (isN a && isN b && isN c && isN d) with
  | true =>
    simp only [Bool.and_eq_true] at h
    obtain ⟨⟨⟨h1, h2⟩, h3⟩, h4⟩ := h
    rw [isN_iff] at h1 h2 h3 h4
    have e := ends_of h1 h2 h3 h4
    have hle := Int.le_trans (dn_leT e.nlo) (Int.le_trans e.lo_a (Int.le_trans e.hi_a (up_geT e.nhi)))
    exact ⟨⟨(dn_ix e.nlo).1, (up_ix e.nhi).1, hle⟩, dn_lt e.nlo, up_gt e.nhi⟩
  | false => exact rs_all
theorem opP_rsT (K : Int) (X Y : Nat × Nat) : Rs (if K = 2 then addP X Y else if K = 3 then subP X Y else if K = 4 then mulP X Y else divP X Y) := by
  split
  · exact outP_rs
  split
  · exact outP_rs
  split
  · exact spanP_rs
  · unfold divP
    cases decide (ix Y.1 ≤ 0 ∧ 0 ≤ ix Y.2)
    · exact spanP_rs
    · exact rs_all

/-! ### sums -/
theorem add_tab {x y : Nat} (hx : NN x) (hy : NN y) (h : (ix x < ix pinf ∧ ix y < ix pinf) ∨ (ix ninf < ix x ∧ ix ninf < ix y)) : NN (fop .add .f64 x y) ∧
    (x = ninf ∨ y = ninf → ix x < ix pinf ∧ ix y < ix pinf → fop .add .f64 x y = ninf) ∧ (x = pinf ∨ y = pinf → ix ninf < ix x ∧ ix ninf < ix y → fop .add .f64 x y = pinf) := by
  have p1 := pinf_nn.2
  have p2 := ninf_nn.2
  have ii : ∀ s : Bool, fop .add .f64 (infW s) (infW s) = infW s := by intro s; cases s <;> decide +kernel
  have nf : ∀ {x : Nat}, Fi x → x ≠ ninf ∧ x ≠ pinf := fun f => ⟨fun e => fi_nan (s := true) e f, fun e => fi_nan (s := false) e f⟩
  rcases nn_cases hx with fx | rfl | rfl <;> rcases nn_cases hy with fy | rfl | rfl
  · exact ⟨(add_rd fx fy).nn, fun h => h.elim (fun e => absurd e (nf fx).1) (fun e => absurd e (nf fy).1), fun h => h.elim (fun e => absurd e (nf fx).2) (fun e => absurd e (nf fy).2)⟩
  · have e : fop .add .f64 x pinf = pinf := add_inf_r false fx
    rw [e]
    exact ⟨pinf_nn.1, fun _ h => by omega, fun _ _ => rfl⟩
  · have e : fop .add .f64 x ninf = ninf := add_inf_r true fx
    rw [e]
    exact ⟨ninf_nn.1, fun _ _ => rfl, fun _ h => by omega⟩
  · have e : fop .add .f64 pinf y = pinf := add_inf_l false fy
    rw [e]
    exact ⟨pinf_nn.1, fun _ h => by omega, fun _ _ => rfl⟩
  · have e : fop .add .f64 pinf pinf = pinf := ii false
    rw [e]
    exact ⟨pinf_nn.1, fun _ h => by omega, fun _ _ => rfl⟩
  · omega
  · have e : fop .add .f64 ninf y = ninf := add_inf_l true fy
    rw [e]
    exact ⟨ninf_nn.1, fun _ _ => rfl, fun _ h => by omega⟩
  · omega
  · have e : fop .add .f64 ninf ninf = ninf := ii true
    rw [e]
    exact ⟨ninf_nn.1, fun _ _ => rfl, fun _ h => by omega⟩
theorem bot_word {x : Nat} (h : NN x) (h2 : ¬ ix ninf < ix x) : x = ninf := of_bot h (by omega)
theorem top_word {x : Nat} (h : NN x) (h2 : ¬ ix x < ix pinf) : x = pinf := of_top h (by omega)
/-- Sums rise: the lower ones are not beyond all numbers above, the upper ones not below. -/
theorem add_ext {a b c d : Nat} (ha : NN a) (hb : NN b) (hc : NN c) (hd : NN d) (h1 : ix a ≤ ix b) (h2 : ix c ≤ ix d) (n1 : ix a < ix pinf ∧ ix c < ix pinf) (nb : NN (fop .add .f64 b d)) (n2 : b = pinf ∨ d = pinf → fop .add .f64 b d = pinf) :
    ix (fop .add .f64 a c) ≤ ix (fop .add .f64 b d) := by
  have p1 := pinf_nn.2
  have p2 := ninf_nn.2
  obtain ⟨na, ua, _⟩ := add_tab ha hc (.inl n1)
  by_cases ea : ix ninf < ix a ∧ ix ninf < ix c
  · have fa : Fi a := ⟨ha.1, by omega, by omega⟩
    have fc : Fi c := ⟨hc.1, by omega, by omega⟩
    by_cases eb : ix b < ix pinf ∧ ix d < ix pinf
    · exact add_mono fa fc ⟨hb.1, by omega, by omega⟩ ⟨hd.1, by omega, by omega⟩ h1 h2
    · rw [n2 ?_]
      · exact ix_le_pinf na
      · by_cases e : ix b < ix pinf
        · exact .inr (top_word hd (by omega))
        · exact .inl (top_word hb e)
  · rw [ua ?_ n1]
    · exact ix_ninf_le nb
    · by_cases e : ix ninf < ix a
      · exact .inr (bot_word hc (by omega))
      · exact .inl (bot_word ha e)
/-- A number turned. -/
def ngW (x : Nat) : Nat := if x < 9223372036854775808 then x + 9223372036854775808 else x - 9223372036854775808
theorem ngW_ix {x : Nat} (h : x < 18446744073709551616) : ngW x < 18446744073709551616 ∧ ix (ngW x) = - ix x := by
  unfold ngW ix
  split
  · refine ⟨by omega, ?_⟩
    rw [if_neg (by omega)]
    simp
  · refine ⟨by omega, ?_⟩
    rw [if_pos (by omega)]
    simp
theorem ngW_nn {x : Nat} (h : NN x) : NN (ngW x) := by
  obtain ⟨h1, h2⟩ := ngW_ix h.1
  exact ⟨h1, by rw [h2]; have := h.2.2; omega, by rw [h2]; have := h.2.1; omega⟩
theorem ngW_fi {x : Nat} (h : Fi x) : Fi (ngW x) := by
  obtain ⟨h1, h2⟩ := ngW_ix h.1
  exact ⟨h1, by rw [h2]; have := h.2.2; omega, by rw [h2]; have := h.2.1; omega⟩
/-- A difference, as a sum's index: of numbers that are none beyond. -/
theorem sub_tab {x y : Nat} (hx : NN x) (hy : NN y) (h : (ix x < ix pinf ∧ ix ninf < ix y) ∨ (ix ninf < ix x ∧ ix y < ix pinf)) : NN (fop .sub .f64 x y) ∧
    (x = ninf ∨ y = pinf → ix x < ix pinf ∧ ix ninf < ix y → fop .sub .f64 x y = ninf) ∧ (x = pinf ∨ y = ninf → ix ninf < ix x ∧ ix y < ix pinf → fop .sub .f64 x y = pinf) := by
  have p1 := pinf_nn.2
  have p2 := ninf_nn.2
  have ii : ∀ s : Bool, fop .sub .f64 (infW s) (infW (!s)) = infW s := by intro s; cases s <;> decide +kernel
  have sr : ∀ (s : Bool) {x : Nat}, Fi x → fop .sub .f64 x (infW s) = infW (!s) := by
    intro s x h
    obtain ⟨t, m, e, h1, _, _⟩ := read_fi h
    refine fop_of (show ((Ieee.double.read x).sum (Ieee.double.read (infW s)).opposite).map Ieee.double.write = _ from ?_)
    rw [h1, read_infW]
    show some (Ieee.double.write (.infinity (!s))) = _
    rw [write_infW]
  have nf : ∀ {x : Nat}, Fi x → x ≠ ninf ∧ x ≠ pinf := fun f => ⟨fun e => fi_nan (s := true) e f, fun e => fi_nan (s := false) e f⟩
  rcases nn_cases hx with fx | rfl | rfl <;> rcases nn_cases hy with fy | rfl | rfl
  · exact ⟨(sub_rd fx fy).nn, fun h => h.elim (fun e => absurd e (nf fx).1) (fun e => absurd e (nf fy).2), fun h => h.elim (fun e => absurd e (nf fx).2) (fun e => absurd e (nf fy).1)⟩
  · have e : fop .sub .f64 x pinf = ninf := sr false fx
    rw [e]
    exact ⟨ninf_nn.1, fun _ _ => rfl, fun _ h => by omega⟩
  · have e : fop .sub .f64 x ninf = pinf := sr true fx
    rw [e]
    exact ⟨pinf_nn.1, fun _ h => by omega, fun _ _ => rfl⟩
  · have e : fop .sub .f64 pinf y = pinf := sub_inf_l false fy
    rw [e]
    exact ⟨pinf_nn.1, fun _ h => by omega, fun _ _ => rfl⟩
  · omega
  · have e : fop .sub .f64 pinf ninf = pinf := ii false
    rw [e]
    exact ⟨pinf_nn.1, fun _ h => by omega, fun _ _ => rfl⟩
  · have e : fop .sub .f64 ninf y = ninf := sub_inf_l true fy
    rw [e]
    exact ⟨ninf_nn.1, fun _ _ => rfl, fun _ h => by omega⟩
  · have e : fop .sub .f64 ninf pinf = ninf := ii true
    rw [e]
    exact ⟨ninf_nn.1, fun _ _ => rfl, fun _ h => by omega⟩
  · omega
theorem sub_ext {a b c d : Nat} (ha : NN a) (hb : NN b) (hc : NN c) (hd : NN d) (h1 : ix a ≤ ix b) (h2 : ix d ≤ ix c) (n1 : ix a < ix pinf ∧ ix ninf < ix c) (nb : NN (fop .sub .f64 b d)) (n2 : b = pinf ∨ d = ninf → fop .sub .f64 b d = pinf) :
    ix (fop .sub .f64 a c) ≤ ix (fop .sub .f64 b d) := by
  have p1 := pinf_nn.2
  have p2 := ninf_nn.2
  obtain ⟨na, ua, _⟩ := sub_tab ha hc (.inl n1)
  by_cases ea : ix ninf < ix a ∧ ix c < ix pinf
  · have fa : Fi a := ⟨ha.1, by omega, by omega⟩
    have fc : Fi c := ⟨hc.1, by omega, by omega⟩
    by_cases eb : ix b < ix pinf ∧ ix ninf < ix d
    · exact sub_mono fa fc ⟨hb.1, by omega, by omega⟩ ⟨hd.1, by omega, by omega⟩ h1 h2
    · rw [n2 ?_]
      · exact ix_le_pinf na
      · by_cases e : ix b < ix pinf
        · exact .inr (bot_word hd (by omega))
        · exact .inl (top_word hb e)
  · rw [ua ?_ n1]
    · exact ix_ninf_le nb
    · by_cases e : ix ninf < ix a
      · exact .inr (top_word hc (by omega))
      · exact .inl (bot_word ha e)

/-- A number within. -/
def InP (v : Nat) (X : Nat × Nat) : Prop := ix X.1 ≤ ix v ∧ ix v ≤ ix X.2
theorem InP.wi {v : Nat} {X Y : Nat × Nat} (h : InP v X) (w : Wi X Y) : InP v Y := ⟨Int.le_trans w.1 h.1, Int.le_trans h.2 w.2⟩
theorem in_all {v : Nat} (h : NN v) : InP v Al := ⟨ix_ninf_le h, ix_le_pinf h⟩
theorem ix_lt_inf : ix ninf < ix pinf := by rw [pinf_nn.2, ninf_nn.2]; decide

theorem addP_all {X Y : Nat × Nat} (hX : Rs X) (hY : Rs Y) : NN (fop .add .f64 X.1 Y.1) ∧ NN (fop .add .f64 X.2 Y.2) ∧ ix (fop .add .f64 X.1 Y.1) ≤ ix (fop .add .f64 X.2 Y.2) := by
  have t1 := add_tab hX.rt.l hY.rt.l (.inl ⟨hX.lo, hY.lo⟩)
  have t2 := add_tab hX.rt.h hY.rt.h (.inr ⟨hX.hi, hY.hi⟩)
  exact ⟨t1.1, t2.1, add_ext hX.rt.l hX.rt.h hY.rt.l hY.rt.h hX.rt.le hY.rt.le ⟨hX.lo, hY.lo⟩ t2.1 fun h => t2.2.2 h ⟨hX.hi, hY.hi⟩⟩
theorem addP_eq {X Y : Nat × Nat} (hX : Rs X) (hY : Rs Y) : addP X Y = (dn (fop .add .f64 X.1 Y.1), up (fop .add .f64 X.2 Y.2)) := by
  obtain ⟨h1, h2, h3⟩ := addP_all hX hY
  exact outP_of h1 h2 h3
theorem addP_mono {X Y X' Y' : Nat × Nat} (hX : Rs X) (hY : Rs Y) (hX' : Rs X') (hY' : Rs Y') (w : Wi X X') (w' : Wi Y Y') : Wi (addP X Y) (addP X' Y') := by
  obtain ⟨h1, h2, _⟩ := addP_all hX hY
  obtain ⟨g1, g2, _⟩ := addP_all hX' hY'
  have t2 := add_tab hX'.rt.h hY'.rt.h (.inr ⟨hX'.hi, hY'.hi⟩)
  rw [addP_eq hX hY, addP_eq hX' hY']
  refine ⟨dn_moT g1 h1 (add_ext hX'.rt.l hX.rt.l hY'.rt.l hY.rt.l w.1 w'.1 ⟨hX'.lo, hY'.lo⟩ h1 fun h => ?_), up_moT h2 g2 ?_⟩
  · have p := hX.lo; have q := hY.lo
    rcases h with h | h
    · rw [h] at p; omega
    · rw [h] at q; omega
  · -- the upper ones, turned
    have p1 := pinf_nn.2
    have p2 := ninf_nn.2
    by_cases e : ix X'.2 < ix pinf ∧ ix Y'.2 < ix pinf
    · exact add_mono ⟨hX.rt.h.1, by have := hX.hi; omega, by have := w.2; omega⟩ ⟨hY.rt.h.1, by have := hY.hi; omega, by have := w'.2; omega⟩ ⟨hX'.rt.h.1, by have := hX'.hi; omega, by omega⟩ ⟨hY'.rt.h.1, by have := hY'.hi; omega, by omega⟩ w.2 w'.2
    · rw [t2.2.2 ?_ ⟨hX'.hi, hY'.hi⟩]
      · exact ix_le_pinf h2
      · by_cases e2 : ix X'.2 < ix pinf
        · exact .inr (top_word hY'.rt.h (by omega))
        · exact .inl (top_word hX'.rt.h e2)
theorem subP_all {X Y : Nat × Nat} (hX : Rs X) (hY : Rs Y) : NN (fop .sub .f64 X.1 Y.2) ∧ NN (fop .sub .f64 X.2 Y.1) ∧ ix (fop .sub .f64 X.1 Y.2) ≤ ix (fop .sub .f64 X.2 Y.1) := by
  have t1 := sub_tab hX.rt.l hY.rt.h (.inl ⟨hX.lo, hY.hi⟩)
  have t2 := sub_tab hX.rt.h hY.rt.l (.inr ⟨hX.hi, hY.lo⟩)
  exact ⟨t1.1, t2.1, sub_ext hX.rt.l hX.rt.h hY.rt.h hY.rt.l hX.rt.le hY.rt.le ⟨hX.lo, hY.hi⟩ t2.1 fun h => t2.2.2 h ⟨hX.hi, hY.lo⟩⟩
theorem subP_eq {X Y : Nat × Nat} (hX : Rs X) (hY : Rs Y) : subP X Y = (dn (fop .sub .f64 X.1 Y.2), up (fop .sub .f64 X.2 Y.1)) := by
  obtain ⟨h1, h2, h3⟩ := subP_all hX hY
  exact outP_of h1 h2 h3
theorem subP_mono {X Y X' Y' : Nat × Nat} (hX : Rs X) (hY : Rs Y) (hX' : Rs X') (hY' : Rs Y') (w : Wi X X') (w' : Wi Y Y') : Wi (subP X Y) (subP X' Y') := by
  obtain ⟨h1, h2, _⟩ := subP_all hX hY
  obtain ⟨g1, g2, _⟩ := subP_all hX' hY'
  have t2 := sub_tab hX'.rt.h hY'.rt.l (.inr ⟨hX'.hi, hY'.lo⟩)
  rw [subP_eq hX hY, subP_eq hX' hY']
  refine ⟨dn_moT g1 h1 (sub_ext hX'.rt.l hX.rt.l hY'.rt.h hY.rt.h w.1 w'.2 ⟨hX'.lo, hY'.hi⟩ h1 fun h => ?_), up_moT h2 g2 ?_⟩
  · have p := hX.lo; have q := hY.hi
    rcases h with h | h
    · rw [h] at p; omega
    · rw [h] at q; omega
  · have p1 := pinf_nn.2
    have p2 := ninf_nn.2
    by_cases e : ix X'.2 < ix pinf ∧ ix ninf < ix Y'.1
    · exact sub_mono ⟨hX.rt.h.1, by have := hX.hi; omega, by have := w.2; omega⟩ ⟨hY.rt.l.1, by have := w'.1; omega, by have := hY.lo; omega⟩ ⟨hX'.rt.h.1, by have := hX'.hi; omega, by omega⟩ ⟨hY'.rt.l.1, by omega, by have := hY'.lo; omega⟩ w.2 w'.1
    · rw [t2.2.2 ?_ ⟨hX'.hi, hY'.lo⟩]
      · exact ix_le_pinf h2
      · by_cases e2 : ix X'.2 < ix pinf
        · exact .inr (bot_word hY'.rt.l (by omega))
        · exact .inl (top_word hX'.rt.h e2)

/-! ### products, quotients: by corners -/
theorem span_nan {a b c d : Nat} (h : ¬ (NN a ∧ NN b ∧ NN c ∧ NN d)) : spanP a b c d = Al := by
  unfold spanP
  cases e : (isN a && isN b && isN c && isN d) with
  | true =>
    simp only [Bool.and_eq_true, isN_iff] at e
    exact absurd ⟨e.1.1.1, e.1.1.2, e.1.2, e.2⟩ h
  | false => rfl
theorem span_all {a b c d : Nat} (ha : NN a) (hb : NN b) (hc : NN c) (hd : NN d) (h1 : ix a ≤ ix ninf ∨ ix b ≤ ix ninf ∨ ix c ≤ ix ninf ∨ ix d ≤ ix ninf) (h2 : ix pinf ≤ ix a ∨ ix pinf ≤ ix b ∨ ix pinf ≤ ix c ∨ ix pinf ≤ ix d) : spanP a b c d = Al := by
  have e := ends_of ha hb hc hd
  have := e.lo_a; have := e.lo_b; have := e.lo_c; have := e.lo_d
  have := e.hi_a; have := e.hi_b; have := e.hi_c; have := e.hi_d
  rw [spanP_eq ha hb hc hd, of_bot e.nlo (by omega), of_top e.nhi (by omega), dn_ninf, up_pinf]
  rfl
/-- What is between the corners of a span. -/
def InC (a b c d z : Nat) : Prop := NN z ∧ (ix a ≤ ix z ∨ ix b ≤ ix z ∨ ix c ≤ ix z ∨ ix d ≤ ix z) ∧ (ix z ≤ ix a ∨ ix z ≤ ix b ∨ ix z ≤ ix c ∨ ix z ≤ ix d)
theorem InC.inP {a b c d z : Nat} (ha : NN a) (hb : NN b) (hc : NN c) (hd : NN d) (h : InC a b c d z) : InP z (spanP a b c d) := by
  have e := ends_of ha hb hc hd
  have := e.lo_a; have := e.lo_b; have := e.lo_c; have := e.lo_d
  have := e.hi_a; have := e.hi_b; have := e.hi_c; have := e.hi_d
  obtain ⟨hz, u, v⟩ := h
  rw [spanP_eq ha hb hc hd]
  have l1 := dn_leT e.nlo
  have l2 := up_geT e.nhi
  constructor
  · show ix (dn _) ≤ _
    omega
  · show _ ≤ ix (up _)
    omega
theorem span_mono {a b c d a' b' c' d' : Nat} (ha' : NN a') (hb' : NN b') (hc' : NN c') (hd' : NN d') (ha : InC a' b' c' d' a) (hb : InC a' b' c' d' b) (hc : InC a' b' c' d' c) (hd : InC a' b' c' d' d) : Wi (spanP a b c d) (spanP a' b' c' d') := by
  have e := ends_of ha.1 hb.1 hc.1 hd.1
  have e' := ends_of ha' hb' hc' hd'
  have h := Ends.ge e' e (fun x hx => by
    rcases hx with rfl | rfl | rfl | rfl
    · exact ha.2
    · exact hb.2
    · exact hc.2
    · exact hd.2)
  rw [spanP_eq ha.1 hb.1 hc.1 hd.1, spanP_eq ha' hb' hc' hd']
  exact ⟨dn_moT e'.nlo e.nlo h.1, up_moT e.nhi e'.nhi h.2⟩
theorem btw3 {w1 w2 w3 w4 u v z : Nat} (hz : NN z) (h1 : Btw w1 w2 u) (h2 : Btw w3 w4 v) (h : Btw u v z) : InC w1 w2 w3 w4 z := by
  unfold Btw at h1 h2 h
  exact ⟨hz, by omega, by omega⟩

theorem mul_in {X Y : Nat × Nat} (hX : Rt X) (hY : Rt Y) (hn : mulP X Y ≠ Al) : NN (fop .mul .f64 X.1 Y.1) ∧ NN (fop .mul .f64 X.1 Y.2) ∧ NN (fop .mul .f64 X.2 Y.1) ∧ NN (fop .mul .f64 X.2 Y.2) ∧
    ∀ {a c : Nat}, NN a → NN c → InP a X → InP c Y → InC (fop .mul .f64 X.1 Y.1) (fop .mul .f64 X.1 Y.2) (fop .mul .f64 X.2 Y.1) (fop .mul .f64 X.2 Y.2) (fop .mul .f64 a c) := by
  have hall : NN (fop .mul .f64 X.1 Y.1) ∧ NN (fop .mul .f64 X.1 Y.2) ∧ NN (fop .mul .f64 X.2 Y.1) ∧ NN (fop .mul .f64 X.2 Y.2) := Classical.byContradiction fun h => hn (span_nan h)
  obtain ⟨n1, n2, n3, n4⟩ := hall
  refine ⟨n1, n2, n3, n4, fun {a c} ha hc ia ic => ?_⟩
  have no : ¬ ((ix (fop .mul .f64 X.1 Y.1) ≤ ix ninf ∨ ix (fop .mul .f64 X.1 Y.2) ≤ ix ninf ∨ ix (fop .mul .f64 X.2 Y.1) ≤ ix ninf ∨ ix (fop .mul .f64 X.2 Y.2) ≤ ix ninf) ∧ (ix pinf ≤ ix (fop .mul .f64 X.1 Y.1) ∨ ix pinf ≤ ix (fop .mul .f64 X.1 Y.2) ∨ ix pinf ≤ ix (fop .mul .f64 X.2 Y.1) ∨ ix pinf ≤ ix (fop .mul .f64 X.2 Y.2))) :=
    fun h => hn (span_all n1 n2 n3 n4 h.1 h.2)
  have side : ∀ {l : Nat}, NN l → (l = X.1 ∨ l = X.2) → NN (fop .mul .f64 l c) ∧ Btw (fop .mul .f64 l Y.1) (fop .mul .f64 l Y.2) (fop .mul .f64 l c) := by
    intro l hl he
    have m1 : NN (fop .mul .f64 Y.1 l) := by rw [mul_comm_w]; rcases he with rfl | rfl <;> assumption
    have m2 : NN (fop .mul .f64 Y.2 l) := by rw [mul_comm_w]; rcases he with rfl | rfl <;> assumption
    rcases mul1 hY.l hY.h hc hl ic.1 ic.2 m1 m2 with ⟨h1, h2⟩ | h
    · rw [mul_comm_w c l, mul_comm_w Y.1 l, mul_comm_w Y.2 l] at h2
      rw [mul_comm_w c l] at h1
      exact ⟨h1, h2⟩
    · rw [mul_comm_w Y.1 l, mul_comm_w Y.2 l] at h
      exfalso
      apply no
      rcases he with rfl | rfl <;> rcases h with ⟨e1, e2⟩ | ⟨e1, e2⟩ <;> rw [e1, e2] <;> omega
  obtain ⟨s1, b1⟩ := side hX.l (.inl rfl)
  obtain ⟨s2, b2⟩ := side hX.h (.inr rfl)
  rcases mul1 hX.l hX.h ha hc ia.1 ia.2 s1 s2 with ⟨h1, h2⟩ | h
  · exact btw3 h1 b1 b2 h2
  · exfalso
    apply no
    unfold Btw at b1 b2
    rcases h with ⟨e1, e2⟩ | ⟨e1, e2⟩ <;> rw [e1] at b1 <;> rw [e2] at b2 <;> omega
theorem mulP_mono {X Y X' Y' : Nat × Nat} (hX : Rt X) (hY : Rt Y) (hX' : Rt X') (hY' : Rt Y') (w : Wi X X') (w' : Wi Y Y') : Wi (mulP X Y) (mulP X' Y') := by
  by_cases hn : mulP X' Y' = Al
  · rw [hn]; exact wi_all (mulP_rt _ _)
  · obtain ⟨n1, n2, n3, n4, h⟩ := mul_in hX' hY' hn
    have i1 : InP X.1 X' := ⟨w.1, Int.le_trans hX.le w.2⟩
    have i2 : InP X.2 X' := ⟨Int.le_trans w.1 hX.le, w.2⟩
    have j1 : InP Y.1 Y' := ⟨w'.1, Int.le_trans hY.le w'.2⟩
    have j2 : InP Y.2 Y' := ⟨Int.le_trans w'.1 hY.le, w'.2⟩
    exact span_mono n1 n2 n3 n4 (h hX.l hY.l i1 j1) (h hX.l hY.h i1 j2) (h hX.h hY.l i2 j1) (h hX.h hY.h i2 j2)
theorem div_in {X Y : Nat × Nat} (hX : Rt X) (hY : Rt Y) (hn : divP X Y ≠ Al) : (0 < ix Y.1 ∨ ix Y.2 < 0) ∧ NN (fop .quo .f64 X.1 Y.1) ∧ NN (fop .quo .f64 X.1 Y.2) ∧ NN (fop .quo .f64 X.2 Y.1) ∧ NN (fop .quo .f64 X.2 Y.2) ∧
    divP X Y = spanP (fop .quo .f64 X.1 Y.1) (fop .quo .f64 X.1 Y.2) (fop .quo .f64 X.2 Y.1) (fop .quo .f64 X.2 Y.2) ∧
    ∀ {a c : Nat}, NN a → NN c → InP a X → InP c Y → InC (fop .quo .f64 X.1 Y.1) (fop .quo .f64 X.1 Y.2) (fop .quo .f64 X.2 Y.1) (fop .quo .f64 X.2 Y.2) (fop .quo .f64 a c) := by
  have h0 : 0 < ix Y.1 ∨ ix Y.2 < 0 := by
    refine Classical.byContradiction fun h => hn ?_
    unfold divP
    rw [decide_eq_true (show ix Y.1 ≤ 0 ∧ 0 ≤ ix Y.2 by omega)]
    rfl
  have he : divP X Y = spanP (fop .quo .f64 X.1 Y.1) (fop .quo .f64 X.1 Y.2) (fop .quo .f64 X.2 Y.1) (fop .quo .f64 X.2 Y.2) := by
    unfold divP
    rw [decide_eq_false (show ¬ (ix Y.1 ≤ 0 ∧ 0 ≤ ix Y.2) by omega)]
    rfl
  rw [he] at hn
  have hall : NN (fop .quo .f64 X.1 Y.1) ∧ NN (fop .quo .f64 X.1 Y.2) ∧ NN (fop .quo .f64 X.2 Y.1) ∧ NN (fop .quo .f64 X.2 Y.2) := Classical.byContradiction fun h => hn (span_nan h)
  obtain ⟨n1, n2, n3, n4⟩ := hall
  refine ⟨h0, n1, n2, n3, n4, he, fun {a c} ha hc ia ic => ?_⟩
  obtain ⟨ic1, ic2⟩ := ic
  obtain ⟨s1, b1⟩ := quo2 hX.l hY.l hY.h hc ic1 ic2 h0 n1 n2
  obtain ⟨s2, b2⟩ := quo2 hX.h hY.l hY.h hc ic1 ic2 h0 n3 n4
  obtain ⟨h1, h2⟩ := quo1 hX.l hX.h ha hc (by omega) ia.1 ia.2 s1 s2
  exact btw3 h1 b1 b2 h2
theorem divP_mono {X Y X' Y' : Nat × Nat} (hX : Rt X) (hY : Rt Y) (hX' : Rt X') (hY' : Rt Y') (w : Wi X X') (w' : Wi Y Y') : Wi (divP X Y) (divP X' Y') := by
  by_cases hn : divP X' Y' = Al
  · rw [hn]; exact wi_all (divP_rt _ _)
  · obtain ⟨h0, n1, n2, n3, n4, he, h⟩ := div_in hX' hY' hn
    have i1 : InP X.1 X' := ⟨w.1, Int.le_trans hX.le w.2⟩
    have i2 : InP X.2 X' := ⟨Int.le_trans w.1 hX.le, w.2⟩
    have j1 : InP Y.1 Y' := ⟨w'.1, Int.le_trans hY.le w'.2⟩
    have j2 : InP Y.2 Y' := ⟨Int.le_trans w'.1 hY.le, w'.2⟩
    have he2 : divP X Y = spanP (fop .quo .f64 X.1 Y.1) (fop .quo .f64 X.1 Y.2) (fop .quo .f64 X.2 Y.1) (fop .quo .f64 X.2 Y.2) := by
      unfold divP
      have e1 := w'.1; have e2 := w'.2; have e3 := hY.le
      rw [decide_eq_false (show ¬ (ix Y.1 ≤ 0 ∧ 0 ≤ ix Y.2) by omega)]
      rfl
    rw [he, he2]
    exact span_mono n1 n2 n3 n4 (h hX.l hY.l i1 j1) (h hX.l hY.h i1 j2) (h hX.h hY.l i2 j1) (h hX.h hY.h i2 j2)

/-! ### numbers within -/
theorem add_inP {X Y : Nat × Nat} (hX : Rs X) (hY : Rs Y) {a c : Nat} (ha : NN a) (hc : NN c) (ia : InP a X) (ic : InP c Y) (hv : NN (fop .add .f64 a c)) : InP (fop .add .f64 a c) (addP X Y) := by
  obtain ⟨h1, h2, _⟩ := addP_all hX hY
  rw [addP_eq hX hY]
  have t2 := add_tab hX.rt.h hY.rt.h (.inr ⟨hX.hi, hY.hi⟩)
  have cond : (ix a < ix pinf ∧ ix c < ix pinf) ∨ (ix ninf < ix a ∧ ix ninf < ix c) := by
    refine Classical.byContradiction fun h => ?_
    have hh : (a = pinf ∧ c = ninf) ∨ (a = ninf ∧ c = pinf) := by
      have p1 := pinf_nn.2; have p2 := ninf_nn.2
      rcases nn_cases ha with fa | rfl | rfl <;> rcases nn_cases hc with fc | rfl | rfl
      · exact absurd (.inl ⟨by rw [p1]; exact fa.2.2, by rw [p1]; exact fc.2.2⟩) h
      · exact absurd (.inr ⟨by rw [p2]; exact fa.2.1, ix_lt_inf⟩) h
      · exact absurd (.inl ⟨by rw [p1]; exact fa.2.2, ix_lt_inf⟩) h
      · exact absurd (.inr ⟨ix_lt_inf, by rw [p2]; exact fc.2.1⟩) h
      · exact absurd (.inr ⟨ix_lt_inf, ix_lt_inf⟩) h
      · exact .inl ⟨rfl, rfl⟩
      · exact absurd (.inl ⟨ix_lt_inf, by rw [p1]; exact fc.2.2⟩) h
      · exact .inr ⟨rfl, rfl⟩
      · exact absurd (.inl ⟨ix_lt_inf, ix_lt_inf⟩) h
    rcases hh with ⟨rfl, rfl⟩ | ⟨rfl, rfl⟩
    · exact nan_no hv (by decide +kernel)
    · exact nan_no hv (by decide +kernel)
  obtain ⟨_, u, v⟩ := add_tab ha hc cond
  constructor
  · refine Int.le_trans (dn_leT h1) (add_ext hX.rt.l ha hY.rt.l hc ia.1 ic.1 ⟨hX.lo, hY.lo⟩ hv fun h => v h ?_)
    rcases h with rfl | rfl
    · rcases cond with h | h
      · omega
      · exact h
    · rcases cond with h | h
      · omega
      · exact h
  · refine Int.le_trans ?_ (up_geT h2)
    by_cases e : ix a < ix pinf ∧ ix c < ix pinf
    · exact add_ext ha hX.rt.h hc hY.rt.h ia.2 ic.2 e h2 fun h => t2.2.2 h ⟨hX.hi, hY.hi⟩
    · rw [t2.2.2 ?_ ⟨hX.hi, hY.hi⟩]
      · exact ix_le_pinf hv
      · have i1 := ia.2; have i2 := ic.2
        by_cases e2 : ix X.2 < ix pinf
        · exact .inr (top_word hY.rt.h (by omega))
        · exact .inl (top_word hX.rt.h e2)
theorem sub_inP {X Y : Nat × Nat} (hX : Rs X) (hY : Rs Y) {a c : Nat} (ha : NN a) (hc : NN c) (ia : InP a X) (ic : InP c Y) (hv : NN (fop .sub .f64 a c)) : InP (fop .sub .f64 a c) (subP X Y) := by
  obtain ⟨h1, h2, _⟩ := subP_all hX hY
  rw [subP_eq hX hY]
  have t2 := sub_tab hX.rt.h hY.rt.l (.inr ⟨hX.hi, hY.lo⟩)
  have cond : (ix a < ix pinf ∧ ix ninf < ix c) ∨ (ix ninf < ix a ∧ ix c < ix pinf) := by
    refine Classical.byContradiction fun h => ?_
    have hh : (a = pinf ∧ c = pinf) ∨ (a = ninf ∧ c = ninf) := by
      have p1 := pinf_nn.2; have p2 := ninf_nn.2
      rcases nn_cases ha with fa | rfl | rfl <;> rcases nn_cases hc with fc | rfl | rfl
      · exact absurd (.inl ⟨by rw [p1]; exact fa.2.2, by rw [p2]; exact fc.2.1⟩) h
      · exact absurd (.inl ⟨by rw [p1]; exact fa.2.2, ix_lt_inf⟩) h
      · exact absurd (.inr ⟨by rw [p2]; exact fa.2.1, ix_lt_inf⟩) h
      · exact absurd (.inr ⟨ix_lt_inf, by rw [p1]; exact fc.2.2⟩) h
      · exact .inl ⟨rfl, rfl⟩
      · exact absurd (.inr ⟨ix_lt_inf, ix_lt_inf⟩) h
      · exact absurd (.inl ⟨ix_lt_inf, by rw [p2]; exact fc.2.1⟩) h
      · exact absurd (.inl ⟨ix_lt_inf, ix_lt_inf⟩) h
      · exact .inr ⟨rfl, rfl⟩
    rcases hh with ⟨rfl, rfl⟩ | ⟨rfl, rfl⟩
    · exact nan_no hv (by decide +kernel)
    · exact nan_no hv (by decide +kernel)
  obtain ⟨_, u, v⟩ := sub_tab ha hc cond
  constructor
  · refine Int.le_trans (dn_leT h1) (sub_ext hX.rt.l ha hY.rt.h hc ia.1 ic.2 ⟨hX.lo, hY.hi⟩ hv fun h => v h ?_)
    rcases h with rfl | rfl
    · rcases cond with h | h
      · omega
      · exact h
    · rcases cond with h | h
      · omega
      · exact h
  · refine Int.le_trans ?_ (up_geT h2)
    by_cases e : ix a < ix pinf ∧ ix ninf < ix c
    · exact sub_ext ha hX.rt.h hc hY.rt.l ia.2 ic.1 e h2 fun h => t2.2.2 h ⟨hX.hi, hY.lo⟩
    · rw [t2.2.2 ?_ ⟨hX.hi, hY.lo⟩]
      · exact ix_le_pinf hv
      · have i1 := ia.2; have i2 := ic.1
        by_cases e2 : ix X.2 < ix pinf
        · exact .inr (bot_word hY.rt.l (by omega))
        · exact .inl (top_word hX.rt.h e2)
theorem mul_inP {X Y : Nat × Nat} (hX : Rt X) (hY : Rt Y) {a c : Nat} (ha : NN a) (hc : NN c) (ia : InP a X) (ic : InP c Y) (hv : NN (fop .mul .f64 a c)) : InP (fop .mul .f64 a c) (mulP X Y) := by
  by_cases hn : mulP X Y = Al
  · rw [hn]; exact in_all hv
  · obtain ⟨n1, n2, n3, n4, h⟩ := mul_in hX hY hn
    exact (h ha hc ia ic).inP n1 n2 n3 n4
theorem div_inP {X Y : Nat × Nat} (hX : Rt X) (hY : Rt Y) {a c : Nat} (ha : NN a) (hc : NN c) (ia : InP a X) (ic : InP c Y) (hv : NN (fop .quo .f64 a c)) : InP (fop .quo .f64 a c) (divP X Y) := by
  by_cases hn : divP X Y = Al
  · rw [hn]; exact in_all hv
  · obtain ⟨_, n1, n2, n3, n4, he, h⟩ := div_in hX hY hn
    rw [he]
    exact (h ha hc ia ic).inP n1 n2 n3 n4

end Go.Proofs.Ytdlinjijccnaeaa
