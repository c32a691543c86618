/- The quotient of Models: what it tells, as a plain function, and that it holds what it must. -/
import Derived.Test.YtnbbmihlokajaaaHolds
namespace Go.Proofs.Ytnbbmihlokajaaa
open Go
set_option linter.unusedVariables false
set_option linter.unusedSimpArgs false
set_option maxRecDepth 100000

noncomputable def askDv (f : FuncId) : Nat := bif f == 64 || f == 67 || f == 66 || f == 69 then 1 else 0
noncomputable def dvQ (f : FuncId) (X Y : P2) : Obl := .run f #[vI X, vI Y] #[] (vI (divP X Y)) #[]
noncomputable def dvL (f : FuncId) (c d : Nat → P2) : Nat → List Obl
  | 0 => []
  | k + 1 => dvL f c d k ++ [dvQ f (wL d 1 (qL c d k) (c k)) (d 0)]
def dvS (c d : Nat → P2) : Nat → List Ans
  | 0 => []
  | k + 1 => dvS c d k ++ [isV' (vI (divP (wL d 1 (qL c d k) (c k)) (d 0)))]
def finP (c d : Nat → P2) : P2 := divP (rangeM (subM c (mulM d (qC c d)))) (rangeM d)
noncomputable def zInQ (X : P2) (t : Bool) : Obl := .run 64 #[.float .f64 0, vI X] #[] (.bool t) #[]
noncomputable def zHoQ (X : P2) (t : Bool) : Obl := .run 67 #[vI X] #[] (.bool t) #[]
theorem div_c (c d : Nat → P2) : (askB base1 askDv noC 12 37 #[mW c, mW d] #[] ([yes false, yes false] ++ dvS c d 9 ++ [isV' (vI (finP c d))])).map (fun r => (r.1, r.2.2)) =
    some (mW (divM c d), [zInQ (d 0) false, zInQ (rangeM d) false] ++ dvL 66 c d 9 ++ [dvQ 66 (rangeM (subM c (mulM d (qC c d)))) (rangeM d)]) := by kernel_rfl
theorem div_cN (c d : Nat → P2) (t u : Bool) (h : t = true ∨ u = true) : (askB base1 askDv noC 12 37 #[mW c, mW d] #[] [yes t, yes u]).map (fun r => (r.1, r.2.2)) =
    some (mW noneM, [zInQ (d 0) t, zInQ (rangeM d) u]) := by
  cases t <;> cases u
  · simp at h
  · kernel_rfl
  · kernel_rfl
  · kernel_rfl

def zIn (X : P2) : Bool := decide (ix X.1 ≤ 0 ∧ 0 ≤ ix X.2)
theorem zIn_runs {X : P2} (h1 : NN X.1) (h2 : NN X.2) : Runs Try.prog 64 #[.float .f64 0, vI X] #[] (.bool (zIn X)) #[] := by
  unfold zIn
  by_cases h : ix X.1 ≤ 0 ∧ 0 ≤ ix X.2
  · rw [decide_eq_true h]
    exact in_yes nn_zero.1 h1 h2 (by rw [nn_zero.2]; omega) (by rw [nn_zero.2]; omega)
  · rw [decide_eq_false h]
    exact in_no nn_zero.1 h1 h2 (by rw [nn_zero.2]; omega)
theorem okAll_app {P : Program} : ∀ {l m : List Obl}, okAll P l → okAll P m → okAll P (l ++ m)
  | [], _, _, h => h
  | _ :: _, _, h, g => ⟨h.1, okAll_app h.2 g⟩
theorem dvL_ok {c d : Nat → P2} (h1 : NN (d 0).1) (h2 : NN (d 0).2) : ∀ k, okAll Try.prog (dvL 66 c d k)
  | 0 => trivial
  | k + 1 => okAll_app (dvL_ok h1 h2 k) ⟨(div_w _ h1 h2).1, trivial⟩
theorem rangeM_rt (c : Nat → P2) : Rt (rangeM c) := addP_rt _ _
/-- The quotient, or what cannot be told. -/
def quoM (c d : Nat → P2) : Nat → P2 := bif zIn (d 0) || zIn (rangeM d) then noneM else divM c d
theorem quoM_runs (c : Nat → P2) {d : Nat → P2} (h1 : NN (d 0).1) (h2 : NN (d 0).2) : Runs Try.prog 37 #[mW c, mW d] #[] (mW (quoM c d)) #[] := by
  have r := rangeM_rt d
  have g1 := zIn_runs h1 h2
  have g2 := zIn_runs r.l r.h
  unfold quoM
  cases e1 : zIn (d 0) with
  | true =>
    rw [e1] at g1
    exact quietB base1_ok (div_cN c d true (zIn (rangeM d)) (.inl rfl)) ⟨g1, g2, trivial⟩ rfl rfl
  | false => cases e2 : zIn (rangeM d) with
    | true =>
      rw [e1] at g1; rw [e2] at g2
      exact quietB base1_ok (div_cN c d false true (.inr rfl)) ⟨g1, g2, trivial⟩ rfl rfl
    | false =>
      rw [e1] at g1; rw [e2] at g2
      refine quietB base1_ok (div_c c d) ⟨g1, g2, okAll_app (dvL_ok h1 h2 9) ⟨(div_w _ r.l r.h).1, trivial⟩⟩ rfl rfl

/-! what a quotient holds -/
theorem quo_corner_lo {A B C D X Y z : Rat} (h1 : A ≤ X) (h3 : C ≤ Y) (h4 : Y ≤ D) (hz : X = z * Y) : A ≤ z * C ∨ A ≤ z * D := by
  by_cases h : 0 ≤ z
  · exact .inr (Rat.le_trans h1 (hz ▸ Rat.mul_le_mul_of_nonneg_left h4 h))
  · have h' : 0 ≤ -z := by grind
    have := Rat.mul_le_mul_of_nonneg_left h3 h'
    exact .inl (by grind)
theorem quo_corner_hi {A B C D X Y z : Rat} (h2 : X ≤ B) (h3 : C ≤ Y) (h4 : Y ≤ D) (hz : X = z * Y) : z * C ≤ B ∨ z * D ≤ B := by
  by_cases h : 0 ≤ z
  · exact .inl (Rat.le_trans (Rat.mul_le_mul_of_nonneg_left h3 h) (hz ▸ h2))
  · have h' : 0 ≤ -z := by grind
    have := Rat.mul_le_mul_of_nonneg_left h4 h'
    exact .inr (by grind)

/-- No more than it, or below all. -/
def LoT (a : Nat) (z : Rat) : Prop := ix a = -9218868437227405312 ∨ (Fi a ∧ kR a ≤ z * uR)
def HiT (b : Nat) (z : Rat) : Prop := ix b = 9218868437227405312 ∨ (Fi b ∧ z * uR ≤ kR b)
structure TR (X : P2) (z : Rat) : Prop where
  rt : Rt X
  lo : LoT X.1 z
  hi : HiT X.2 z
theorem TR.all (z : Rat) : TR (ninf, pinf) z := ⟨rt_all, .inl ninf_nn.2, .inl pinf_nn.2⟩
theorem MR.tr {n : Nat} {X : P2} {z : Rat} (h : MR n X z) (hn : n < 2047) : TR X z := ⟨h.rt hn, .inr ⟨h.bl.fi hn, h.lo⟩, .inr ⟨h.bh.fi hn, h.hi⟩⟩
theorem lo_T {Q : Nat} {Z : Int} {s lo : Nat} {z : Rat} (hQ : 0 < Q) (h : IsR Q Z s) (hlo : NN lo) (hle : ix lo ≤ ix s) (hz : (Z : Rat) ≤ z * uR * ((Q : Nat) : Rat)) : LoT (dn lo) z := by
  obtain ⟨d1, d2⟩ := dn_ix hlo
  have hs := h.nn.2
  by_cases e : ix lo = -9218868437227405312
  · rw [if_pos e] at d2; exact .inl d2
  · rw [if_neg e] at d2
    by_cases e2 : ix lo = -9218868437227405311
    · exact .inl (by omega)
    · have hl := hlo.2
      refine .inr ⟨⟨d1.1, by omega, by omega⟩, ?_⟩
      have hd := h.2.down hQ (by omega)
      have h3 : rk (ix lo - 1) ≤ rk (ix s - 1) := rk_le (by omega)
      have hk : kv (dn lo) = rk (ix lo - 1) := by unfold kv; rw [d2]
      have h4 : kv (dn lo) * (Q : Int) ≤ Z := by
        rw [hk]
        exact Int.le_trans (Int.mul_le_mul_of_nonneg_right h3 (Int.natCast_nonneg _)) (Int.le_of_lt hd)
      have h5 : ((kv (dn lo) : Int) : Rat) * ((Q : Nat) : Rat) ≤ ((Z : Int) : Rat) := by exact_mod_cast h4
      have hq : (0 : Rat) < ((Q : Nat) : Rat) := by exact_mod_cast hQ
      exact Rat.le_of_mul_le_mul_right (Rat.le_trans h5 hz) hq
theorem hi_T {Q : Nat} {Z : Int} {s hi : Nat} {z : Rat} (hQ : 0 < Q) (h : IsR Q Z s) (hhi : NN hi) (hle : ix s ≤ ix hi) (hz : z * uR * ((Q : Nat) : Rat) ≤ (Z : Rat)) : HiT (up hi) z := by
  obtain ⟨d1, d2⟩ := up_ix hhi
  have hs := h.nn.2
  by_cases e : ix hi = 9218868437227405312
  · rw [if_pos e] at d2; exact .inl d2
  · rw [if_neg e] at d2
    by_cases e2 : ix hi = 9218868437227405311
    · exact .inl (by omega)
    · have hl := hhi.2
      refine .inr ⟨⟨d1.1, by omega, by omega⟩, ?_⟩
      have hd := h.2.up hQ (by omega)
      have h3 : rk (ix s + 1) ≤ rk (ix hi + 1) := rk_le (by omega)
      have hk : kv (up hi) = rk (ix hi + 1) := by unfold kv; rw [d2]
      have h4 : Z ≤ kv (up hi) * (Q : Int) := by
        rw [hk]
        exact Int.le_trans (Int.le_of_lt hd) (Int.mul_le_mul_of_nonneg_right h3 (Int.natCast_nonneg _))
      have h5 : ((Z : Int) : Rat) ≤ ((kv (up hi) : Int) : Rat) * ((Q : Nat) : Rat) := by exact_mod_cast h4
      have hq : (0 : Rat) < ((Q : Nat) : Rat) := by exact_mod_cast hQ
      exact Rat.le_of_mul_le_mul_right (Rat.le_trans hz h5) hq

theorem quo_pos {x y : Nat} (hx : Fi x) (hy : Fi y) (h : 0 < kv y) : IsR (kv y).natAbs (kv x * un) (fop .quo .f64 x y) := by
  have := quo_rd hx hy (by omega)
  rw [if_neg (by omega), Int.mul_one] at this
  exact this
theorem kR_pos {b : Nat} (h : 0 < kR b) : 0 < kv b := by
  have h2 : ((0 : Int) : Rat) < ((kv b : Int) : Rat) := h
  exact_mod_cast h2
/-- Below, above a quotient by a number above 0. -/
theorem quo_lo {a c lo : Nat} {z : Rat} (ha : Fi a) (hc : Fi c) (h0 : 0 < kv c) (hlo : NN lo) (hle : ix lo ≤ ix (fop .quo .f64 a c)) (h : kR a ≤ z * kR c) : LoT (dn lo) z := by
  refine lo_T (by omega) (quo_pos ha hc h0) hlo hle ?_
  have e : (((kv c).natAbs : Nat) : Rat) = kR c := by
    have : (((kv c).natAbs : Nat) : Int) = kv c := by omega
    show (((kv c).natAbs : Nat) : Rat) = ((kv c : Int) : Rat)
    rw [← this]; rfl
  rw [e, Rat.intCast_mul]
  have := Rat.mul_le_mul_of_nonneg_right h (Rat.le_of_lt uR_pos)
  show kR a * uR ≤ _
  grind
theorem quo_hi {b c hi : Nat} {z : Rat} (hb : Fi b) (hc : Fi c) (h0 : 0 < kv c) (hhi : NN hi) (hle : ix (fop .quo .f64 b c) ≤ ix hi) (h : z * kR c ≤ kR b) : HiT (up hi) z := by
  refine hi_T (by omega) (quo_pos hb hc h0) hhi hle ?_
  have e : (((kv c).natAbs : Nat) : Rat) = kR c := by
    have : (((kv c).natAbs : Nat) : Int) = kv c := by omega
    show (((kv c).natAbs : Nat) : Rat) = ((kv c : Int) : Rat)
    rw [← this]; rfl
  rw [e, Rat.intCast_mul]
  have := Rat.mul_le_mul_of_nonneg_right h (Rat.le_of_lt uR_pos)
  show _ ≤ kR b * uR
  grind

theorem divP_eq {X Y : P2} (h : 0 < ix Y.1) : divP X Y = spanP (fop .quo .f64 X.1 Y.1) (fop .quo .f64 X.1 Y.2) (fop .quo .f64 X.2 Y.1) (fop .quo .f64 X.2 Y.2) := by
  unfold divP
  rw [decide_eq_false (by omega)]
  rfl
theorem MR.div {n m : Nat} {X Y : P2} {x y z : Rat} (h : MR n X x) (h' : MR m Y y) (hn : n < 2047) (hm : m < 2047) (h0 : 0 < ix Y.1) (hz : x = z * y) : TR (divP X Y) z := by
  have r := h'.rt hm
  have p1 := kv_pos.2 h0
  have p2 : 0 < kv Y.2 := kv_pos.2 (by have := r.le; omega)
  have fa := h.bl.fi hn
  have fb := h.bh.fi hn
  have fc := h'.bl.fi hm
  have fd := h'.bh.fi hm
  have f1 := (quo_pos fa fc p1).nn
  have f2 := (quo_pos fa fd p2).nn
  have f3 := (quo_pos fb fc p1).nn
  have f4 := (quo_pos fb fd p2).nn
  have e := ends_of f1 f2 f3 f4
  have rt := divP_rt X Y
  rw [divP_eq h0, spanP_eq f1 f2 f3 f4] at *
  have q : x * uR = z * (y * uR) := by rw [hz]; grind
  refine ⟨rt, ?_, ?_⟩
  · rcases quo_corner_lo (B := 0) h.lo h'.lo h'.hi q with c | c
    · exact quo_lo fa fc p1 e.nlo e.lo_a c
    · exact quo_lo fa fd p2 e.nlo e.lo_b c
  · rcases quo_corner_hi (A := 0) h.hi h'.lo h'.hi q with c | c
    · exact quo_hi fb fc p1 e.nhi e.hi_c c
    · exact quo_hi fb fd p2 e.nhi e.hi_d c
theorem bd_quo {n x y : Nat} (hx : Bd n x) (hn : n < 2047) (hy : Fi y) (h1 : (un : Int) ≤ kv y) : Bd n (fop .quo .f64 x y) := by
  have hu : (0 : Int) < un := by have := un_pos; omega
  have h := quo_pos (hx.fi hn) hy (by omega)
  refine ⟨h.1, h.2.abs (by omega) (by omega) ?_⟩
  rw [Int.natAbs_mul]
  have e0 : ((un : Nat) : Int).natAbs = un := Int.natAbs_natCast _
  rw [e0]
  exact Nat.mul_le_mul hx.kv (by omega)
/-- By a number that is one or more: no greater. -/
theorem MR.div1 {n m : Nat} {X Y : P2} {x y z : Rat} (h : MR n X x) (h' : MR m Y y) (hn : n < 2046) (hm : m < 2047) (h0 : (un : Int) ≤ kv Y.1) (hz : x = z * y) : MR (n + 1) (divP X Y) z := by
  have hu : (0 : Int) < un := by have := un_pos; omega
  have r := h'.rt hm
  have hi : 0 < ix Y.1 := by
    by_cases g : 0 < ix Y.1
    · exact g
    · have : kv Y.1 ≤ rk 0 := rk_le (by omega)
      rw [rk_zero] at this
      omega
  have h02 : (un : Int) ≤ kv Y.2 := Int.le_trans h0 (rk_le r.le)
  have t := h.div h' (by omega) hm hi hz
  have fc := h'.bl.fi hm
  have fd := h'.bh.fi hm
  have b1 : Bd n (fop .quo .f64 X.1 Y.1) := bd_quo h.bl (by omega) fc h0
  have b2 : Bd n (fop .quo .f64 X.1 Y.2) := bd_quo h.bl (by omega) fd h02
  have b3 : Bd n (fop .quo .f64 X.2 Y.1) := bd_quo h.bh (by omega) fc h0
  have b4 : Bd n (fop .quo .f64 X.2 Y.2) := bd_quo h.bh (by omega) fd h02
  have f1 := (b1.fi (by omega)).nn
  have f2 := (b2.fi (by omega)).nn
  have f3 := (b3.fi (by omega)).nn
  have f4 := (b4.fi (by omega)).nn
  have e := ends_of f1 f2 f3 f4
  rw [divP_eq hi, spanP_eq f1 f2 f3 f4] at *
  generalize loB (fop .quo .f64 X.2 Y.2) (loB (fop .quo .f64 X.2 Y.1) (loB (fop .quo .f64 X.1 Y.2) (fop .quo .f64 X.1 Y.1))) = lo at e t ⊢
  generalize hiB (fop .quo .f64 X.2 Y.2) (hiB (fop .quo .f64 X.2 Y.1) (hiB (fop .quo .f64 X.1 Y.2) (fop .quo .f64 X.1 Y.1))) = hi at e t ⊢
  have bl : Bd n lo := by rcases e.lo_is with q | q | q | q <;> rw [q] <;> assumption
  have bh : Bd n hi := by rcases e.hi_is with q | q | q | q <;> rw [q] <;> assumption
  have dl := (bl.dn hn).1
  have uh := (bh.up hn).1
  refine ⟨dl, uh, ?_, ?_⟩
  · rcases t.lo with g | g
    · have := (dl.fi (by omega)).2; simp only at g; omega
    · exact g.2
  · rcases t.hi with g | g
    · have := (uh.fi (by omega)).2; simp only at g; omega
    · exact g.2

/-! sums with what may be without end -/
theorem add_ninf {x : Nat} (h : Fi x) : fop .add .f64 x ninf = ninf := add_inf_r true h
theorem add_pinf {x : Nat} (h : Fi x) : fop .add .f64 x pinf = pinf := add_inf_r false h
theorem MR.addT {n : Nat} {X Y : P2} {x y : Rat} (h : MR n X x) (h' : TR Y y) (hn : n < 2047) : TR (addP X Y) (x + y) := by
  have fa := h.bl.fi hn
  have fb := h.bh.fi hn
  have lo : NN (fop .add .f64 X.1 Y.1) ∧ LoT (dn (fop .add .f64 X.1 Y.1)) (x + y) := by
    rcases h'.lo with g | ⟨g1, g2⟩
    · have e : Y.1 = ninf := by
        rcases nn_cases h'.rt.l with q | q | q
        · have := q.2; omega
        · rw [q, pinf_nn.2] at g; cases g
        · exact q
      rw [e, add_ninf fa, dn_ninf]
      exact ⟨ninf_nn.1, .inl ninf_nn.2⟩
    · have hr := add_rd fa g1
      refine ⟨hr.nn, lo_T (by decide) hr hr.nn (Int.le_refl _) ?_⟩
      have := h.lo
      rw [Rat.intCast_add]
      show kR X.1 + kR Y.1 ≤ (x + y) * uR * 1
      grind
  have hi : NN (fop .add .f64 X.2 Y.2) ∧ HiT (up (fop .add .f64 X.2 Y.2)) (x + y) := by
    rcases h'.hi with g | ⟨g1, g2⟩
    · have e : Y.2 = pinf := by
        rcases nn_cases h'.rt.h with q | q | q
        · have := q.2; omega
        · exact q
        · rw [q, ninf_nn.2] at g; cases g
      rw [e, add_pinf fb, up_pinf]
      exact ⟨pinf_nn.1, .inl pinf_nn.2⟩
    · have hr := add_rd fb g1
      refine ⟨hr.nn, hi_T (by decide) hr hr.nn (Int.le_refl _) ?_⟩
      have := h.hi
      rw [Rat.intCast_add]
      show (x + y) * uR * 1 ≤ kR X.2 + kR Y.2
      grind
  have rt := addP_rt X Y
  unfold addP outP at *
  cases c : (isN (fop .add .f64 X.1 Y.1) && isN (fop .add .f64 X.2 Y.2) && decide (ix (dn (fop .add .f64 X.1 Y.1)) ≤ ix (up (fop .add .f64 X.2 Y.2)))) with
  | true => rw [c] at rt; exact ⟨rt, lo.2, hi.2⟩
  | false => exact TR.all _
theorem TR.holds {X : P2} {x : Rat} {v : Nat} (h : TR X x) (hf : Fi v) (hv : kR v = x * uR) : ix X.1 ≤ ix v ∧ ix v ≤ ix X.2 := by
  have f := hf.2
  constructor
  · rcases h.lo with g | ⟨_, g⟩
    · omega
    · rw [← hv] at g
      have h1 : kv X.1 ≤ kv v := by exact_mod_cast g
      exact rk_le_iff.1 h1
  · rcases h.hi with g | ⟨_, g⟩
    · omega
    · rw [← hv] at g
      have h1 : kv v ≤ kv X.2 := by exact_mod_cast g
      exact rk_le_iff.1 h1
theorem in_of_tr {X : P2} {x : Rat} {v : Nat} (h : TR X x) (hf : Fi v) (hv : kR v = x * uR) : Runs Try.prog 20 #[.float .f64 v, vI X] #[] (.bool true) #[] := by
  obtain ⟨h1, h2⟩ := h.holds hf hv
  exact in_yesR hf.nn h.rt.l h.rt.h h1 h2

/-! the quotient's rows -/
def AllMR (B : Nat) : List P2 → List Rat → Prop
  | [], [] => True
  | q :: l, g :: m => MR B q g ∧ AllMR B l m
  | _, _ => False
theorem AllMR.mono {B C : Nat} (h : B ≤ C) : ∀ {l : List P2} {m : List Rat}, AllMR B l m → AllMR C l m
  | [], [], _ => trivial
  | _ :: _, _ :: _, h2 => ⟨h2.1.mono h, AllMR.mono h h2.2⟩
  | [], _ :: _, h2 => h2
  | _ :: _, [], h2 => h2
def wS (δ : Nat → Rat) : Nat → List Rat → Rat → Rat
  | _, [], w => w
  | i, q :: l, w => wS δ (i + 1) l (w - δ i * q)
def qS (γ δ : Nat → Rat) : Nat → List Rat
  | 0 => []
  | k + 1 => (wS δ 1 (qS γ δ k) (γ k) / δ 0) :: qS γ δ k
theorem wL_mr {d : Nat → P2} {δ : Nat → Rat} {σ : Rat} {B : Nat} (hd : EM 1030 d δ σ) (hB : 1023 ≤ B) (hB2 : B < 1900) : ∀ (l : List P2) (m : List Rat) (i n : Nat) (w : P2) (g : Rat), AllMR B l m → i + l.length ≤ 9 → B + 9 ≤ n → n + 2 * l.length < 2040 → MR n w g → MR (n + 2 * l.length) (wL d i l w) (wS δ i m g)
  | [], [], _, _, _, _, _, _, _, _, h => h
  | q :: l, x :: m, i, n, w, g, hl, hi, hn, hn2, h => by
    simp only [List.length_cons] at hi hn2
    have p := (hd.co i (by omega)).mul (r := B + 7) hl.1 (by decide) (by omega) (by decide) (by omega) (by omega) (by omega) (by omega)
    have s := h.sub (p.mono (by omega)) (by omega) (by omega)
    have := wL_mr hd hB hB2 l m (i + 1) (n + 2) _ _ hl.2 (by omega) (by omega) (by omega) s
    have e : n + 2 + 2 * l.length = n + 2 * (l.length + 1) := by omega
    rw [e] at this
    exact this
  | [], _ :: _, _, _, _, _, h, _, _, _, _ => h.elim
  | _ :: _, [], _, _, _, _, h, _, _, _, _ => h.elim
theorem qL_len (c d : Nat → P2) : ∀ k, (qL c d k).length = k
  | 0 => rfl
  | k + 1 => by simp only [qL, List.length_cons, qL_len c d k]
theorem qL_mr {c d : Nat → P2} {γ δ : Nat → Rat} {ρ σ : Rat} {n : Nat} (hc : EM n c γ ρ) (hd : EM 1030 d δ σ) (hn : 1023 ≤ n) (hn2 : n < 1500) (h0 : (un : Int) ≤ kv (d 0).1) (hδ : δ 0 ≠ 0) : ∀ k, k ≤ 9 → AllMR (n + 30 * k) (qL c d k) (qS γ δ k)
  | 0, _ => trivial
  | k + 1, hk => by
    have ih := qL_mr hc hd hn hn2 h0 hδ k (by omega)
    have hl := qL_len c d k
    have w := wL_mr hd (by omega) (by omega) (qL c d k) (qS γ δ k) 1 (n + 30 * k + 9) (c k) (γ k) ih (by rw [hl]; omega) (Nat.le_refl _) (by rw [hl]; omega) ((hc.co k (by omega)).mono (by omega))
    rw [hl] at w
    have q := w.div1 (z := wS δ 1 (qS γ δ k) (γ k) / δ 0) (hd.co 0 (by decide)) (by omega) (by decide) h0 (by rw [Rat.div_def, Rat.mul_assoc, Rat.inv_mul_cancel _ hδ, Rat.mul_one])
    exact ⟨q.mono (by omega), ih.mono (by omega)⟩
def atS : List Rat → Nat → Rat
  | [], _ => 0
  | q :: _, 0 => q
  | _ :: l, n + 1 => atS l n
theorem AllMR.at {B : Nat} (hB : 1 ≤ B) : ∀ {l : List P2} {m : List Rat} (k : Nat), AllMR B l m → MR B (at0 l k) (atS m k)
  | [], [], _, _ => mr_zero hB
  | _ :: _, _ :: _, 0, h => h.1
  | _ :: _, _ :: _, k + 1, h => AllMR.at hB k h.2
  | [], _ :: _, _, h => h.elim
  | _ :: _, [], _, h => h.elim

/-- A Model that holds, what is left perhaps without end. -/
def EvT (n : Nat) (s : Rat) (c : Nat → P2) (x : Rat) : Prop := ∃ γ ρ, (∀ k, k ≤ 8 → MR n (c k) (γ k)) ∧ TR (c 9) ρ ∧ pS γ s + ρ = x
theorem EvT.none (s x : Rat) : EvT 1030 s noneM x := by
  refine ⟨fun _ => 0, x, fun k hk => ?_, ?_, ?_⟩
  · have e : noneM k = (0, 0) := by unfold noneM; rw [Nat.ble_eq_true_of_le hk]; rfl
    rw [e]; exact mr_zero (by decide)
  · have e : noneM 9 = (ninf, pinf) := by unfold noneM; rw [show Nat.ble 9 8 = false from rfl]; exact cond_false _ _
    rw [e]; exact TR.all _
  · simp only [pS]; grind
theorem rangeM_pos {m : Nat} {d : Nat → P2} {y : Rat} (h : MR m (rangeM d) y) (hm : m < 2047) (hy : 0 < y) (hz : zIn (rangeM d) = false) : 0 < ix (rangeM d).1 := by
  unfold zIn at hz
  rw [decide_eq_false_iff_not] at hz
  have r := h.rt hm
  have : 0 < ix (rangeM d).2 := by
    have h1 : (0 : Rat) < kR (rangeM d).2 := by
      have := h.hi
      have h2 : 0 < y * uR := Rat.mul_pos hy uR_pos
      grind
    have h2 := kR_pos h1
    by_cases g : 0 < ix (rangeM d).2
    · exact g
    · have : kv (rangeM d).2 ≤ rk 0 := rk_le (by omega)
      rw [rk_zero] at this
      omega
  omega
theorem Ev.quo {n : Nat} {s x y z : Rat} {c d : Nat → P2} {δ : Nat → Rat} {σ : Rat} (h : Ev n s c x) (hd : EM 1030 d δ σ) (hy : pS δ s + σ = y) (hn : 1023 ≤ n) (hn2 : n < 1300) (h0 : (un : Int) ≤ kv (d 0).1) (hδ : δ 0 ≠ 0) (hy0 : 0 < y) (hz : x = z * y) (s0 : -1 ≤ s) (s1 : s ≤ 0) : EvT (n + 270) s (quoM c d) z := by
  obtain ⟨γ, ρ, hc, rfl⟩ := h
  have evd : Ev 1030 s d y := ⟨δ, σ, hd, hy⟩
  have rd := evd.range (by decide) (by decide) s0 s1
  unfold quoM
  cases e : (zIn (d 0) || zIn (rangeM d)) with
  | true =>
    show EvT _ s noneM z
    obtain ⟨γ', ρ', h1, h2⟩ := EvT.none s z
    exact ⟨γ', ρ', fun k hk => (h1 k hk).mono (by omega), h2⟩
  | false =>
    show EvT _ s (divM c d) z
    rw [Bool.or_eq_false_iff] at e
    have q9 := qL_mr hc hd hn (by omega) h0 hδ 9 (by decide)
    have hq : EM (n + 270) (qC c d) (fun k => atS (qS γ δ 9) (8 - k)) 0 := by
      refine ⟨fun k hk => ?_, ?_⟩
      · have e : qC c d k = at0 (qL c d 9) (8 - k) := by unfold qC; rw [Nat.ble_eq_true_of_le hk]; rfl
        rw [e]; exact q9.at (by omega) _
      · have e : qC c d 9 = (0, 0) := by unfold qC; rw [show Nat.ble 9 8 = false from rfl]; exact cond_false _ _
        rw [e]; exact mr_zero (by omega)
    have evq : Ev (n + 270) s (qC c d) (pS (fun k => atS (qS γ δ 9) (8 - k)) s) := ⟨_, _, hq, by rw [Rat.add_zero]⟩
    have evc : Ev n s c (pS γ s + ρ) := ⟨γ, ρ, hc, rfl⟩
    have evm := evd.mul evq (p := n + 278) (by decide) (by omega) (by decide) (by omega) (by omega) (by omega) s0 s1
    have evs := (evc.mono (show n ≤ n + 278 + 77 by omega)).sub evm (by omega) (by omega)
    have rs := evs.range (by omega) (by omega) s0 s1
    refine ⟨fun k => atS (qS γ δ 9) (8 - k), z - pS (fun k => atS (qS γ δ 9) (8 - k)) s, fun k hk => ?_, ?_, by grind⟩
    · have e : divM c d k = qC c d k := by unfold divM; rw [Nat.ble_eq_true_of_le hk]; rfl
      rw [e]
      exact hq.co k hk
    · have e9 : divM c d 9 = finP c d := by unfold divM finP; rw [show Nat.ble 9 8 = false from rfl]; exact cond_false _ _
      rw [e9]
      exact rs.div rd (by omega) (by decide) (rangeM_pos rd (by decide) hy0 e.2) (by rw [hz]; grind)
theorem EvT.holds {n : Nat} {s x : Rat} {c : Nat → P2} {S : P2} (h : EvT n s c x) (hn : 1023 ≤ n) (hn2 : n < 2000) (hS : MR 1023 S s) : TR (heldM c S) x := by
  obtain ⟨γ, ρ, h, hr, rfl⟩ := h
  -- the rows alone: what is left is taken as nought
  have he : EM n (setR c (0, 0)) γ 0 := ⟨fun k hk => by
      have e : setR c (0, 0) k = c k := by unfold setR; rw [Nat.ble_eq_true_of_le hk]; rfl
      rw [e]; exact h k hk, by
      have e : setR c (0, 0) 9 = (0, 0) := by unfold setR; rw [show Nat.ble 9 8 = false from rfl]; exact cond_false _ _
      rw [e]; exact mr_zero (by omega)⟩
  have g := he.horn hn hn2 hS
  exact g.addT hr (by omega)
theorem EvT.range {n : Nat} {s x : Rat} {c : Nat → P2} (h : EvT n s c x) (hn : 1023 ≤ n) (hn2 : n < 2000) (s0 : -1 ≤ s) (s1 : s ≤ 0) : TR (rangeM c) x := by
  obtain ⟨γ, ρ, h, hr, rfl⟩ := h
  have he : EM n (setR c (0, 0)) γ 0 := ⟨fun k hk => by
      have e : setR c (0, 0) k = c k := by unfold setR; rw [Nat.ble_eq_true_of_le hk]; rfl
      rw [e]; exact h k hk, by
      have e : setR c (0, 0) 9 = (0, 0) := by unfold setR; rw [show Nat.ble 9 8 = false from rfl]; exact cond_false _ _
      rw [e]; exact mr_zero (by omega)⟩
  have g := he.poly (ρ := 0) hn hn2 s0 s1
  exact g.addT hr (by omega)
theorem holdsT_runs {n : Nat} {c : Nat → P2} {s x : Nat} {q y : Rat} (h : EvT n q c y) (hn : 1023 ≤ n) (hn2 : n < 2000) (hs : MR 1023 (s, s) q) (hf : Fi x) (hx : kR x = y * uR) : Runs Try.prog 30 #[mW c, .float .f64 s, .float .f64 x] #[] (.bool true) #[] :=
  quietB base1_ok (holds_c c s x true) ⟨in_of_tr (h.holds hn hn2 hs) hf hx, trivial⟩ rfl rfl

end Go.Proofs.Ytnbbmihlokajaaa
