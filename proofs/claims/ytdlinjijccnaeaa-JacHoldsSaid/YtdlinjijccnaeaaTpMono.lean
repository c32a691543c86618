/- Of wider from-tos wider ones are told, infinite ends among them; a number that is reckoned of two is within what is told of two that hold them. -/
import Derived.Test.YtdlinjijccnaeaaIvW
namespace Go.Proofs.Ytdlinjijccnaeaa
open Go
set_option linter.unusedVariables false
set_option linter.unusedSimpArgs false
set_option maxRecDepth 100000

theorem nan_no {x : Nat} (h : NN x) : x ≠ nanW .f64 := by
  rintro rfl
  have := isN_iff.2 h
  rw [isN_nan] at this
  cases this
theorem ix_ninf_le {x : Nat} (h : NN x) : ix ninf ≤ ix x := by rw [ninf_nn.2]; exact h.2.1
theorem ix_le_pinf {x : Nat} (h : NN x) : ix x ≤ ix pinf := by rw [pinf_nn.2]; exact h.2.2
theorem ix_infW (s : Bool) : ix (infW s) = if s then -9218868437227405312 else 9218868437227405312 := by
  cases s
  · exact pinf_nn.2
  · exact ninf_nn.2
theorem nn_inf {x : Nat} (h : NN x) : Fi x ∨ ∃ s, x = infW s := by
  rcases nn_cases h with h | h | h
  · exact .inl h
  · exact .inr ⟨false, h⟩
  · exact .inr ⟨true, h⟩
theorem of_top {x : Nat} (h : NN x) (h2 : ix pinf ≤ ix x) : x = pinf := by
  rcases nn_cases h with h | h | h
  · rw [pinf_nn.2] at h2; have := h.2.2; omega
  · exact h
  · rw [h, pinf_nn.2, ninf_nn.2] at h2; omega
theorem of_bot {x : Nat} (h : NN x) (h2 : ix x ≤ ix ninf) : x = ninf := by
  rcases nn_cases h with h | h | h
  · rw [ninf_nn.2] at h2; have := h.2.1; omega
  · rw [h, pinf_nn.2, ninf_nn.2] at h2; omega
  · exact h
theorem zero_word {x : Nat} (h : Fi x) (h0 : ix x = 0) : x = 0 ∨ x = 9223372036854775808 := by
  obtain ⟨h1, _, _⟩ := h
  unfold ix at h0
  split at h0 <;> omega
theorem mul_inf_zero (s : Bool) {x : Nat} (h : Fi x) (h0 : ix x = 0) : fop .mul .f64 (infW s) x = nanW .f64 ∧ fop .mul .f64 x (infW s) = nanW .f64 := by
  rcases zero_word h h0 with rfl | rfl <;> cases s <;> decide +kernel
theorem inf_mul_inf (s t : Bool) : fop .mul .f64 (infW s) (infW t) = infW (s ^^ t) := by cases s <;> cases t <;> decide +kernel
theorem inf_quo_inf (s t : Bool) : fop .quo .f64 (infW s) (infW t) = nanW .f64 := by cases s <;> cases t <;> decide +kernel
theorem mul_comm_w (x y : Nat) : fop .mul .f64 x y = fop .mul .f64 y x := by
  have : floatBits .mul .f64 x y = floatBits .mul .f64 y x := by
    unfold floatBits Ieee.Format.mul
    generalize Ieee.Format.read _ x = a
    generalize Ieee.Format.read _ y = b
    have e : a.product b = b.product a := by
      cases a <;> cases b <;> simp [Ieee.Datum.product, Nat.mul_comm, Int.add_comm, Bool.xor_comm]
    simp only [e]
  unfold fop
  rw [this]
theorem mul_infR {x : Nat} (s : Bool) (h : NN x) (h0 : ix x ≠ 0) : fop .mul .f64 x (infW s) = infW (s ^^ decide (ix x < 0)) := by
  rw [mul_comm_w]
  rcases nn_inf h with h | ⟨t, rfl⟩
  · exact mul_inf s h h0
  · rw [inf_mul_inf]
    cases t
    · rfl
    · cases s <;> rfl
theorem fi_nan {x : Nat} {s : Bool} (h : x = infW s) : ¬ Fi x := by
  rintro ⟨_, h1, h2⟩
  rw [h, ix_infW] at h1 h2
  cases s <;> simp at h1 h2

/-- Between two. -/
def Btw (x y z : Nat) : Prop := (ix x ≤ ix z ∨ ix y ≤ ix z) ∧ (ix z ≤ ix x ∨ ix z ≤ ix y)
theorem Btw.l (x y : Nat) : Btw x y x := ⟨.inl (Int.le_refl _), .inl (Int.le_refl _)⟩
theorem Btw.r (x y : Nat) : Btw x y y := ⟨.inr (Int.le_refl _), .inr (Int.le_refl _)⟩
def Inf2 (x y : Nat) : Prop := (x = ninf ∧ y = pinf) ∨ (x = pinf ∧ y = ninf)

theorem mul_mo {p q r s : Nat} (hp : Fi p) (hq : Fi q) (hr : Fi r) (hs : Fi s) (h : kv p * kv q ≤ kv r * kv s) : ix (fop .mul .f64 p q) ≤ ix (fop .mul .f64 r s) :=
  (mul_rd hp hq).2.mono un_pos un_pos (mul_rd hr hs).2 (Int.mul_le_mul_of_nonneg_right h (Int.natCast_nonneg _))

/-- A product of one that is between two, by another one. -/
theorem mul1 {l h a c : Nat} (hl : NN l) (hh : NN h) (ha : NN a) (hc : NN c) (h1 : ix l ≤ ix a) (h2 : ix a ≤ ix h) (n1 : NN (fop .mul .f64 l c)) (n2 : NN (fop .mul .f64 h c)) :
    (NN (fop .mul .f64 a c) ∧ Btw (fop .mul .f64 l c) (fop .mul .f64 h c) (fop .mul .f64 a c)) ∨ Inf2 (fop .mul .f64 l c) (fop .mul .f64 h c) := by
  rcases nn_inf hc with fc | ⟨s, rfl⟩
  · rcases nn_cases ha with fa | rfl | rfl
    · have k1 := rk_le h1
      have k2 := rk_le h2
      have nac := (mul_rd fa fc).nn
      refine .inl ⟨nac, ?_⟩
      have hnz : ¬ Fi l ∨ ¬ Fi h → ix c ≠ 0 := by
        rintro (hf | hf) h0
        · rcases nn_inf hl with f | ⟨t, rfl⟩
          · exact hf f
          · exact nan_no n1 (mul_inf_zero t fc h0).1
        · rcases nn_inf hh with f | ⟨t, rfl⟩
          · exact hf f
          · exact nan_no n2 (mul_inf_zero t fc h0).1
      rcases nn_cases hl with fl | rfl | rfl
      · rcases nn_cases hh with fh | rfl | rfl
        · obtain ⟨u, v⟩ := mul_corner fl fh fc fc fa fc h1 h2 (Int.le_refl _) (Int.le_refl _)
          refine ⟨?_, ?_⟩
          · rcases u with u | u | u | u
            · exact .inl u
            · exact .inl u
            · exact .inr u
            · exact .inr u
          · rcases v with u | u | u | u
            · exact .inl u
            · exact .inl u
            · exact .inr u
            · exact .inr u
        · have h0 := hnz (.inr (fi_nan (s := false) rfl))
          have e : fop .mul .f64 pinf c = infW (false ^^ decide (ix c < 0)) := mul_inf false fc h0
          by_cases hp : ix c < 0
          · rw [decide_eq_true hp] at e
            rw [show pinf = infW false from rfl, show fop .mul .f64 (infW false) c = ninf from e]
            refine ⟨.inr (ix_ninf_le nac), .inl (mul_mo fa fc fl fc (Int.mul_le_mul_of_nonpos_right k1 (Int.le_of_lt (kv_neg.2 hp))))⟩
          · rw [decide_eq_false hp] at e
            rw [show fop .mul .f64 pinf c = pinf from e]
            refine ⟨.inl (mul_mo fl fc fa fc (Int.mul_le_mul_of_nonneg_right k1 (Int.le_of_lt (kv_pos.2 (by omega))))), .inr (ix_le_pinf nac)⟩
        · rw [ninf_nn.2] at h2; have := fa.2.1; omega
      · rw [pinf_nn.2] at h1; have := fa.2.2; omega
      · have h0 := hnz (.inl (fi_nan (s := true) rfl))
        have e : fop .mul .f64 ninf c = infW (true ^^ decide (ix c < 0)) := mul_inf true fc h0
        by_cases hp : ix c < 0
        · rw [decide_eq_true hp] at e
          have e' : fop .mul .f64 ninf c = pinf := e
          rw [e']
          refine ⟨?_, .inl (ix_le_pinf nac)⟩
          rcases nn_cases hh with fh | rfl | rfl
          · exact .inr (mul_mo fh fc fa fc (Int.mul_le_mul_of_nonpos_right k2 (Int.le_of_lt (kv_neg.2 hp))))
          · have e2 : fop .mul .f64 pinf c = infW (false ^^ decide (ix c < 0)) := mul_inf false fc h0
            rw [decide_eq_true hp] at e2
            rw [show fop .mul .f64 pinf c = ninf from e2]
            exact .inr (ix_ninf_le nac)
          · rw [ninf_nn.2] at h2; have := fa.2.1; omega
        · rw [decide_eq_false hp] at e
          have e' : fop .mul .f64 ninf c = ninf := e
          rw [e']
          refine ⟨.inl (ix_ninf_le nac), ?_⟩
          rcases nn_cases hh with fh | rfl | rfl
          · exact .inr (mul_mo fa fc fh fc (Int.mul_le_mul_of_nonneg_right k2 (Int.le_of_lt (kv_pos.2 (by omega)))))
          · have e2 : fop .mul .f64 pinf c = infW (false ^^ decide (ix c < 0)) := mul_inf false fc h0
            rw [decide_eq_false hp] at e2
            rw [show fop .mul .f64 pinf c = pinf from e2]
            exact .inr (ix_le_pinf nac)
          · rw [ninf_nn.2] at h2; have := fa.2.1; omega
    · have := of_top hh h2
      subst this
      exact .inl ⟨n2, .r _ _⟩
    · have := of_bot hl h1
      subst this
      exact .inl ⟨n1, .l _ _⟩
  · have nz : ∀ {x : Nat}, NN x → NN (fop .mul .f64 x (infW s)) → ix x ≠ 0 := by
      intro x hx hn h0
      rcases nn_inf hx with f | ⟨t, rfl⟩
      · exact nan_no hn (mul_inf_zero s f h0).2
      · rw [ix_infW] at h0; cases t <;> simp at h0
    have l0 := nz hl n1
    have h0 := nz hh n2
    rw [mul_infR s hl l0] at n1 ⊢
    rw [mul_infR s hh h0] at n2 ⊢
    by_cases hlp : ix l < 0
    · by_cases hhp : ix h < 0
      · rw [mul_infR s ha (by omega), decide_eq_true hlp, decide_eq_true (show ix a < 0 by omega)]
        exact .inl ⟨infW_nn _, .l _ _⟩
      · right
        rw [decide_eq_true hlp, decide_eq_false hhp]
        cases s
        · exact .inl ⟨rfl, rfl⟩
        · exact .inr ⟨rfl, rfl⟩
    · rw [mul_infR s ha (by omega), decide_eq_false hlp, decide_eq_false (show ¬ ix a < 0 by omega)]
      exact .inl ⟨infW_nn _, .l _ _⟩

/-! quotients -/
theorem quo_ix0 {x c : Nat} (hx : Fi x) (hc : Fi c) (h0 : ix c ≠ 0) (hz : kv x = 0) : ix (fop .quo .f64 x c) = 0 := by
  have hk : kv c ≠ 0 := by
    rcases Int.lt_or_gt_of_ne h0 with h | h
    · have := kv_neg.2 h; omega
    · have := kv_pos.2 h; omega
  have h := quo_rd hx hc hk
  rw [hz, Int.zero_mul, Int.zero_mul] at h
  exact Rd.uniq (by omega) h.2 (by
    have := Rd.same (Q := (kv c).natAbs) (j := 0) (by omega) (by decide) (by decide)
    rwa [show rk 0 = 0 from rfl, Int.zero_mul] at this)
theorem quo_nn {x c : Nat} (hx : Fi x) (hc : Fi c) (h0 : ix c ≠ 0) : NN (fop .quo .f64 x c) := by
  have hk : kv c ≠ 0 := by
    rcases Int.lt_or_gt_of_ne h0 with h | h
    · have := kv_neg.2 h; omega
    · have := kv_pos.2 h; omega
  exact (quo_rd hx hc hk).nn
theorem quo_by_inf {x : Nat} (s : Bool) (h : Fi x) : NN (fop .quo .f64 x (infW s)) ∧ ix (fop .quo .f64 x (infW s)) = 0 := by
  have key : ∃ b : Bool, fop .quo .f64 x (infW s) = (if b then 9223372036854775808 else 0) := by
    obtain ⟨b, m, e, hr, _, _⟩ := read_fi h
    refine ⟨b ^^ s, ?_⟩
    refine fop_of ?_
    unfold floatBits Ieee.Format.div
    rw [show FloatKind.f64.format.read x = _ from hr, show FloatKind.f64.format.read (infW s) = _ from read_infW s]
    simp only [Ieee.Datum.quotient]
    cases b <;> cases s <;> rfl
  obtain ⟨b, hb⟩ := key
  rw [hb]
  cases b
  · exact ⟨⟨by decide, by decide, by decide⟩, by decide⟩
  · exact ⟨⟨by decide, by decide, by decide⟩, by decide⟩
theorem quo1 {l h a c : Nat} (hl : NN l) (hh : NN h) (ha : NN a) (hc : NN c) (h0 : ix c ≠ 0) (h1 : ix l ≤ ix a) (h2 : ix a ≤ ix h) (n1 : NN (fop .quo .f64 l c)) (n2 : NN (fop .quo .f64 h c)) :
    NN (fop .quo .f64 a c) ∧ Btw (fop .quo .f64 l c) (fop .quo .f64 h c) (fop .quo .f64 a c) := by
  rcases nn_inf hc with fc | ⟨s, rfl⟩
  · rcases nn_cases ha with fa | rfl | rfl
    · have k1 := rk_le h1
      have k2 := rk_le h2
      have nac := quo_nn fa fc h0
      have qm : ∀ {x y : Nat}, Fi x → Fi y → (0 < ix c ∧ kv x ≤ kv y ∨ ix c < 0 ∧ kv y ≤ kv x) → ix (fop .quo .f64 x c) ≤ ix (fop .quo .f64 y c) := by
        intro x y fx fy hxy
        refine quo_mono fx fc fy fc ?_
        rcases hxy with ⟨hp, hk⟩ | ⟨hp, hk⟩
        · have := kv_pos.2 hp
          exact .inl ⟨this, this, Int.mul_le_mul_of_nonneg_right hk (by omega)⟩
        · have := kv_neg.2 hp
          exact .inr ⟨this, this, Int.mul_le_mul_of_nonpos_right hk (by omega)⟩
      have eP : fop .quo .f64 pinf c = infW (false ^^ decide (ix c < 0)) := quo_inf false fc h0
      have eN : fop .quo .f64 ninf c = infW (true ^^ decide (ix c < 0)) := quo_inf true fc h0
      refine ⟨nac, ?_⟩
      by_cases hp : ix c < 0
      · rw [decide_eq_true hp] at eP eN
        have eP' : fop .quo .f64 pinf c = ninf := eP
        have eN' : fop .quo .f64 ninf c = pinf := eN
        refine ⟨?_, ?_⟩
        · rcases nn_cases hh with fh | rfl | rfl
          · exact .inr (qm fh fa (.inr ⟨hp, k2⟩))
          · rw [eP']; exact .inr (ix_ninf_le nac)
          · rw [ninf_nn.2] at h2; have := fa.2.1; omega
        · rcases nn_cases hl with fl | rfl | rfl
          · exact .inl (qm fa fl (.inr ⟨hp, k1⟩))
          · rw [pinf_nn.2] at h1; have := fa.2.2; omega
          · rw [eN']; exact .inl (ix_le_pinf nac)
      · rw [decide_eq_false hp] at eP eN
        have eP' : fop .quo .f64 pinf c = pinf := eP
        have eN' : fop .quo .f64 ninf c = ninf := eN
        refine ⟨?_, ?_⟩
        · rcases nn_cases hl with fl | rfl | rfl
          · exact .inl (qm fl fa (.inl ⟨by omega, k1⟩))
          · rw [pinf_nn.2] at h1; have := fa.2.2; omega
          · rw [eN']; exact .inl (ix_ninf_le nac)
        · rcases nn_cases hh with fh | rfl | rfl
          · exact .inr (qm fa fh (.inl ⟨by omega, k2⟩))
          · rw [eP']; exact .inr (ix_le_pinf nac)
          · rw [ninf_nn.2] at h2; have := fa.2.1; omega
    · have := of_top hh h2
      subst this
      exact ⟨n2, .r _ _⟩
    · have := of_bot hl h1
      subst this
      exact ⟨n1, .l _ _⟩
  · have fin : ∀ {x : Nat}, NN x → NN (fop .quo .f64 x (infW s)) → Fi x := by
      intro x hx hn
      rcases nn_inf hx with f | ⟨t, rfl⟩
      · exact f
      · exact absurd (inf_quo_inf t s) (nan_no hn)
    have fl := fin hl n1
    have fh := fin hh n2
    have fa : Fi a := ⟨ha.1, by have := fl.2.1; omega, by have := fh.2.2; omega⟩
    obtain ⟨u1, u2⟩ := quo_by_inf s fa
    obtain ⟨v1, v2⟩ := quo_by_inf s fl
    exact ⟨u1, .inl (by omega), .inl (by omega)⟩
theorem quo2 {a p q c : Nat} (ha : NN a) (hp : NN p) (hq : NN q) (hc : NN c) (h1 : ix p ≤ ix c) (h2 : ix c ≤ ix q) (h0 : 0 < ix p ∨ ix q < 0) (n1 : NN (fop .quo .f64 a p)) (n2 : NN (fop .quo .f64 a q)) :
    NN (fop .quo .f64 a c) ∧ Btw (fop .quo .f64 a p) (fop .quo .f64 a q) (fop .quo .f64 a c) := by
  rcases nn_cases hc with fc | rfl | rfl
  · rcases nn_inf ha with fa | ⟨s, rfl⟩
    · have nac := quo_nn fa fc (by omega)
      refine ⟨nac, ?_⟩
      rcases nn_cases hp with fp | rfl | rfl
      · rcases nn_cases hq with fq | rfl | rfl
        · obtain ⟨u, v⟩ := quo_corner fa fa fp fq fa fc (Int.le_refl _) (Int.le_refl _) h1 h2 h0
          refine ⟨?_, ?_⟩
          · rcases u with u | u | u | u
            · exact .inl u
            · exact .inr u
            · exact .inl u
            · exact .inr u
          · rcases v with u | u | u | u
            · exact .inl u
            · exact .inr u
            · exact .inl u
            · exact .inr u
        · -- to infinity
          have hp0 : 0 < ix p := h0.resolve_right (by rw [pinf_nn.2]; omega)
          have kp := kv_pos.2 hp0
          have kc : 0 < kv c := kv_pos.2 (by omega)
          have kpc := rk_le h1
          obtain ⟨_, z⟩ := quo_by_inf false fa
          have z' : ix (fop .quo .f64 a pinf) = 0 := z
          have fz : Fi 0 ∧ kv 0 = 0 := ⟨fi_zero.1, by unfold kv; rw [fi_zero.2]; rfl⟩
          have e0 := quo_ix0 fz.1 fc (by omega) fz.2
          rcases Int.le_total 0 (kv a) with hs | hs
          · refine ⟨.inr ?_, .inl (quo_mono fa fc fa fp (.inl ⟨kc, kp, Int.mul_le_mul_of_nonneg_left kpc hs⟩))⟩
            rw [z', ← e0]
            refine quo_mono fz.1 fc fa fc (.inl ⟨kc, kc, ?_⟩)
            rw [fz.2, Int.zero_mul]
            exact Int.mul_nonneg hs (by omega)
          · refine ⟨.inl (quo_mono fa fp fa fc (.inl ⟨kp, kc, Int.mul_le_mul_of_nonpos_left hs kpc⟩)), .inr ?_⟩
            rw [z', ← e0]
            refine quo_mono fa fc fz.1 fc (.inl ⟨kc, kc, ?_⟩)
            rw [fz.2, Int.zero_mul]
            exact Int.mul_nonpos_of_nonpos_of_nonneg hs (by omega)
        · rw [ninf_nn.2] at h2; have := fc.2.1; omega
      · rw [pinf_nn.2] at h1; have := fc.2.2; omega
      · have hq0 : ix q < 0 := h0.resolve_left (by rw [ninf_nn.2]; omega)
        have fq : Fi q := by
          rcases nn_cases hq with f | rfl | rfl
          · exact f
          · rw [pinf_nn.2] at hq0; omega
          · rw [ninf_nn.2] at h2; have := fc.2.1; omega
        have kq := kv_neg.2 hq0
        have kc : kv c < 0 := kv_neg.2 (by omega)
        have kqc := rk_le h2
        obtain ⟨_, z⟩ := quo_by_inf true fa
        have z' : ix (fop .quo .f64 a ninf) = 0 := z
        have fz : Fi 0 ∧ kv 0 = 0 := ⟨fi_zero.1, by unfold kv; rw [fi_zero.2]; rfl⟩
        have e0 := quo_ix0 fz.1 fc (by omega) fz.2
        rcases Int.le_total 0 (kv a) with hs | hs
        · refine ⟨.inr (quo_mono fa fq fa fc (.inr ⟨kq, kc, Int.mul_le_mul_of_nonneg_left kqc hs⟩)), .inl ?_⟩
          rw [z', ← e0]
          refine quo_mono fa fc fz.1 fc (.inr ⟨kc, kc, ?_⟩)
          rw [fz.2, Int.zero_mul]
          exact Int.mul_nonpos_of_nonneg_of_nonpos hs (by omega)
        · refine ⟨.inl ?_, .inr (quo_mono fa fc fa fq (.inr ⟨kc, kq, Int.mul_le_mul_of_nonpos_left hs kqc⟩))⟩
          rw [z', ← e0]
          refine quo_mono fz.1 fc fa fc (.inr ⟨kc, kc, ?_⟩)
          rw [fz.2, Int.zero_mul]
          exact Int.mul_nonneg_of_nonpos_of_nonpos hs (by omega)
    · have fin : ∀ {x : Nat}, NN x → NN (fop .quo .f64 (infW s) x) → Fi x := by
        intro x hx hn
        rcases nn_inf hx with f | ⟨t, rfl⟩
        · exact f
        · exact absurd (inf_quo_inf s t) (nan_no hn)
      have fp := fin hp n1
      rw [quo_inf s fp (by omega), quo_inf s fc (by omega)]
      refine ⟨infW_nn _, ?_⟩
      have : decide (ix c < 0) = decide (ix p < 0) := by
        rcases h0 with h | h
        · rw [decide_eq_false (by omega), decide_eq_false (by omega)]
        · rw [decide_eq_true (by omega), decide_eq_true (by omega)]
      rw [this]
      exact .l _ _
  · have := of_top hq h2
    subst this
    exact ⟨n2, .r _ _⟩
  · have := of_bot hp h1
    subst this
    exact ⟨n1, .l _ _⟩

end Go.Proofs.Ytdlinjijccnaeaa
