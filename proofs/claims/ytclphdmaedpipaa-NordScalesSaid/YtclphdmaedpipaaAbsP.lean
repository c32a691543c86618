/- Regions in which several blocks are made and several places written, in any order that their edges allow. -/
import Derived.Test.YtclphdmaedpipaaAbsK
namespace Go.Proofs.Ytclphdmaedpipaa
open Go
set_option linter.unusedVariables false
set_option linter.unusedSimpArgs false

section
variable {P : Program}

theorem readVar_set {t : TypeId} {H : AHeap} {a : Addr} {k : Nat} {x : Option ABlk} (h : a.block ≠ k) : readVar P (H.setIfInBounds k x) t a = readVar P H t a := by
  unfold readVar
  rw [Array.getElem?_setIfInBounds_ne (fun e => h e.symm)]

theorem writeVar_spec {t : TypeId} {H H' : AHeap} {a : Addr} {v : Value} (h : writeVar P H t a v = some H') :
    ∃ B B', H[a.block]? = some (some B) ∧ H' = H.setIfInBounds a.block (some B') ∧ ∀ H2 : AHeap, H2[a.block]? = H[a.block]? → writeVar P H2 t a v = some (H2.setIfInBounds a.block (some B')) := by
  unfold writeVar at h
  split at h
  · rename_i B i hB hi
    split at h
    · rename_i hc
      injection h with h
      refine ⟨B, _, hB, h.symm, fun H2 h2 => ?_⟩
      unfold writeVar
      rw [h2, hB, hi]
      simp only
      rw [if_pos hc]
    · cases h
  · cases h

theorem set_comm' {H : AHeap} {i j : Nat} {x y : Option ABlk} (h : i ≠ j) : (H.setIfInBounds i x).setIfInBounds j y = (H.setIfInBounds j y).setIfInBounds i x := by
  apply Array.ext'
  simp only [Array.toList_setIfInBounds]
  exact List.set_comm _ _ h

theorem set_get_ne {H : AHeap} {i j : Nat} {x : Option ABlk} (h : i ≠ j) : (H.setIfInBounds i x)[j]? = H[j]? := Array.getElem?_setIfInBounds_ne h

section
variable {C : FuncId → Array Value → AHeap → Value → AHeap → Prop} {O : Orc} {q : FuncId → Nat} {o : Oper} {ρ : Operand → Value} {H H' : AHeap} {v : Value}
theorem exR_store {t : TypeId} {x y : Operand} (hop : o.op = .store t x y) : exR P C O q ρ H o v H' ↔ v = undef ∧ ∃ a, ρ x = .pointer (some a) ∧ writeVar P H t a (ρ y) = some H' := by
  rw [exR_other (by intro c f h; rw [hop] at h; cases h)]
  simp only [exec1, hop]
  constructor
  · intro h
    split at h
    · rename_i a ha
      simp only [Option.map_eq_some_iff, Prod.mk.injEq] at h
      obtain ⟨H2, h1, h2, h3⟩ := h
      subst h3
      exact ⟨h2.symm, a, ha, h1⟩
    · cases h
  · rintro ⟨rfl, a, ha, h⟩
    rw [ha]
    simp [h]
end

theorem isAl_op {o : Oper} (h : isAl o = true) : ∃ e, o.op = .alloc e := by
  unfold isAl at h
  split at h
  · rename_i e he; exact ⟨e, he⟩
  · cases h
theorem isSt_op {o : Oper} (h : isSt o = true) : ∃ t x y, o.op = .store t x y := by
  unfold isSt at h
  split at h
  · rename_i t x y he; exact ⟨t, x, y, he⟩
  · cases h

theorem outF_congr {C : FuncId → Array Value → AHeap → Value → AHeap → Prop} {O : Orc} {q : FuncId → Nat} {ops : Array Oper} {k : Nat} {o : Oper} {tm : List Value} (H : AHeap) {dst : Option Tmp} (u v : Value) (H' : AHeap) (h : ∀ d, dst = some d → d ∉ o.looksAt ops) :
    outF P C O q ops k o (putT tm dst u) H v H' ↔ outF P C O q ops k o tm H v H' := by
  unfold outF
  rw [wantedL_put h]
  have := exR_congr (P := P) (C := C) (O := O) (q := q) (o := o) (ρ := evalT (putT tm dst u)) (ρ' := evalT tm) H v H' (fun x hx => evalT_put fun d hd he => h d hd (by
    subst he
    exact List.mem_append_left _ (List.mem_filterMap.2 ⟨.tmp d, hx, rfl⟩)))
  split
  · cases o.op <;> first | exact this | exact Iff.rfl
  · exact Iff.rfl

theorem outF_ne {C : FuncId → Array Value → AHeap → Value → AHeap → Prop} {O : Orc} {q : FuncId → Nat} {ops : Array Oper} {k : Nat} {o : Oper} {tm : List Value} {H : AHeap} {v : Value} {H' : AHeap} (h : isAl o = false) :
    outF P C O q ops k o tm H v H' ↔ outR P C O q ops o tm H v H' := by
  unfold outF outR
  split
  · cases hop : o.op <;> first | exact Iff.rfl | (unfold isAl at h; rw [hop] at h; cases h)
  · exact Iff.rfl

/-- What is told of an operation in such a region. -/
def Kind (q : FuncId → Nat) (o : Oper) : Prop := isAl o = true ∨ isSt o = true ∨ opClass q o = 0 ∨ opClass q o = 1

theorem class_al {q : FuncId → Nat} {o : Oper} (h : isAl o = true) : opClass q o = 2 := by
  obtain ⟨e, he⟩ := isAl_op h
  unfold opClass
  rw [he]
theorem class_st {q : FuncId → Nat} {o : Oper} (h : isSt o = true) : opClass q o = 3 := by
  obtain ⟨t, x, y, he⟩ := isSt_op h
  unfold opClass
  rw [he]

/-- Two that may change places, in such a region. -/
theorem swapF_ok {C : FuncId → Array Value → AHeap → Value → AHeap → Prop} {O : Orc} {q : FuncId → Nat} {ops : Array Oper} {p o : Oper} {kp ko : Nat} (hap : p.apart ops o = true)
    (hcl : classF q p o = true ∨ isDyn (opClass q p) (opClass q o) = true) (hkp : Kind q p) (hko : Kind q o) (hne : isAl p = true → isAl o = true → kp ≠ ko) {tm : List Value} {H H1 H2 : AHeap} {vp vo : Value}
    (hwf : isAl p = true → opClass q o ≠ 0 → ∀ x ∈ o.op.operands.toList, ∀ a, evalT tm x = .pointer (some a) → a.block ≠ kp)
    (hdyn : classF q p o = false → ∀ x ∈ p.op.operands.toList.take 1, ∀ y ∈ o.op.operands.toList.take 1, ∀ a b, evalT tm x = .pointer (some a) → evalT tm y = .pointer (some b) → a.block ≠ b.block)
    (h1 : outF P C O q ops kp p tm H vp H1) (h2 : outF P C O q ops ko o (putT tm p.dst vp) H1 vo H2) :
    ∃ Hm, outF P C O q ops ko o tm H vo Hm ∧ outF P C O q ops kp p (putT tm o.dst vo) Hm vp H2 ∧ putT (putT tm p.dst vp) o.dst vo = putT (putT tm o.dst vo) p.dst vp := by
  obtain ⟨a1, a2, a3⟩ := Oper.apart_spec hap
  rw [outF_congr H1 vp vo H2 a1] at h2
  have hcomm := putT_comm tm (x := p.dst) (y := o.dst) vp vo a2
  have hcong : ∀ Hx, outF P C O q ops kp p (putT tm o.dst vo) Hx vp H2 ↔ outF P C O q ops kp p tm Hx vp H2 := fun Hx => outF_congr Hx vo vp H2 a3
  simp only [hcong]
  have hfun : ∀ g, evalT tm (.func g) = .func (.func g) #[] #[] := fun _ => rfl
  have pureOut : ∀ (r : Oper) (k : Nat) (Hx Hy : AHeap) (v : Value), (opClass q r = 0 ∨ wantedL ops r tm = false) → outF P C O q ops k r tm Hx v Hy → Hy = Hx ∧ ∀ Hz, outF P C O q ops k r tm Hz v Hz := by
    intro r k Hx Hy v hr hx
    by_cases hw : wantedL ops r tm = true
    · rcases hr with hr | hr
      · have hna : isAl r = false := by
          cases h : isAl r with
          | false => rfl
          | true => rw [class_al h] at hr; cases hr
        simp only [outF_ne hna] at hx ⊢
        unfold outR at hx ⊢
        simp only [hw, if_true] at hx ⊢
        exact exR_pure hr hfun hx
      · rw [hw] at hr; cases hr
    · unfold outF at hx ⊢
      simp only [hw] at hx ⊢
      simp only [Bool.false_eq_true, if_false] at hx ⊢
      exact ⟨hx.2, fun Hz => ⟨hx.1, trivial⟩⟩
  by_cases hp : opClass q p = 0 ∨ wantedL ops p tm = false
  · obtain ⟨rfl, hpz⟩ := pureOut p kp H H1 vp hp h1
    exact ⟨H2, h2, hpz H2, hcomm⟩
  by_cases ho : opClass q o = 0 ∨ wantedL ops o tm = false
  · obtain ⟨rfl, hoz⟩ := pureOut o ko H1 H2 vo ho h2
    exact ⟨H, hoz H, h1, hcomm⟩
  have wp_ : wantedL ops p tm = true := by cases h : wantedL ops p tm <;> simp_all
  have wo_ : wantedL ops o tm = true := by cases h : wantedL ops o tm <;> simp_all
  have np : opClass q p ≠ 0 := fun h => hp (.inl h)
  have no : opClass q o ≠ 0 := fun h => ho (.inl h)
  have alU : ∀ (r : Oper) (k : Nat) (Hx Hy : AHeap) (v : Value) (e : TypeId), r.op = .alloc e → wantedL ops r tm = true → (outF P C O q ops k r tm Hx v Hy ↔ allocF P e k Hx v Hy) := by
    intro r k Hx Hy v e he hw
    unfold outF
    rw [if_pos hw, he]
  have reU : ∀ (r : Oper) (k : Nat) (Hx Hy : AHeap) (v : Value), isAl r = false → wantedL ops r tm = true → (outF P C O q ops k r tm Hx v Hy ↔ exR P C O q (evalT tm) Hx r v Hy) := by
    intro r k Hx Hy v hn hw
    rw [outF_ne hn]
    unfold outR
    rw [if_pos hw]
  -- the kinds
  cases hpa : isAl p with
  | true =>
    obtain ⟨e, he⟩ := isAl_op hpa
    rw [alU p kp H H1 vp e he wp_] at h1
    obtain ⟨i, z, i1, i2, i3, i4, rfl, rfl⟩ := h1
    have back : ∀ Hz : AHeap, Hz[kp]? = some none → outF P C O q ops kp p tm Hz (.pointer (some ⟨kp, 0, none⟩)) (Hz.setIfInBounds kp (some ⟨z.cells, e, 0, true⟩)) := fun Hz hz =>
      (alU p kp Hz _ _ e he wp_).2 ⟨i, z, i1, i2, i3, hz, rfl, rfl⟩
    cases hoa : isAl o with
    | true =>
      obtain ⟨e2, he2⟩ := isAl_op hoa
      have hk := hne hpa hoa
      rw [alU o ko _ H2 vo e2 he2 wo_] at h2
      obtain ⟨i', z', j1, j2, j3, j4, rfl, rfl⟩ := h2
      rw [set_get_ne hk] at j4
      refine ⟨_, (alU o ko H _ _ e2 he2 wo_).2 ⟨i', z', j1, j2, j3, j4, rfl, rfl⟩, ?_, hcomm⟩
      rw [set_comm' hk]
      exact back _ (by rw [set_get_ne (fun h => hk h.symm)]; exact i4)
    | false =>
      rw [reU o ko _ H2 vo hoa wo_] at h2
      rcases hko with h | h | h | h
      · rw [hoa] at h; cases h
      · obtain ⟨t, x, y, hop⟩ := isSt_op h
        obtain ⟨rfl, a, ha, hw⟩ := (exR_store hop).1 h2
        have hb := hwf hpa no x (by simp [hop, Op.operands]) a ha
        obtain ⟨B, B', b1, rfl, b3⟩ := writeVar_spec hw
        refine ⟨H.setIfInBounds a.block (some B'), (reU o ko H _ _ hoa wo_).2 ((exR_store hop).2 ⟨rfl, a, ha, b3 H (by rw [set_get_ne (fun h => hb h.symm)])⟩), ?_, hcomm⟩
        rw [set_comm' (fun h => hb h.symm)]
        exact back _ (by rw [set_get_ne hb]; exact i4)
      · exact absurd h no
      · obtain ⟨t, x, hop⟩ := class_load (O := O) (ρ := evalT tm) h
        obtain ⟨rfl, a, ha, hrd⟩ := (exR_load hop).1 h2
        have hb := hwf hpa no x (by simp [hop, Op.operands]) a ha
        rw [readVar_set hb] at hrd
        exact ⟨H, (reU o ko H _ _ hoa wo_).2 ((exR_load hop).2 ⟨rfl, a, ha, hrd⟩), back H i4, hcomm⟩
  | false =>
    rw [reU p kp H H1 vp hpa wp_] at h1
    have hkp' : isSt p = true ∨ opClass q p = 1 := by
      rcases hkp with h | h | h | h
      · rw [hpa] at h; cases h
      · exact .inl h
      · exact absurd h np
      · exact .inr h
    cases hoa : isAl o with
    | true =>
      obtain ⟨e2, he2⟩ := isAl_op hoa
      rw [alU o ko _ H2 vo e2 he2 wo_] at h2
      obtain ⟨i', z', j1, j2, j3, j4, rfl, rfl⟩ := h2
      rcases hkp' with h | h
      · obtain ⟨t, x, y, hop⟩ := isSt_op h
        obtain ⟨rfl, a, ha, hw⟩ := (exR_store hop).1 h1
        obtain ⟨B, B', b1, rfl, b3⟩ := writeVar_spec hw
        have hb : a.block ≠ ko := by
          intro e3
          have hlt := lt_of_get b1
          rw [e3] at hlt j4
          rw [Array.getElem?_setIfInBounds_self_of_lt hlt] at j4
          injection j4 with j4
          cases j4
        rw [set_get_ne hb] at j4
        refine ⟨_, (alU o ko H _ _ e2 he2 wo_).2 ⟨i', z', j1, j2, j3, j4, rfl, rfl⟩, ?_, hcomm⟩
        rw [set_comm' hb]
        exact (reU p kp _ _ _ hpa wp_).2 ((exR_store hop).2 ⟨rfl, a, ha, b3 _ (by rw [set_get_ne (fun h => hb h.symm)])⟩)
      · obtain ⟨t, x, hop⟩ := class_load (O := O) (ρ := evalT tm) h
        obtain ⟨rfl, a, ha, hrd⟩ := (exR_load hop).1 h1
        have hb : a.block ≠ ko := by
          intro e3
          unfold readVar at hrd
          rw [e3, j4] at hrd
          cases hrd
        refine ⟨_, (alU o ko H1 _ _ e2 he2 wo_).2 ⟨i', z', j1, j2, j3, j4, rfl, rfl⟩, ?_, hcomm⟩
        exact (reU p kp _ _ _ hpa wp_).2 ((exR_load hop).2 ⟨rfl, a, ha, by rw [readVar_set hb]; exact hrd⟩)
    | false =>
      rw [reU o ko _ H2 vo hoa wo_] at h2
      have hko' : isSt o = true ∨ opClass q o = 1 := by
        rcases hko with h | h | h | h
        · rw [hoa] at h; cases h
        · exact .inl h
        · exact absurd h no
        · exact .inr h
      cases hcf : classF q p o with
      | true =>
        simp only [classF, hpa, hoa, Bool.or_false, Bool.or_eq_true, Bool.and_eq_true, beq_iff_eq] at hcf
        have h11 : opClass q p = 1 ∧ opClass q o = 1 := by omega
        have e1 := exR_read (.inl h11.1) hfun h1
        subst e1
        have e2 := exR_read (.inl h11.2) hfun h2
        subst e2
        exact ⟨_, (reU o ko _ _ _ hoa wo_).2 h2, (reU p kp _ _ _ hpa wp_).2 h1, hcomm⟩
      | false =>
        have hd := hdyn hcf
        rcases hkp' with hs | hl
        · rcases hko' with hs2 | hl2
          · exfalso
            rcases hcl with h | h
            · rw [hcf] at h; cases h
            · rw [class_st hs, class_st hs2] at h; cases h
          · obtain ⟨t, x, y, hop⟩ := isSt_op hs
            obtain ⟨t2, x2, hop2⟩ := class_load (O := O) (ρ := evalT tm) hl2
            obtain ⟨rfl, a, ha, hw⟩ := (exR_store hop).1 h1
            obtain ⟨B, B', b1, rfl, b3⟩ := writeVar_spec hw
            obtain ⟨rfl, b, hb, hrd⟩ := (exR_load hop2).1 h2
            have hab := hd x (by simp [hop, Op.operands]) x2 (by simp [hop2, Op.operands]) a b ha hb
            rw [readVar_set (fun h => hab h.symm)] at hrd
            exact ⟨H, (reU o ko _ _ _ hoa wo_).2 ((exR_load hop2).2 ⟨rfl, b, hb, hrd⟩), (reU p kp _ _ _ hpa wp_).2 ((exR_store hop).2 ⟨rfl, a, ha, hw⟩), hcomm⟩
        · rcases hko' with hs2 | hl2
          · obtain ⟨t, x, y, hop⟩ := isSt_op hs2
            obtain ⟨t2, x2, hop2⟩ := class_load (O := O) (ρ := evalT tm) hl
            obtain ⟨rfl, a, ha, hrd⟩ := (exR_load hop2).1 h1
            obtain ⟨rfl, b, hb, hw⟩ := (exR_store hop).1 h2
            obtain ⟨B, B', b1, rfl, b3⟩ := writeVar_spec hw
            have hab := hd x2 (by simp [hop2, Op.operands]) x (by simp [hop, Op.operands]) a b ha hb
            refine ⟨_, (reU o ko _ _ _ hoa wo_).2 ((exR_store hop).2 ⟨rfl, b, hb, hw⟩), (reU p kp _ _ _ hpa wp_).2 ((exR_load hop2).2 ⟨rfl, a, ha, by rw [readVar_set hab]; exact hrd⟩), hcomm⟩
          · exfalso
            simp only [classF, hl, hl2] at hcf
            simp at hcf

end
end Go.Proofs.Ytclphdmaedpipaa
