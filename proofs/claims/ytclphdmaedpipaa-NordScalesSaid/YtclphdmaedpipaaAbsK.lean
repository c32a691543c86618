/- Regions that draw their order; code; functions; functions one in the other. -/
import Derived.Test.YtclphdmaedpipaaAbsJ
namespace Go.Proofs.Ytclphdmaedpipaa
open Go
set_option linter.unusedVariables false

section
variable {P : Program}

/-- Operations by their numbers. -/
def evIx (P : Program) (C : FuncId → Array Value → AHeap → Value → AHeap → Prop) (O : Orc) (q : FuncId → Nat) (ops : Array Oper) : List Nat → List Value → AHeap → List Value → AHeap → Prop
  | [], tm, H, tm', H' => tm' = tm ∧ H' = H
  | i :: rest, tm, H, tm', H' =>
    match ops[i]? with
    | none => evIx P C O q ops rest tm H tm' H'
    | some o => ∃ v H1, outR P C O q ops o tm H v H1 ∧ evIx P C O q ops rest (putT tm o.dst v) H1 tm' H'

theorem evIx_range {C : FuncId → Array Value → AHeap → Value → AHeap → Prop} {O : Orc} {q : FuncId → Nat} {ops : Array Oper} (l : List Oper) : ∀ (k : Nat) (tm : List Value) (H : AHeap) (tm' : List Value) (H' : AHeap), (∀ j, l[j]? = ops[k + j]?) →
    evOpsR P C O q ops l tm H tm' H' → evIx P C O q ops (List.range' k l.length) tm H tm' H' := by
  induction l with
  | nil => intro k tm H tm' H' _ h; exact h
  | cons o l ih =>
    intro k tm H tm' H' h hh
    have h0 : ops[k]? = some o := by simpa using (h 0).symm
    obtain ⟨v, H1, h1, h2⟩ := hh
    simp only [List.length_cons, List.range'_succ, evIx, h0]
    exact ⟨v, H1, h1, ih (k + 1) _ _ _ _ (fun j => by have := h (j + 1); simpa [Nat.add_assoc, Nat.add_comm 1 j] using this) h2⟩

theorem out_size {C : FuncId → Array Value → AHeap → Value → AHeap → Prop} {O : Orc} {q : FuncId → Nat} {ops : Array Oper} {o : Oper} {tm : List Value} {H H' : AHeap} {v : Value} (hc : opClass q o ≤ 2 ∨ opClass q o = 4) (h : outR P C O q ops o tm H v H') : H.size ≤ H'.size := by
  unfold outR at h
  split at h
  · by_cases h0 : opClass q o = 0
    · rw [(exR_pure h0 (fun _ => rfl) h).1]; exact Nat.le_refl _
    · by_cases h1 : opClass q o = 2
      · obtain ⟨L, rfl⟩ := exR_alloc h1 (fun _ => rfl) h
        simp
      · rw [exR_read (by omega) (fun _ => rfl) h]; exact Nat.le_refl _
  · rw [h.2]; exact Nat.le_refl _

theorem classOk_le {a b : Nat} (h : classOk a b = true) (hb : b ≠ 0) : a ≤ 2 ∨ a = 4 := by
  simp only [classOk, Bool.or_eq_true, Bool.and_eq_true, beq_iff_eq] at h
  omega

/-- One that may change places with all before it comes first. -/
theorem to_front {C : FuncId → Array Value → AHeap → Value → AHeap → Prop} {O : Orc} {q : FuncId → Nat} {ops : Array Oper} {i : Nat} {o : Oper} (hi : ops[i]? = some o) : ∀ (pre post : List Nat) (tm : List Value) (H : AHeap) (tm' : List Value) (H' : AHeap),
    (∀ j ∈ pre, ∀ p, ops[j]? = some p → swapOk q ops p o = true) → (opClass q o ≠ 0 → ∀ x ∈ o.op.operands.toList, ∀ a, evalT tm x = .pointer (some a) → a.block < H.size) →
    evIx P C O q ops (pre ++ i :: post) tm H tm' H' → ∃ v H1, outR P C O q ops o tm H v H1 ∧ evIx P C O q ops (pre ++ post) (putT tm o.dst v) H1 tm' H'
  | [], post, tm, H, tm', H', _, _, h => by
    simp only [List.nil_append, evIx, hi] at h
    obtain ⟨v, H1, h1, h2⟩ := h
    exact ⟨v, H1, h1, h2⟩
  | j :: pre, post, tm, H, tm', H', hpre, hwf, h => by
    cases hj : ops[j]? with
    | none =>
      simp only [List.cons_append, evIx, hj] at h
      obtain ⟨v, H1, h1, h2⟩ := to_front hi pre post tm H tm' H' (fun k hk => hpre k (List.mem_cons_of_mem _ hk)) hwf h
      exact ⟨v, H1, h1, by simpa only [List.cons_append, evIx, hj] using h2⟩
    | some p =>
      have hs := hpre j (List.mem_cons_self ..) p hj
      simp only [List.cons_append, evIx, hj] at h
      obtain ⟨vp, Hp, hp, h⟩ := h
      have hs' := hs
      simp only [swapOk, Bool.and_eq_true] at hs'
      obtain ⟨a1, a2, a3⟩ := Oper.apart_spec hs'.1
      have hev : ∀ x ∈ o.op.operands.toList, evalT (putT tm p.dst vp) x = evalT tm x := fun x hx => evalT_put fun d hd he => a1 d hd (by
        subst he
        exact List.mem_append_left _ (List.mem_filterMap.2 ⟨.tmp d, hx, rfl⟩))
      obtain ⟨v, H1, h1, h2⟩ := to_front hi pre post _ _ tm' H' (fun k hk => hpre k (List.mem_cons_of_mem _ hk)) (fun hne x hx a ha => by
        rw [hev x hx] at ha
        exact Nat.lt_of_lt_of_le (hwf hne x hx a ha) (out_size (classOk_le hs'.2 hne) hp)) h
      obtain ⟨Hm, g1, g2, g3⟩ := swap hs hwf hp h1
      refine ⟨v, Hm, g1, ?_⟩
      simp only [List.cons_append, evIx, hj]
      refine ⟨vp, H1, g2, ?_⟩
      rw [← g3]
      exact h2

/-- Numbers that are not listed yet, in order. -/
def Left (n : Nat) (listed : Array Bool) (rem : List Nat) : Prop := rem.Pairwise (· < ·) ∧ ∀ i, i ∈ rem ↔ i < n ∧ listed.getD i true = false

theorem mem_zip {α : Type} {l : List α} {i : Nat} {x : α} (h : l[i]? = some x) : (x, i) ∈ l.zipIdx := by
  rw [List.mem_iff_getElem?]
  exact ⟨i, by simp [List.getElem?_zipIdx, h]⟩

structure RegOK (q : FuncId → Nat) (ops : Array Oper) (d : List Nat) : Prop where
  back : ∀ i o, ops[i]? = some o → ∀ e ∈ o.after.toList, Region.binds .any e = true → e.on < i
  dep : ∀ i o j, ops[i]? = some o → j < ops.size → (d.getD i 0).testBit j = true → ∃ e ∈ o.after.toList, Region.binds .any e = true ∧ (e.on = j ∨ (d.getD e.on 0).testBit j = true)
  swap : ∀ i o j p, ops[i]? = some o → ops[j]? = some p → j < i → (d.getD i 0).testBit j = false → swapOk q ops p o = true

theorem regOK_of {q : FuncId → Nat} {ops : Array Oper} (h : regionOk q ops = true) : RegOK q ops (depsL ops.toList []) := by
  unfold regionOk at h
  simp only [List.all_eq_true, Bool.and_eq_true, Bool.or_eq_true, Bool.not_eq_true', decide_eq_true_eq, List.any_eq_true, beq_iff_eq] at h
  have get : ∀ i o, ops[i]? = some o → (o, i) ∈ ops.toList.zipIdx := fun i o ho => mem_zip (by simpa using ho)
  refine ⟨fun i o ho e he hb => ?_, fun i o j ho hj ht => ?_, fun i o j p ho hp hj ht => ?_⟩
  · rcases (h _ (get i o ho)).1.1 e he with h1 | h1
    · rw [h1] at hb; cases hb
    · exact h1
  · rcases (h _ (get i o ho)).1.2 j (List.mem_range.2 hj) with h1 | ⟨e, he, hb, h2⟩
    · simp only at h1; rw [h1] at ht; cases ht
    · exact ⟨e, he, hb, h2⟩
  · rcases (h _ (get i o ho)).2 _ (get j p hp) with (h1 | h1) | h1
    · simp only at h1; rw [decide_eq_false_iff_not] at h1; exact absurd hj h1
    · simp only at h1; rw [h1] at ht; cases ht
    · exact h1

theorem any_order {O : Orc} (hO : BaseOK P O) {q : FuncId → Nat} {ops : Array Oper} (hok : ops.toList.all opOk = true) {d : List Nat} (hR : RegOK q ops d) {Q : Exit → Act → World → Prop} :
    ∀ (fuel : Nat) (listed : Array Bool) (rem : List Nat) (tm : List Value) (H : AHeap) (a : Act) (m : Mp) (w : World) {tm' : List Value} {H' : AHeap}, listed.size = ops.size → Left ops.size listed rem → rem.length = fuel →
    (∀ k j, k < ops.size → listed.getD k true = true → j < ops.size → (d.getD k 0).testBit j = true → listed.getD j true = true) → HR H m w → VRl m tm a.tmps.toList → evIx P (Runs P) O q ops rem tm H tm' H' →
    (∀ a' m' w', VRl m' tm' a'.tmps.toList → a'.defers = a.defers → HR H' m' w' → Step H m w H' m' w' → Q .normal a' w') → wpAny P .any ops Q fuel listed a w := by
  intro fuel
  induction fuel with
  | zero =>
    intro listed rem tm H a m w tm' H' hsz hl hlen hcl hr ht h hQ
    have : rem = [] := List.eq_nil_of_length_eq_zero hlen
    subst this
    obtain ⟨rfl, rfl⟩ := h
    refine ⟨?_, hQ a m w ht rfl hr (.refl _ _ _)⟩
    unfold Region.ready
    rw [List.filter_eq_nil_iff]
    intro i hi
    have hni : ¬ (i < ops.size ∧ listed.getD i true = false) := fun hx => by have := (hl.2 i).2 hx; simp at this
    have hi' : i < ops.size := List.mem_range.1 hi
    have : listed.getD i true = true := by
      cases hb : listed.getD i true with
      | true => rfl
      | false => exact absurd ⟨hi', hb⟩ hni
    simp only [this]
    simp
  | succ fuel ih =>
    intro listed rem tm H a m w tm' H' hsz hl hlen hcl hr ht h hQ
    refine ⟨fun hnil => ?_, fun i hi => ?_⟩
    · -- the first that is left is ready
      exfalso
      cases hrem : rem with
      | nil => rw [hrem] at hlen; cases hlen
      | cons i rest =>
        rw [hrem] at hl
        obtain ⟨hi, hli⟩ := (hl.2 i).1 (List.mem_cons_self ..)
        have hmem : i ∈ Region.ready .any ops listed := by
          unfold Region.ready
          rw [List.mem_filter]
          refine ⟨List.mem_range.2 hi, ?_⟩
          rw [hli, Array.getElem?_eq_getElem hi]
          simp only [Bool.not_false, Bool.true_and, Option.map_some, Option.getD_some]
          rw [← Array.all_toList, List.all_eq_true]
          intro e he
          cases hb : Region.binds .any e with
          | false => rfl
          | true =>
            have hlt := hR.back i _ (Array.getElem?_eq_getElem hi) e he hb
            have hne : e.on ∉ i :: rest := by
              intro hmem
              rcases List.mem_cons.1 hmem with h1 | h1
              · omega
              · have := (List.pairwise_cons.1 hl.1).1 _ h1; omega
            have hnot : ¬ (e.on < ops.size ∧ listed.getD e.on true = false) := fun hx => hne ((hl.2 e.on).2 hx)
            have hlis : listed.getD e.on true = true := by
              cases hc : listed.getD e.on true with
              | true => rfl
              | false => exact absurd ⟨by omega, hc⟩ hnot
            have hlt2 : e.on < listed.size := by omega
            rw [Array.getD_eq_getD_getElem?, Array.getElem?_eq_getElem hlt2] at hlis ⊢
            simpa using hlis
        rw [hnil] at hmem
        cases hmem
    · unfold Region.ready at hi
      rw [List.mem_filter] at hi
      obtain ⟨hir, hi2⟩ := hi
      have hin : i < ops.size := List.mem_range.1 hir
      simp only [Bool.and_eq_true, Bool.not_eq_true'] at hi2
      obtain ⟨hli, hedges⟩ := hi2
      have hoi : ops[i]? = some ops[i] := Array.getElem?_eq_getElem hin
      rw [hoi] at hedges
      simp only [Option.map_some, Option.getD_some] at hedges
      rw [← Array.all_toList, List.all_eq_true] at hedges
      have hmem : i ∈ rem := (hl.2 i).2 ⟨hin, hli⟩
      obtain ⟨pre, post, rfl⟩ := List.append_of_mem hmem
      have hpw := hl.1
      -- all that it hangs on is listed
      have hdeps : ∀ j, j < ops.size → (d.getD i 0).testBit j = true → listed.getD j true = true := by
        intro j hj ht'
        obtain ⟨e, he, hb, hor⟩ := hR.dep i _ j hoi hj ht'
        have hlt := hR.back i _ hoi e he hb
        have h1 := hedges e he
        rw [hb] at h1
        simp only [Bool.not_true, Bool.false_or] at h1
        have hlt2 : e.on < listed.size := by omega
        have h2 : listed.getD e.on true = true := by
          rw [Array.getD_eq_getD_getElem?, Array.getElem?_eq_getElem hlt2] at h1 ⊢
          simpa using h1
        rcases hor with rfl | hor
        · exact h2
        · exact hcl e.on j (by omega) h2 hj hor
      have hpre : ∀ j ∈ pre, ∀ p, ops[j]? = some p → swapOk q ops p ops[i] = true := by
        intro j hj p hp
        have hlt : j < i := by
          rw [List.pairwise_append] at hpw
          exact hpw.2.2 j hj i (List.mem_cons_self ..)
        have hjl := ((hl.2 j).1 (List.mem_append_left _ hj))
        refine hR.swap i _ j p hoi hp hlt ?_
        cases hc : (d.getD i 0).testBit j with
        | false => rfl
        | true => rw [hdeps j hjl.1 hc] at hjl; cases hjl.2
      have hopok : opOk ops[i] = true := (List.all_eq_true.1 hok) _ (by simp)
      obtain ⟨v, H1, h1, h2⟩ := to_front hoi pre post tm H _ _ hpre (fun _ x hx ad had => by
        have hxr := evalT_rel ht ((List.all_eq_true.1 hopok) x hx)
        rw [had] at hxr
        generalize a.eval x = y at hxr
        cases hxr with
        | ptr htr =>
          unfold tr at htr
          split at htr
          · rename_i l hl'; rw [← hr.size]; exact lt_of_get hl'
          · cases htr) h
      unfold wpOp
      rw [hoi]
      simp only
      have key := outR_sound hO hopok hr ht h1 (K := wpAny P .any ops Q fuel (listed.setIfInBounds i true)) (Q := Q) (fun a' m' w' g1 g2 g3 g4 => by
        refine ih (listed.setIfInBounds i true) (pre ++ post) _ _ a' m' w' (by simpa using hsz) ?_ ?_ ?_ g3 g1 h2 (fun a2 m2 w2 e1 e2 e3 e4 => hQ a2 m2 w2 e1 (e2.trans g2) e3 (g4.trans e4))
        · refine ⟨?_, fun k => ?_⟩
          · rw [List.pairwise_append] at hpw ⊢
            exact ⟨hpw.1, (List.pairwise_cons.1 hpw.2.1).2, fun x hx y hy => hpw.2.2 x hx y (List.mem_cons_of_mem _ hy)⟩
          · have hk := hl.2 k
            have hgd : (listed.setIfInBounds i true).getD k true = if i = k then true else listed.getD k true := by
              rw [Array.getD_eq_getD_getElem?, Array.getD_eq_getD_getElem?]
              by_cases e : i = k
              · subst e; rw [Array.getElem?_setIfInBounds_self_of_lt (by omega)]; simp
              · rw [Array.getElem?_setIfInBounds_ne e, if_neg e]
            rw [hgd]
            have hnotin : i ∉ pre ∧ i ∉ post := by
              rw [List.pairwise_append] at hpw
              refine ⟨fun hx => ?_, fun hx => ?_⟩
              · have := hpw.2.2 i hx i (List.mem_cons_self ..); omega
              · have := (List.pairwise_cons.1 hpw.2.1).1 i hx; omega
            by_cases e : i = k
            · subst e
              simp [hnotin.1, hnotin.2]
            · rw [if_neg e, ← hk]
              simp only [List.mem_append, List.mem_cons]
              constructor
              · rintro (h3 | h3)
                · exact .inl h3
                · exact .inr (.inr h3)
              · rintro (h3 | h3 | h3)
                · exact .inl h3
                · exact absurd h3.symm e
                · exact .inr h3
        · simp only [List.length_append, List.length_cons] at hlen ⊢; omega
        · intro k j hk hlk hj ht'
          have hgd : ∀ k, (listed.setIfInBounds i true).getD k true = if i = k then true else listed.getD k true := by
            intro k
            rw [Array.getD_eq_getD_getElem?, Array.getD_eq_getD_getElem?]
            by_cases e : i = k
            · subst e; rw [Array.getElem?_setIfInBounds_self_of_lt (by omega)]; simp
            · rw [Array.getElem?_setIfInBounds_ne e, if_neg e]
          rw [hgd] at hlk ⊢
          by_cases e : i = j
          · rw [if_pos e]
          · rw [if_neg e]
            by_cases e2 : i = k
            · subst e2; exact hdeps j hj ht'
            · rw [if_neg e2] at hlk
              exact hcl k j hk hlk hj ht')
      by_cases hw : Region.wanted ops[i] (yielded ops a.tmps) = true
      · rw [if_pos hw] at key ⊢; exact .inl key
      · rw [if_neg hw] at key ⊢; exact key

end
end Go.Proofs.Ytclphdmaedpipaa
