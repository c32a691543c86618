/- Regions in which several blocks are made: any order of theirs comes to the text's. -/
import Derived.Test.YtclphdmaedpipaaAbsP
namespace Go.Proofs.Ytclphdmaedpipaa
open Go
set_option linter.unusedVariables false
set_option linter.unusedSimpArgs false

section
variable {P : Program}

/-- The place that is kept for the i-th operation's block. -/
def placeOf (ops : Array Oper) (base i : Nat) : Nat := base + countB isAl (ops.toList.take i)

def evIxF (P : Program) (C : FuncId → Array Value → AHeap → Value → AHeap → Prop) (O : Orc) (q : FuncId → Nat) (ops : Array Oper) (base : Nat) : List Nat → List Value → AHeap → List Value → AHeap → Prop
  | [], tm, H, tm', H' => tm' = tm ∧ H' = H
  | i :: rest, tm, H, tm', H' =>
    match ops[i]? with
    | none => evIxF P C O q ops base rest tm H tm' H'
    | some o => ∃ v H1, outF P C O q ops (placeOf ops base i) o tm H v H1 ∧ evIxF P C O q ops base rest (putT tm o.dst v) H1 tm' H'

theorem countB_append {α : Type} (p : α → Bool) : ∀ (l : List α) (a : α), countB p (l ++ [a]) = if p a then countB p l + 1 else countB p l
  | [], a => by simp [countB]
  | b :: l, a => by
    simp only [List.cons_append, countB, countB_append p l a]
    split <;> split <;> rfl

theorem place_succ {ops : Array Oper} {base i : Nat} {o : Oper} (h : ops[i]? = some o) : placeOf ops base (i + 1) = if isAl o then placeOf ops base i + 1 else placeOf ops base i := by
  unfold placeOf
  have : ops.toList.take (i + 1) = ops.toList.take i ++ [o] := by
    have h2 : ops.toList[i]? = some o := by simpa using h
    rw [List.take_add_one, h2]
    rfl
  rw [this, countB_append]
  split <;> omega

theorem place_lt {ops : Array Oper} {base i : Nat} {o : Oper} (h : ops[i]? = some o) (ha : isAl o = true) : ∀ j, i < j → placeOf ops base i < placeOf ops base j := by
  have mono : ∀ j k, j ≤ k → placeOf ops base j ≤ placeOf ops base k := by
    intro j k hjk
    induction k with
    | zero => have : j = 0 := by omega
              subst this; exact Nat.le_refl _
    | succ k ih =>
      rcases Nat.lt_or_ge j (k + 1) with h1 | h1
      · refine Nat.le_trans (ih (by omega)) ?_
        cases hk : ops[k]? with
        | some p => rw [place_succ hk]; split <;> omega
        | none =>
          have : ops.size ≤ k := by
            rcases Nat.lt_or_ge k ops.size with h2 | h2
            · rw [Array.getElem?_eq_getElem h2] at hk; cases hk
            · exact h2
          unfold placeOf
          rw [List.take_of_length_le (by simpa using this), List.take_of_length_le (by simp; omega)]
          exact Nat.le_refl _
      · have : j = k + 1 := by omega
        subst this; exact Nat.le_refl _
  intro j hij
  have h1 := mono (i + 1) j hij
  rw [place_succ h, if_pos ha] at h1
  omega

theorem evIxF_range {C : FuncId → Array Value → AHeap → Value → AHeap → Prop} {O : Orc} {q : FuncId → Nat} {ops : Array Oper} {base : Nat} (l : List Oper) : ∀ (k : Nat) (tm : List Value) (H : AHeap) (tm' : List Value) (H' : AHeap), (∀ j, l[j]? = ops[k + j]?) →
    evOpsFR P C O q ops l (placeOf ops base k) tm H tm' H' → evIxF P C O q ops base (List.range' k l.length) tm H tm' H' := by
  induction l with
  | nil => intro k tm H tm' H' _ h; exact h
  | cons o l ih =>
    intro k tm H tm' H' h hh
    have h0 : ops[k]? = some o := by simpa using (h 0).symm
    obtain ⟨v, H1, h1, h2⟩ := hh
    simp only [List.length_cons, List.range'_succ, evIxF, h0]
    rw [← place_succ h0] at h2
    exact ⟨v, H1, h1, ih (k + 1) _ _ _ _ (fun j => by have := h (j + 1); simpa [Nat.add_assoc, Nat.add_comm 1 j] using this) h2⟩

/-- What no operation that is left writes stays. -/
theorem final_val {C : FuncId → Array Value → AHeap → Value → AHeap → Prop} {O : Orc} {q : FuncId → Nat} {ops : Array Oper} {base : Nat} {x : Operand} : ∀ (l : List Nat) (tm : List Value) (H : AHeap) (tm' : List Value) (H' : AHeap),
    (∀ i ∈ l, ∀ o, ops[i]? = some o → ∀ d, o.dst = some d → x ≠ .tmp d) → evIxF P C O q ops base l tm H tm' H' → evalT tm' x = evalT tm x
  | [], tm, H, tm', H', _, h => by obtain ⟨rfl, _⟩ := h; rfl
  | i :: l, tm, H, tm', H', hx, h => by
    have hl := fun j hj => hx j (List.mem_cons_of_mem _ hj)
    cases hi : ops[i]? with
    | none =>
      simp only [evIxF, hi] at h
      exact final_val l tm H tm' H' hl h
    | some o =>
      simp only [evIxF, hi] at h
      obtain ⟨v, H1, _, h2⟩ := h
      rw [final_val l _ _ _ _ hl h2]
      exact evalT_put fun d hd => hx i (List.mem_cons_self ..) o hi d hd

structure RegF (q : FuncId → Nat) (ops : Array Oper) (d : List Nat) : Prop where
  back : ∀ i o, ops[i]? = some o → ∀ e ∈ o.after.toList, Region.binds .any e = true → e.on < i
  dep : ∀ i o j, ops[i]? = some o → j < ops.size → (d.getD i 0).testBit j = true → ∃ e ∈ o.after.toList, Region.binds .any e = true ∧ (e.on = j ∨ (d.getD e.on 0).testBit j = true)
  swap : ∀ i o j p, ops[i]? = some o → ops[j]? = some p → j < i → (d.getD i 0).testBit j = false → swapF q ops p j o i = true
  kind : ∀ (i : Nat) (o : Oper), ops[i]? = some o → Kind q o

theorem regF_of {q : FuncId → Nat} {ops : Array Oper} (h : regionF q ops = true) (hs : special q ops = true) : RegF q ops (depsL ops.toList []) := by
  unfold regionF at h
  simp only [List.all_eq_true, Bool.and_eq_true, Bool.or_eq_true, Bool.not_eq_true', decide_eq_true_eq, List.any_eq_true, beq_iff_eq] at h
  have get : ∀ i o, ops[i]? = some o → (o, i) ∈ ops.toList.zipIdx := fun i o ho => mem_zip (by simpa using ho)
  refine ⟨fun i o ho e he hb => ?_, fun i o j ho hj ht => ?_, fun i o j p ho hp hj ht => ?_, fun i o ho => ?_⟩
  · rcases (h _ (get i o ho)).1.1 e he with h1 | h1
    · rw [h1] at hb; cases hb
    · exact h1
  · rcases (h _ (get i o ho)).1.2 j (List.mem_range.2 hj) with h1 | ⟨e, he, hb, h2⟩
    · simp only at h1; rw [h1] at ht; cases ht
    · exact ⟨e, he, hb, h2⟩
  · rcases (h _ (get i o ho)).2 _ (get j p hp) with (h1 | h1) | h1
    · simp only at h1; rw [decide_eq_false_iff_not] at h1; exact absurd hj h1
    · simp only at h1; rw [h1] at ht; cases ht
    · exact h1
  · unfold special at hs
    simp only [Bool.and_eq_true, List.all_eq_true, Bool.or_eq_true] at hs
    have hm : o ∈ ops.toList := List.mem_of_getElem? (by simpa using ho)
    rcases hs.2 o hm with (h1 | h1) | h1
    · exact .inl h1
    · exact .inr (.inl h1)
    · split at h1
      · rename_i h2; exact .inr (.inr (.inl h2))
      · rename_i h2; exact .inr (.inr (.inr h2))
      · cases h1

theorem dyn_of {q : FuncId → Nat} {ops : Array Oper} {tm : List Value} (h : dynOk q ops tm = true) {i j : Nat} {o p : Oper} (ho : ops[i]? = some o) (hp : ops[j]? = some p) (hj : j < i)
    (hd : isDyn (opClass q p) (opClass q o) = true) (ht : ((depsL ops.toList []).getD i 0).testBit j = false) : differ tm p o = true := by
  unfold dynOk at h
  simp only [List.all_eq_true, Bool.or_eq_true, Bool.not_eq_true', decide_eq_false_iff_not] at h
  have get : ∀ i o, ops[i]? = some o → (o, i) ∈ ops.toList.zipIdx := fun i o ho => mem_zip (by simpa using ho)
  rcases h _ (get i o ho) _ (get j p hp) with ((h1 | h1) | h1) | h1
  · exact absurd hj h1
  · simp only at h1; rw [hd] at h1; cases h1
  · simp only at h1; rw [ht] at h1; cases h1
  · exact h1

theorem differ_spec {tm : List Value} {p o : Oper} (h : differ tm p o = true) : ∃ d e, addrOf p = some d ∧ addrOf o = some e ∧ ∀ a b, getT tm d = .pointer (some a) → getT tm e = .pointer (some b) → a.block ≠ b.block := by
  unfold differ at h
  split at h
  · rename_i d e hd he
    refine ⟨d, e, hd, he, fun a b ha hb => ?_⟩
    unfold blockOf at h
    rw [ha, hb] at h
    simp only [Bool.not_eq_true', beq_eq_false_iff_ne] at h
    exact h
  · cases h

theorem addr_first {o : Oper} {d : Tmp} (h : addrOf o = some d) : o.op.operands.toList.take 1 = [.tmp d] := by
  unfold addrOf at h
  split at h
  · rename_i t e hop; injection h with h; subst h; rw [hop]; simp [Op.operands]
  · rename_i t e y hop; injection h with h; subst h; rw [hop]; simp [Op.operands]
  · cases h

theorem noAssign_spec {ops : Array Oper} {i : Nat} {d : Tmp} (h : noAssign ops i d = true) {k : Nat} (hk : i ≤ k) {o : Oper} (ho : ops[k]? = some o) : ∀ e, o.dst = some e → (Operand.tmp d) ≠ .tmp e := by
  intro e he hde
  injection hde with hde
  subst hde
  unfold noAssign at h
  rw [List.all_eq_true] at h
  have hm : o ∈ ops.toList.drop i := by
    refine List.mem_of_getElem? (i := k - i) ?_
    rw [List.getElem?_drop, show i + (k - i) = k by omega]
    simpa using ho
  have := h o hm
  rw [he] at this
  simp at this

/-- One that may change places with all before it comes first. -/
theorem to_frontF {C : FuncId → Array Value → AHeap → Value → AHeap → Prop} {O : Orc} {q : FuncId → Nat} {ops : Array Oper} {base : Nat} {d : List Nat} (hR : RegF q ops d) {i : Nat} {o : Oper} (hi : ops[i]? = some o) :
    ∀ (pre post : List Nat) (tm : List Value) (H : AHeap) (tm' : List Value) (H' : AHeap), (pre ++ i :: post).Pairwise (· < ·) →
    (∀ j ∈ pre, (d.getD i 0).testBit j = false) →
    (∀ j ∈ pre, ∀ p, ops[j]? = some p → isAl p = true → opClass q o ≠ 0 → ∀ x ∈ o.op.operands.toList, ∀ a, evalT tm x = .pointer (some a) → a.block ≠ placeOf ops base j) →
    (∀ j ∈ pre, ∀ p, ops[j]? = some p → isDyn (opClass q p) (opClass q o) = true → differ tm' p o = true) →
    evIxF P C O q ops base (pre ++ i :: post) tm H tm' H' → ∃ v H1, outF P C O q ops (placeOf ops base i) o tm H v H1 ∧ evIxF P C O q ops base (pre ++ post) (putT tm o.dst v) H1 tm' H'
  | [], post, tm, H, tm', H', _, _, _, _, h => by
    simp only [List.nil_append, evIxF, hi] at h
    obtain ⟨v, H1, h1, h2⟩ := h
    exact ⟨v, H1, h1, h2⟩
  | j :: pre, post, tm, H, tm', H', hpw, hdep, hwf, hdy, h => by
    have hpw' : (pre ++ i :: post).Pairwise (· < ·) := (List.pairwise_cons.1 hpw).2
    have hji : ∀ k ∈ pre ++ i :: post, j < k := (List.pairwise_cons.1 hpw).1
    cases hj : ops[j]? with
    | none =>
      simp only [List.cons_append, evIxF, hj] at h
      obtain ⟨v, H1, h1, h2⟩ := to_frontF hR hi pre post tm H tm' H' hpw' (fun k hk => hdep k (List.mem_cons_of_mem _ hk)) (fun k hk => hwf k (List.mem_cons_of_mem _ hk)) (fun k hk => hdy k (List.mem_cons_of_mem _ hk)) h
      exact ⟨v, H1, h1, by simpa only [List.cons_append, evIxF, hj] using h2⟩
    | some p =>
      have hjlt : j < i := hji i (List.mem_append_right _ (List.mem_cons_self ..))
      have hs := hR.swap i o j p hi hj hjlt (hdep j (List.mem_cons_self ..))
      have hall := h
      simp only [List.cons_append, evIxF, hj] at h
      obtain ⟨vp, Hp, hp, h⟩ := h
      unfold swapF at hs
      simp only [Bool.and_eq_true, Bool.or_eq_true] at hs
      obtain ⟨hap, hcl⟩ := hs
      obtain ⟨a1, a2, a3⟩ := Oper.apart_spec hap
      have hev : ∀ x ∈ o.op.operands.toList, evalT (putT tm p.dst vp) x = evalT tm x := fun x hx => evalT_put fun d hd he => a1 d hd (by
        subst he
        exact List.mem_append_left _ (List.mem_filterMap.2 ⟨.tmp d, hx, rfl⟩))
      obtain ⟨v, H1, h1, h2⟩ := to_frontF hR hi pre post _ _ tm' H' hpw' (fun k hk => hdep k (List.mem_cons_of_mem _ hk)) (fun k hk r hr hal hne x hx a ha => by
        rw [hev x hx] at ha
        exact hwf k (List.mem_cons_of_mem _ hk) r hr hal hne x hx a ha) (fun k hk => hdy k (List.mem_cons_of_mem _ hk)) h
      have hpl : isAl p = true → placeOf ops base j < placeOf ops base i := fun ha => place_lt hj ha i hjlt
      have hdyn : classF q p o = false → ∀ x ∈ p.op.operands.toList.take 1, ∀ y ∈ o.op.operands.toList.take 1, ∀ a b, evalT tm x = .pointer (some a) → evalT tm y = .pointer (some b) → a.block ≠ b.block := by
        intro hcf x hx y hy a b ha hb
        rcases hcl with hc | ⟨⟨hdd, hsj⟩, hsi⟩
        · rw [hcf] at hc; cases hc
        · obtain ⟨dd, ee, e1, e2, e3⟩ := differ_spec (hdy j (List.mem_cons_self ..) p hj hdd)
          rw [addr_first e1] at hx
          rw [addr_first e2] at hy
          simp only [List.mem_singleton] at hx hy
          subst hx hy
          have n1 : noAssign ops j dd = true := by unfold dynSt at hsj; rw [e1] at hsj; exact hsj
          have n2 : noAssign ops i ee = true := by unfold dynSt at hsi; rw [e2] at hsi; exact hsi
          have f1 : evalT tm' (.tmp dd) = evalT tm (.tmp dd) := by
            refine final_val _ tm H tm' H' ?_ hall
            intro k hk r hr e he
            refine noAssign_spec n1 ?_ hr e he
            rcases List.mem_cons.1 hk with rfl | hk
            · exact Nat.le_refl _
            · exact Nat.le_of_lt (hji k hk)
          have f2 : evalT tm' (.tmp ee) = evalT tm (.tmp ee) := by
            refine final_val _ tm H tm' H' ?_ hall
            intro k hk r hr e he
            rcases List.mem_append.1 hk with hk | hk
            · -- before it: apart
              have hkd := hdep k hk
              have hki : k < i := by
                rw [List.pairwise_append] at hpw
                exact hpw.2.2 k hk i (List.mem_cons_self ..)
              have hsk := hR.swap i o k r hi hr hki hkd
              unfold swapF at hsk
              simp only [Bool.and_eq_true] at hsk
              obtain ⟨b1, _, _⟩ := Oper.apart_spec hsk.1
              intro hde
              refine b1 e he (List.mem_append_left _ (List.mem_filterMap.2 ⟨.tmp ee, ?_, by injection hde with hde; rw [hde]⟩))
              have := addr_first e2
              have h9 : (Operand.tmp ee) ∈ o.op.operands.toList.take 1 := by rw [this]; exact List.mem_singleton.2 rfl
              exact List.mem_of_mem_take h9
            · refine noAssign_spec n2 ?_ hr e he
              rcases List.mem_cons.1 hk with rfl | hk
              · exact Nat.le_refl _
              · rw [List.pairwise_append] at hpw
                exact Nat.le_of_lt ((List.pairwise_cons.1 hpw.2.1).1 k hk)
          exact e3 a b (f1.trans ha) (f2.trans hb)
      obtain ⟨Hm, g1, g2, g3⟩ := swapF_ok hap (hcl.imp id fun h => h.1.1) (hR.kind j p hj) (hR.kind i o hi) (fun ha _ => Nat.ne_of_lt (hpl ha)) (fun hal hne x hx a ha => hwf j (List.mem_cons_self ..) p hj hal hne x hx a ha) hdyn hp h1
      refine ⟨v, Hm, g1, ?_⟩
      simp only [List.cons_append, evIxF, hj]
      refine ⟨vp, H1, g2, ?_⟩
      rw [← g3]
      exact h2

end
end Go.Proofs.Ytclphdmaedpipaa
