/- Regions in which several blocks are made: their runs, in any order, come to what the text's order comes to. -/
import Derived.Test.YtclphdmaedpipaaAbsQ
namespace Go.Proofs.Ytclphdmaedpipaa
open Go
set_option linter.unusedVariables false
set_option linter.unusedSimpArgs false

section
variable {P : Program}

theorem outF_sound {O : Orc} (hO : BaseOK P O) {q : FuncId → Nat} {ops : Array Oper} {k base : Nat} {o : Oper} (hok : opOk o = true) (hk : Kind q o) {tm : List Value} {a : Act} {H H' : AHeap} {m : Mp} {w : World} (hr : HR H m w) (ht : VRl m tm a.tmps.toList)
    (hb : base ≤ k) (hd : isAl o = true → ∃ l, m[k]? = some l ∧ l.live = false)
    {v : Value} (h : outF P (Runs P) O q ops k o tm H v H') {K : Act → World → Prop} {Q : Exit → Act → World → Prop}
    (hK : ∀ a' m' w', VRl m' (putT tm o.dst v) a'.tmps.toList → a'.defers = a.defers → HR H' m' w' → StepW base H m w H' m' w' → (∀ j l, j ≠ k ∨ isAl o = false → m[j]? = some l → l.live = false → m'[j]? = some l) → K a' w') :
    if Region.wanted o (yielded ops a.tmps) then o.wp P a w K Q else K (a.put o.dst undef) w := by
  cases hal : isAl o with
  | false =>
    rw [outF_ne hal] at h
    exact outR_sound hO hok hr ht h fun a' m' w' g1 g2 g3 g4 => hK a' m' w' g1 g2 g3 (g4.toW base) fun j l _ hj _ => g4.ext j l hj
  | true =>
    obtain ⟨e, hop⟩ := isAl_op hal
    rw [← wantedL_eq ht ops o]
    unfold outF at h
    split at h
    · rename_i hw
      rw [if_pos hw]
      rw [hop] at h
      obtain ⟨i, z, hinf, hz, hcl, hkn, rfl, rfl⟩ := h
      obtain ⟨l0, hl0, hdead⟩ := hd hal
      have hf := hr.fill hkn hl0 hdead hb z.cells z.cells e 0 (Nat.le_refl _) (fun j u hu => (closN_cells (m := m) hcl).get hu)
      have hrun : (execOp a.eval o).run P w = .ok (.value (.pointer (some ⟨w.heap.size, 0, none⟩))) (w.alloc (.cells z.cells e)) := by
        simp [execOp, hop]
        simp [Instr.alloc, run_zero hinf hz, newVar, newRow]
      unfold Oper.wp
      rw [hrun, Oper.upon_value]
      refine hK _ _ _ (putT_rel (ht.monoL hf.2.toL) (.ptr ?_) o.dst) (put_defers _ _ _) hf.1 hf.2 ?_
      · unfold tr
        rw [Array.getElem?_setIfInBounds_self_of_lt (lt_of_get hl0)]
        rfl
      · intro j l hj hjl _
        rcases hj with hj | hj
        · rw [Array.getElem?_setIfInBounds_ne (fun h => hj h.symm)]; exact hjl
        · have := hal.symm.trans hj
          cases this
    · rename_i hw
      rw [if_neg hw]
      obtain ⟨rfl, rfl⟩ := h
      exact hK _ m w (putT_rel ht (.undef m) o.dst) (put_defers _ _ _) hr ((Step.refl _ _ _).toW base) fun j l _ hj _ => hj

theorem any_orderF {O : Orc} (hO : BaseOK P O) {q : FuncId → Nat} {ops : Array Oper} {base : Nat} (hok : ops.toList.all opOk = true) (hR : RegF q ops (depsL ops.toList [])) {Q : Exit → Act → World → Prop} :
    ∀ (fuel : Nat) (listed : Array Bool) (rem : List Nat) (tm : List Value) (H : AHeap) (a : Act) (m : Mp) (w : World) {tm' : List Value} {H' : AHeap}, listed.size = ops.size → Left ops.size listed rem → rem.length = fuel →
    (∀ k j, k < ops.size → listed.getD k true = true → j < ops.size → ((depsL ops.toList []).getD k 0).testBit j = true → listed.getD j true = true) → HR H m w → VRl m tm a.tmps.toList → evIxF P (Runs P) O q ops base rem tm H tm' H' →
    dynOk q ops tm' = true → (∀ i ∈ rem, ∀ o, ops[i]? = some o → isAl o = true → ∃ l, m[placeOf ops base i]? = some l ∧ l.live = false) →
    (∀ a' m' w', VRl m' tm' a'.tmps.toList → a'.defers = a.defers → HR H' m' w' → StepW base H m w H' m' w' → Q .normal a' w') → wpAny P .any ops Q fuel listed a w := by
  intro fuel
  induction fuel with
  | zero =>
    intro listed rem tm H a m w tm' H' hsz hl hlen hcl hr ht h hdy hdead hQ
    have : rem = [] := List.eq_nil_of_length_eq_zero hlen
    subst this
    obtain ⟨rfl, rfl⟩ := h
    refine ⟨?_, hQ a m w ht rfl hr ((Step.refl _ _ _).toW base)⟩
    unfold Region.ready
    rw [List.filter_eq_nil_iff]
    intro i hi
    have hni : ¬ (i < ops.size ∧ listed.getD i true = false) := fun hx => by have := (hl.2 i).2 hx; simp at this
    have hi' : i < ops.size := List.mem_range.1 hi
    have : listed.getD i true = true := by
      cases hb : listed.getD i true with
      | true => rfl
      | false => exact absurd ⟨hi', hb⟩ hni
    simp only [this]
    simp
  | succ fuel ih =>
    intro listed rem tm H a m w tm' H' hsz hl hlen hcl hr ht h hdy hdead hQ
    refine ⟨fun hnil => ?_, fun i hi => ?_⟩
    · -- the first that is left is ready
      exfalso
      cases hrem : rem with
      | nil => rw [hrem] at hlen; cases hlen
      | cons i rest =>
        rw [hrem] at hl
        obtain ⟨hi, hli⟩ := (hl.2 i).1 (List.mem_cons_self ..)
        have hmem : i ∈ Region.ready .any ops listed := by
          unfold Region.ready
          rw [List.mem_filter]
          refine ⟨List.mem_range.2 hi, ?_⟩
          rw [hli, Array.getElem?_eq_getElem hi]
          simp only [Bool.not_false, Bool.true_and, Option.map_some, Option.getD_some]
          rw [← Array.all_toList, List.all_eq_true]
          intro e he
          cases hb : Region.binds .any e with
          | false => rfl
          | true =>
            have hlt := hR.back i _ (Array.getElem?_eq_getElem hi) e he hb
            have hne : e.on ∉ i :: rest := by
              intro hmem
              rcases List.mem_cons.1 hmem with h1 | h1
              · omega
              · have := (List.pairwise_cons.1 hl.1).1 _ h1; omega
            have hnot : ¬ (e.on < ops.size ∧ listed.getD e.on true = false) := fun hx => hne ((hl.2 e.on).2 hx)
            have hlis : listed.getD e.on true = true := by
              cases hc : listed.getD e.on true with
              | true => rfl
              | false => exact absurd ⟨by omega, hc⟩ hnot
            have hlt2 : e.on < listed.size := by omega
            rw [Array.getD_eq_getD_getElem?, Array.getElem?_eq_getElem hlt2] at hlis ⊢
            simpa using hlis
        rw [hnil] at hmem
        cases hmem
    · unfold Region.ready at hi
      rw [List.mem_filter] at hi
      obtain ⟨hir, hi2⟩ := hi
      have hin : i < ops.size := List.mem_range.1 hir
      simp only [Bool.and_eq_true, Bool.not_eq_true'] at hi2
      obtain ⟨hli, hedges⟩ := hi2
      have hoi : ops[i]? = some ops[i] := Array.getElem?_eq_getElem hin
      rw [hoi] at hedges
      simp only [Option.map_some, Option.getD_some] at hedges
      rw [← Array.all_toList, List.all_eq_true] at hedges
      have hmem : i ∈ rem := (hl.2 i).2 ⟨hin, hli⟩
      obtain ⟨pre, post, rfl⟩ := List.append_of_mem hmem
      have hpw := hl.1
      -- all that it hangs on is listed
      have hdeps : ∀ j, j < ops.size → ((depsL ops.toList []).getD i 0).testBit j = true → listed.getD j true = true := by
        intro j hj ht'
        obtain ⟨e, he, hb, hor⟩ := hR.dep i _ j hoi hj ht'
        have hlt := hR.back i _ hoi e he hb
        have h1 := hedges e he
        rw [hb] at h1
        simp only [Bool.not_true, Bool.false_or] at h1
        have hlt2 : e.on < listed.size := by omega
        have h2 : listed.getD e.on true = true := by
          rw [Array.getD_eq_getD_getElem?, Array.getElem?_eq_getElem hlt2] at h1 ⊢
          simpa using h1
        rcases hor with rfl | hor
        · exact h2
        · exact hcl e.on j (by omega) h2 hj hor
      have hpre : ∀ j ∈ pre, ((depsL ops.toList []).getD i 0).testBit j = false := by
        intro j hj
        have hjl := ((hl.2 j).1 (List.mem_append_left _ hj))
        cases hc : ((depsL ops.toList []).getD i 0).testBit j with
        | false => rfl
        | true => rw [hdeps j hjl.1 hc] at hjl; cases hjl.2
      have hlt : ∀ j ∈ pre, j < i := by
        intro j hj
        rw [List.pairwise_append] at hpw
        exact hpw.2.2 j hj i (List.mem_cons_self ..)
      have hopok : opOk ops[i] = true := (List.all_eq_true.1 hok) _ (by simp)
      obtain ⟨v, H1, h1, h2⟩ := to_frontF hR hoi pre post tm H _ _ hpw hpre (fun j hj p hp hal _ x hx ad had => by
        have hxr := evalT_rel ht ((List.all_eq_true.1 hopok) x hx)
        rw [had] at hxr
        generalize a.eval x = y at hxr
        cases hxr with
        | ptr htr =>
          intro hbe
          obtain ⟨l, hl1, hl2⟩ := tr_live htr
          obtain ⟨l', hl3, hl4⟩ := hdead j (List.mem_append_left _ hj) p hp hal
          rw [hbe, hl3] at hl1
          injection hl1 with hl1
          subst hl1
          rw [hl4] at hl2
          cases hl2) (fun j hj p hp hdd => dyn_of hdy hoi hp (hlt j hj) hdd (hpre j hj)) h
      unfold wpOp
      rw [hoi]
      simp only
      have hplb : base ≤ placeOf ops base i := by unfold placeOf; omega
      have key := outF_sound (base := base) hO hopok (hR.kind i _ hoi) hr ht hplb (fun hal => hdead i hmem _ hoi hal) h1 (K := wpAny P .any ops Q fuel (listed.setIfInBounds i true)) (Q := Q) (fun a' m' w' g1 g2 g3 g4 g5 => by
        refine ih (listed.setIfInBounds i true) (pre ++ post) _ _ a' m' w' (by simpa using hsz) ?_ ?_ ?_ g3 g1 h2 hdy ?_ (fun a2 m2 w2 e1 e2 e3 e4 => hQ a2 m2 w2 e1 (e2.trans g2) e3 (g4.trans e4))
        · refine ⟨?_, fun k => ?_⟩
          · rw [List.pairwise_append] at hpw ⊢
            exact ⟨hpw.1, (List.pairwise_cons.1 hpw.2.1).2, fun x hx y hy => hpw.2.2 x hx y (List.mem_cons_of_mem _ hy)⟩
          · have hk := hl.2 k
            have hgd : (listed.setIfInBounds i true).getD k true = if i = k then true else listed.getD k true := by
              rw [Array.getD_eq_getD_getElem?, Array.getD_eq_getD_getElem?]
              by_cases e : i = k
              · subst e; rw [Array.getElem?_setIfInBounds_self_of_lt (by omega)]; simp
              · rw [Array.getElem?_setIfInBounds_ne e, if_neg e]
            rw [hgd]
            have hnotin : i ∉ pre ∧ i ∉ post := by
              rw [List.pairwise_append] at hpw
              refine ⟨fun hx => ?_, fun hx => ?_⟩
              · have := hpw.2.2 i hx i (List.mem_cons_self ..); omega
              · have := (List.pairwise_cons.1 hpw.2.1).1 i hx; omega
            by_cases e : i = k
            · subst e
              simp [hnotin.1, hnotin.2]
            · rw [if_neg e, ← hk]
              simp only [List.mem_append, List.mem_cons]
              constructor
              · rintro (h3 | h3)
                · exact .inl h3
                · exact .inr (.inr h3)
              · rintro (h3 | h3 | h3)
                · exact .inl h3
                · exact absurd h3.symm e
                · exact .inr h3
        · simp only [List.length_append, List.length_cons] at hlen ⊢; omega
        · intro k j hk hlk hj ht'
          have hgd : ∀ k, (listed.setIfInBounds i true).getD k true = if i = k then true else listed.getD k true := by
            intro k
            rw [Array.getD_eq_getD_getElem?, Array.getD_eq_getD_getElem?]
            by_cases e : i = k
            · subst e; rw [Array.getElem?_setIfInBounds_self_of_lt (by omega)]; simp
            · rw [Array.getElem?_setIfInBounds_ne e, if_neg e]
          rw [hgd] at hlk ⊢
          by_cases e : i = j
          · rw [if_pos e]
          · rw [if_neg e]
            by_cases e2 : i = k
            · subst e2; exact hdeps j hj ht'
            · rw [if_neg e2] at hlk
              exact hcl k j hk hlk hj ht'
        · intro j hj p hp hal
          have hj' : j ∈ pre ++ i :: post := by
            rcases List.mem_append.1 hj with h9 | h9
            · exact List.mem_append_left _ h9
            · exact List.mem_append_right _ (List.mem_cons_of_mem _ h9)
          obtain ⟨l, q1, q2⟩ := hdead j hj' p hp hal
          refine ⟨l, g5 _ _ ?_ q1 q2, q2⟩
          cases hia : isAl ops[i] with
          | false => exact .inr rfl
          | true =>
            left
            intro hpe
            have hji : j ≠ i := by
              rintro rfl
              rw [List.pairwise_append] at hpw
              rcases List.mem_append.1 hj with h9 | h9
              · have := hpw.2.2 j h9 j (List.mem_cons_self ..); omega
              · have := (List.pairwise_cons.1 hpw.2.1).1 j h9; omega
            rcases Nat.lt_or_ge j i with h9 | h9
            · have := place_lt (base := base) hp hal i h9
              omega
            · have := place_lt (base := base) hoi hia j (by omega)
              omega)
      by_cases hw : Region.wanted ops[i] (yielded ops a.tmps) = true
      · rw [if_pos hw] at key ⊢; exact .inl key
      · rw [if_neg hw] at key ⊢; exact key

/-- Such a region, from a memory with places that are kept. -/
theorem wpAny_runF {O : Orc} (hO : BaseOK P O) (hm : P.follows .mixedOrders = true) {q : FuncId → Nat} {id : Nat} {ops : Array Oper} (hok : ops.toList.all opOk = true) (hR : regionF q ops = true) (hs : special q ops = true) {Q : Exit → Act → World → Prop}
    {tm tm' : List Value} {H H' : AHeap} {a : Act} {m : Mp} {w : World} (hr : HR H m w) (ht : VRl m tm a.tmps.toList) (h : evOpsFR P (Runs P) O q ops ops.toList H.size tm (kept H ops) tm' H') (hdy : dynOk q ops tm' = true)
    (hQ : ∀ a' m' w', VRl m' tm' a'.tmps.toList → a'.defers = a.defers → HR H' m' w' → Step H m w H' m' w' → Q .normal a' w') : (Code.region id ops true).wp P Q a w := by
  have key : ∀ w0 : World, HR H m w0 → Step H m w H m w0 → wpAny P .any ops Q ops.size (Array.replicate ops.size false) a w0 := by
   intro w0 hr0 hs0
   have hres := hr0.reserve (countB isAl ops.toList)
   refine any_orderF (base := H.size) (H' := H') (tm' := tm') hO hok (regF_of hR hs) ops.size _ (List.range ops.size) tm (kept H ops) a (m ++ Array.replicate (countB isAl ops.toList) deadLoc) w0 (by simp) ⟨?_, ?_⟩ (by simp) ?_ hres.1 (ht.mono hres.2.ext) ?_ hdy ?_ ?_
   · rw [List.range_eq_range']; exact List.pairwise_lt_range'
   · intro i
     rw [List.mem_range]
     constructor
     · intro hi; exact ⟨hi, by rw [Array.getD_eq_getD_getElem?, Array.getElem?_replicate]; simp [hi]⟩
     · exact fun h => h.1
   · intro k j hk hlk
     rw [Array.getD_eq_getD_getElem?, Array.getElem?_replicate] at hlk
     simp [hk] at hlk
   · have e0 : placeOf ops H.size 0 = H.size := by unfold placeOf; simp [countB]
     have := evIxF_range (P := P) (C := Runs P) (O := O) (q := q) (ops := ops) (base := H.size) ops.toList 0 tm (kept H ops) tm' H' (by simp) (by rw [e0]; exact h)
     rw [List.range_eq_range']
     simpa using this
   · intro i _ o ho hal
     have hlt : placeOf ops H.size i < H.size + countB isAl ops.toList := by
       have h1 := place_lt (base := H.size) ho hal ops.size (lt_of_get ho)
       have h2 : placeOf ops H.size ops.size = H.size + countB isAl ops.toList := by
         unfold placeOf
         rw [List.take_of_length_le (by simp)]
       omega
     have hge : H.size ≤ placeOf ops H.size i := by unfold placeOf; omega
     refine ⟨deadLoc, ?_, rfl⟩
     rw [Array.getElem?_append_right (by rw [hr0.size]; exact hge), Array.getElem?_replicate, if_pos (by rw [hr0.size]; omega)]
   · intro a' m' w' h1 h2 h3 h4
     refine hQ a' m' w' h1 h2 h3 ?_
     have s2 := hres.2
     refine hs0.trans ⟨?_, h4.os, h4.tape, h4.output, h4.size, ?_, ?_⟩
     · intro b l hb
       exact h4.ext b l (s2.ext b l hb) (.inr (by rw [← hr0.size]; exact lt_of_get hb))
     · intro g hg hn
       refine h4.keep g hg ?_
       intro hf
       rcases s2.fp g hf with h9 | h9
       · exact hn h9
       · omega
     · intro g hg
       rcases h4.fp g hg with h9 | h9
       · exact s2.fp g h9
       · exact .inr h9

  exact wp_region_any hm (key _ (hr.drawn _) (Step.drawn H m w _))

end
end Go.Proofs.Ytclphdmaedpipaa
