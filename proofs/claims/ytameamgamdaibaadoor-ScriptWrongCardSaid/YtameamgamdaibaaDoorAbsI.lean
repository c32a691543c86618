/- AbsI / AbsJ / AbsK / AbsP / AbsQ / AbsR: several texts in one. -/
import Derived.Test.YtameamgamdaibaaDoorAbsA
/-!  Any operation, and a call, of the interpreter: sound. -/
namespace Go.Proofs.YtameamgamdaibaaDoor
open Go
set_option linter.unusedVariables false

section
variable {P : Program}

/-- What an operation's outcome here means for the model's run of it. -/
def OpOK (P : Program) (o : Oper) (a : Act) (H : AHeap) (m : Mp) (w : World) (v : Value) (H' : AHeap) : Prop :=
  ∀ (K : Act → World → Prop) (Q : Exit → Act → World → Prop),
    (∀ v' m' w', VR m' v v' → HR H' m' w' → Step H m w H' m' w' → K (a.put o.dst v') w') → o.upon P a K Q ((execOp a.eval o).run P w)

theorem OpOK.value {o : Oper} {a : Act} {H H' : AHeap} {m : Mp} {w : World} {v : Value} {s : Sem Value} (he : execOp a.eval o = (do pure (.value (← s)))) {v' : Value} {m' : Mp} {w' : World}
    (hr : s.run P w = .ok v' w') (hv : VR m' v v') (hh : HR H' m' w') (hs : Step H m w H' m' w') : OpOK P o a H m w v H' := by
  intro K Q hK
  rw [he]
  simp only [Sem.run_bind, hr, Result.andThen_ok, Sem.run_pure, Oper.upon_value]
  exact hK _ _ _ hv hh hs

theorem OpOK.pure {o : Oper} {a : Act} {H : AHeap} {m : Mp} {w : World} {v : Value} {s : Sem Value} (he : execOp a.eval o = (do pure (.value (← s)))) {v' : Value}
    (hr : s.run P w = .ok v' w) (hv : VR m v v') (hh : HR H m w) : OpOK P o a H m w v H := .value he hr hv hh (.refl _ _ _)

theorem mapP_rel {m : Mp} {tm : List Value} {a : Act} (h : VRl m tm a.tmps.toList) (ps : List (Nat × Operand)) (hp : ps.all (fun p => operandOk p.2) = true) :
    (ps.map fun p => (p.1, evalT tm p.2)).map (·.1) = (ps.map fun p => (p.1, a.eval p.2)).map (·.1) ∧ VRl m ((ps.map fun p => (p.1, evalT tm p.2)).map (·.2)) ((ps.map fun p => (p.1, a.eval p.2)).map (·.2)) := by
  induction ps with
  | nil => exact ⟨rfl, .nil⟩
  | cons p ps ih =>
    simp only [List.all_cons, Bool.and_eq_true] at hp
    obtain ⟨h1, h2⟩ := ih hp.2
    exact ⟨by simp, .cons (evalT_rel h hp.1) h2⟩

theorem mapA_rel {m : Mp} {tm : List Value} {a : Act} (h : VRl m tm a.tmps.toList) (xs : List Operand) (hp : xs.all operandOk = true) : VRl m (xs.map (evalT tm)) (xs.map a.eval) := by
  induction xs with
  | nil => exact .nil
  | cons p ps ih =>
    simp only [List.all_cons, Bool.and_eq_true] at hp
    exact .cons (evalT_rel h hp.1) (ih hp.2)

theorem opt_rel {m : Mp} {tm : List Value} {a : Act} (h : VRl m tm a.tmps.toList) (x : Option Operand) (hp : ∀ y, x = some y → operandOk y = true) : VRo m (x.map (evalT tm)) (x.map a.eval) := by
  cases x with
  | none => exact .inl ⟨rfl, rfl⟩
  | some y => exact .inr ⟨_, _, rfl, rfl, evalT_rel h (hp y rfl)⟩

theorem call_sound {O : Orc} (hO : OrcOK P O) {q : FuncId → Nat} {g : FuncId} {args args' : Array Value} {H H' : AHeap} {m : Mp} {w : World} (hr : HR H m w) (ha : VRs m args args') {v : Value}
    (h : callV O q g args H = some (v, H')) {o : Oper} {a : Act} (he : (execOp a.eval o).run P w = (callFunc g args').run P w) : OpOK P o a H m w v H' := by
  intro K Q hK
  rw [he]
  have enter : Runs P g args H v H' → o.upon P a K Q ((callFunc g args').run P w) := by
    intro hruns
    obtain ⟨h1, h2⟩ := hruns m w args' hr ha
    rw [h1 w, Oper.upon_enter]
    refine h2.mono ?_
    rintro e w' ⟨v', m', rfl, hv, hh, hs⟩
    exact hK _ _ _ hv hh hs
  unfold callV at h
  split at h
  · rename_i u hu
    injection h with h
    simp only [Prod.mk.injEq] at h
    obtain ⟨rfl, rfl⟩ := h
    obtain ⟨v', h1, h2⟩ := hO.row g args u hu m args' ha w
    rw [h1, Oper.upon_value]
    exact hK _ _ _ h2 hr (.refl _ _ _)
  · split at h
    · split at h
      · rename_i hcl
        split at h
        · rename_i v1 H2 hc
          split at h
          · rename_i hv
            injection h with h
            simp only [Prod.mk.injEq] at h
            obtain ⟨rfl, rfl⟩ := h
            exact enter ((hO.call _ _ _ _ _ hc).quiet hcl hv H)
          · cases h
        · cases h
      · cases h
    · split at h
      · rename_i v1 H1 hc
        split at h
        · rename_i hcond
          simp only [Bool.and_eq_true, decide_eq_true_eq] at hcond
          injection h with h
          simp only [Prod.mk.injEq] at h
          obtain ⟨rfl, rfl⟩ := h
          exact enter ((hO.call _ _ _ _ _ hc).makes hcond.1 hcond.2)
        · cases h
      · cases h
    · split at h
      · rename_i v1 H1 hc
        split at h
        · rename_i hv
          injection h with h
          simp only [Prod.mk.injEq] at h
          obtain ⟨rfl, rfl⟩ := h
          exact enter ((hO.call _ _ _ _ _ hc).reads hv)
        · cases h
      · cases h
    · exact enter (hO.call _ _ _ _ _ h)

theorem callR_runs {O : Orc} {q : FuncId → Nat} {g : FuncId} {args : Array Value} {H H' : AHeap} {v : Value} (hrow : O.row g args = none) (h : callR (Runs P) O q g args H v H') : Runs P g args H v H' := by
  unfold callR at h
  rw [hrow] at h
  simp only at h
  split at h
  · obtain ⟨h1, h2, rfl, H2, h3⟩ := h; exact h3.quiet h1 h2 _
  · obtain ⟨H1, h1, h2, h3, rfl⟩ := h; exact h1.makes h2 h3
  · obtain ⟨h1, rfl, H1, h2⟩ := h; exact h2.reads h1
  · exact h

theorem callR_sound {O : Orc} (hO : BaseOK P O) {q : FuncId → Nat} {g : FuncId} {args args' : Array Value} {H H' : AHeap} {m : Mp} {w : World} (hr : HR H m w) (ha : VRs m args args') {v : Value}
    (h : callR (Runs P) O q g args H v H') {o : Oper} {a : Act} (he : (execOp a.eval o).run P w = (callFunc g args').run P w) : OpOK P o a H m w v H' := by
  intro K Q hK
  rw [he]
  cases hrow : O.row g args with
  | some u =>
    unfold callR at h
    rw [hrow] at h
    obtain ⟨rfl, rfl⟩ := h
    obtain ⟨v', h1, h2⟩ := hO.row g args v hrow m args' ha w
    rw [h1, Oper.upon_value]
    exact hK _ _ _ h2 hr (.refl _ _ _)
  | none =>
    obtain ⟨h1, h2⟩ := callR_runs hrow h m w args' hr ha
    rw [h1 w, Oper.upon_enter]
    refine h2.mono ?_
    rintro e w' ⟨v', m', rfl, hv, hh, hs⟩
    exact hK _ _ _ hv hh hs

theorem toArray_map_eval (a : Act) (xs : Array Operand) : xs.map a.eval = (xs.toList.map a.eval).toArray := by
  apply Array.ext'; simp

theorem exec1_sound {O : Orc} (hO : OrcOK P O) {q : FuncId → Nat} {o : Oper} (hok : opOk o = true) {tm : List Value} {a : Act} {H H' : AHeap} {m : Mp} {w : World} (hr : HR H m w) (ht : VRl m tm a.tmps.toList) {v : Value}
    (h : exec1 P O q (evalT tm) H o = some (v, H')) : OpOK P o a H m w v H' := by
  have hops : ∀ x ∈ o.op.operands.toList, operandOk x = true := List.all_eq_true.1 hok
  have rel : ∀ x ∈ o.op.operands.toList, VR m (evalT tm x) (a.eval x) := fun x hx => evalT_rel ht (hops x hx)
  unfold exec1 at h
  split at h
  -- move
  · rename_i x hop
    injection h with h; simp only [Prod.mk.injEq] at h; obtain ⟨rfl, rfl⟩ := h
    refine .pure (s := pure (a.eval x)) (by simp [execOp, hop]) rfl (rel x (by simp [hop, Op.operands])) hr
  · rename_i x hop
    injection h with h; simp only [Prod.mk.injEq] at h; obtain ⟨rfl, rfl⟩ := h
    refine .pure (s := pure (a.eval x)) (by simp [execOp, hop]) rfl (rel x (by simp [hop, Op.operands])) hr
  -- pick
  · rename_i c x y hop
    split at h
    · rename_i t ht'
      injection h with h; simp only [Prod.mk.injEq] at h; obtain ⟨rfl, rfl⟩ := h
      have hc := rel c (by simp [hop, Op.operands])
      rw [ht'] at hc
      generalize hcv : a.eval c = cv at hc
      cases hc
      refine .pure (s := do pure (if ← asBool (a.eval c) then a.eval x else a.eval y)) (by simp [execOp, hop]) (v' := if t then a.eval x else a.eval y) (by simp [hcv, asBool]) ?_ hr
      cases t
      · exact rel y (by simp [hop, Op.operands])
      · exact rel x (by simp [hop, Op.operands])
    · cases h
  -- alloc
  · rename_i e hop
    split at h
    · rename_i i hinf
      split at h
      · rename_i z hz
        split at h
        · rename_i hcl
          injection h with h; simp only [Prod.mk.injEq] at h; obtain ⟨rfl, rfl⟩ := h
          have hal := hr.alloc z.cells z.cells e 0 (Nat.le_refl _) (fun j u hu => (closN_cells (m := m) hcl).get hu)
          refine .value (s := Instr.alloc e true (.tuple #[])) (by simp [execOp, hop]) (by simp [Instr.alloc, run_zero hinf hz, newVar, newRow]; rfl) (.ptr ?_) hal.1 hal.2
          unfold tr; rw [← hr.size, push_new]; rfl
        · cases h
      · cases h
    · cases h
  -- box
  · rename_i e x hop
    split at h
    · rename_i hna
      injection h with h; simp only [Prod.mk.injEq] at h; obtain ⟨rfl, rfl⟩ := h
      have hx := rel x (by simp [hop, Op.operands])
      have hal := hr.alloc (evalT tm x).cells (a.eval x).cells e 0 (Nat.le_of_eq (hx.cells_size hna)) (fun j u hu => (hx.cells hna).get hu)
      refine .value (s := Instr.box e (a.eval x)) (by simp [execOp, hop]) (by simp [Instr.box, newVar, newRow]; rfl) (.ptr ?_) hal.1 hal.2
      unfold tr; rw [← hr.size, push_new]; rfl
    · cases h
  -- build
  · rename_i t parts hop
    simp only [Option.map_eq_some_iff, Prod.mk.injEq] at h
    obtain ⟨u, hu, rfl, rfl⟩ := h
    have hall : parts.toList.all (fun p => operandOk p.2) = true := by
      rw [List.all_eq_true]; intro p hp; exact hops p.2 (by simp [hop, Op.operands]; exact ⟨p.1, by simpa using hp⟩)
    obtain ⟨h1, h2⟩ := mapP_rel ht parts.toList hall
    obtain ⟨v', h3, h4⟩ := run_build' (P := P) _ _ h1 h2 hu w
    refine .pure (s := Instr.build t (parts.map fun (i, x) => (i, a.eval x))) (by simp [execOp, hop]) (v' := v') ?_ h4 hr
    rw [← h3]
    congr 2
    apply Array.ext'
    simp
  -- buildSlice
  · rename_i t len parts hop
    split at h
    · rename_i e i cells hs
      injection h with h; simp only [Prod.mk.injEq] at h; obtain ⟨rfl, rfl⟩ := h
      have hall : parts.toList.all (fun p => operandOk p.2) = true := by
        rw [List.all_eq_true]; intro p hp; exact hops p.2 (by simp [hop, Op.operands]; exact ⟨p.1, by simpa using hp⟩)
      obtain ⟨h1, h2⟩ := mapP_rel ht parts.toList hall
      obtain ⟨cells', h3, h4, h5⟩ := run_buildSlice' (P := P) _ _ h1 h2 hs w
      have hal := hr.alloc cells cells' e i.size (Nat.le_of_eq h4.1) (fun j u hu => h4.get hu)
      refine .value (s := Instr.buildSlice t len (parts.map fun (i, x) => (i, a.eval x))) (by simp [execOp, hop]) (v' := .slice (some ⟨w.heap.size, 0, none⟩) len len) (w' := w.alloc (.cells cells' e)) ?_ ?_ hal.1 hal.2
      · rw [← h3]
        congr 2
        apply Array.ext'
        simp
      · refine .slice (by unfold tr; rw [← hr.size, push_new]; rfl) (Nat.le_refl _) fun lc hlc ho h0 => ?_
        rw [show (⟨H.size, 0, none⟩ : Addr).block = m.size from hr.size.symm, push_new] at hlc
        injection hlc with hlc
        subst hlc
        rw [← h4.1, h5]
        exact Nat.le_refl _
    · cases h
  -- load
  · rename_i t x hop
    split at h
    · rename_i ad hx
      simp only [Option.map_eq_some_iff, Prod.mk.injEq] at h
      obtain ⟨u, hu, rfl, rfl⟩ := h
      have hxr := rel x (by simp [hop, Op.operands])
      rw [hx] at hxr
      generalize hcv : a.eval x = cv at hxr
      cases hxr with
      | @ptr _ a' ha =>
        obtain ⟨v', h1, h2⟩ := run_loadVar (P := P) hr ha hu
        exact .pure (s := Instr.loadAt t (a.eval x)) (by simp [execOp, hop]) (by simp [hcv, Instr.loadAt, Instr.sureAddr, h1]) h2 hr
    · cases h
  -- store
  · rename_i t x y hop
    split at h
    · rename_i ad hx
      simp only [Option.map_eq_some_iff, Prod.mk.injEq] at h
      obtain ⟨u, hu, rfl, rfl⟩ := h
      have hxr := rel x (by simp [hop, Op.operands])
      have hyr := rel y (by simp [hop, Op.operands])
      rw [hx] at hxr
      generalize hcv : a.eval x = cv at hxr
      cases hxr with
      | @ptr _ a' ha =>
        obtain ⟨w', h1, h2, h3⟩ := run_storeVar' (P := P) hr ha hyr hu
        intro K Q hK
        have he : (execOp a.eval o).run P w = .ok .skip w' := by simp [execOp, hop, hcv, Instr.storeAt, Instr.sureAddr, h1]
        rw [he, Oper.upon_skip]
        exact hK _ _ _ (.undef m) h2 h3
    · cases h
  -- nilCheck
  · rename_i x hop
    have hxr := rel x (by simp [hop, Op.operands])
    split at h
    · rename_i ad hx
      injection h with h; simp only [Prod.mk.injEq] at h; obtain ⟨rfl, rfl⟩ := h
      rw [hx] at hxr
      generalize hcv : a.eval x = cv at hxr
      cases hxr with
      | @ptr _ a' ha => exact .pure (s := pure (.pointer (some a'))) (by simp [execOp, hop, hcv]) rfl (.ptr ha) hr
    · rename_i f us vs hx
      injection h with h; simp only [Prod.mk.injEq] at h; obtain ⟨rfl, rfl⟩ := h
      rw [hx] at hxr
      generalize hcv : a.eval x = cv at hxr
      cases hxr with
      | @func _ _ ys _ ws h1 h2 h3 h4 => exact .pure (s := pure (.func (.func f) ys ws)) (by simp [execOp, hop, hcv]) rfl (.func _ h1 h2 h3 h4) hr
    · cases h
  -- binOp
  · rename_i op t x y yt hop
    simp only [Option.map_eq_some_iff, Prod.mk.injEq] at h
    obtain ⟨u, hu, rfl, rfl⟩ := h
    obtain ⟨v', n, h1, h2⟩ := run_binV hO (rel x (by simp [hop, Op.operands])) (rel y (by simp [hop, Op.operands])) hu w
    exact .value (s := do eqGuard op t x y (a.eval x) (a.eval y); binOp op t (a.eval x) (a.eval y)) (by simp [execOp, hop]) h1 h2 (hr.drawn n) (.drawn _ _ _ n)
  -- unOp
  · rename_i op t x hop
    split at h
    · rename_i hex
      simp only [Option.map_eq_some_iff, Prod.mk.injEq] at h
      obtain ⟨u, hu, rfl, rfl⟩ := h
      have e := (rel x (by simp [hop, Op.operands])).exact 1 _ _ hex
      have hp := pureV_sound hu m
      exact .pure (s := Op.unary op (a.eval x)) (by simp [execOp, hop]) (by rw [← e]; exact hp.1 w) hp.2 hr
    · cases h
  -- convert
  · rename_i s d x hop
    split at h
    · obtain ⟨v', m', w', h1, h2, h3, h4⟩ := run_bytesV hr (rel x (by simp [hop, Op.operands])) h
      exact .value (s := convert s d (a.eval x)) (by simp [execOp, hop]) h1 h2 h3 h4
    split at h
    · simp only [Option.map_eq_some_iff, Prod.mk.injEq] at h
      obtain ⟨u, hu, rfl, rfl⟩ := h
      obtain ⟨v', h1, h2⟩ := run_strV hr (rel x (by simp [hop, Op.operands])) hu
      exact .pure (s := convert s d (a.eval x)) (by simp [execOp, hop]) h1 h2 hr
    simp only [Option.map_eq_some_iff, Prod.mk.injEq] at h
    obtain ⟨u, hu, rfl, rfl⟩ := h
    obtain ⟨v', h1, h2⟩ := run_convV (rel x (by simp [hop, Op.operands])) hu w
    exact .pure (s := convert s d (a.eval x)) (by simp [execOp, hop]) h1 h2 hr
  -- makeInterface
  · rename_i t x hop
    split at h
    · cases h
    · cases h
    · rename_i d hne hu
      injection h with h; simp only [Prod.mk.injEq] at h; obtain ⟨rfl, rfl⟩ := h
      refine .pure (s := Instr.makeInterface t (a.eval x)) (by simp [execOp, hop]) (v' := .iface t (a.eval x)) ?_ (.iface t (rel x (by simp [hop, Op.operands]))) hr
      unfold Instr.makeInterface
      cases d <;> first | (exact (hne _ rfl).elim) | simp [run_underlying hu]
  -- makeFunc
  · rename_i fn first captured hop
    injection h with h; simp only [Prod.mk.injEq] at h; obtain ⟨rfl, rfl⟩ := h
    have h1 : first.toList.all operandOk = true := by rw [List.all_eq_true]; intro x hx; exact hops x (by simp [hop, Op.operands]; exact .inl (by simpa using hx))
    have h2 : captured.toList.all operandOk = true := by rw [List.all_eq_true]; intro x hx; exact hops x (by simp [hop, Op.operands]; exact .inr (by simpa using hx))
    refine .pure (s := Instr.makeFunc fn (first.map a.eval) (captured.map a.eval)) (by simp [execOp, hop]) rfl ?_ hr
    rw [toArray_map_eval, toArray_map_eval]
    exact .func' fn (mapA_rel ht _ h1).arr (mapA_rel ht _ h2).arr
  -- makeSlice
  · rename_i t l c hop
    obtain ⟨v', m', w', h1, h2, h3, h4⟩ := run_makeSlice' hr (rel l (by simp [hop, Op.operands])) (rel c (by simp [hop, Op.operands])) h
    exact .value (s := Instr.makeSlice t (a.eval l) (a.eval c)) (by simp [execOp, hop]) h1 h2 h3 h4
  -- slice
  · rename_i t x lo hi mx hop
    simp only [Option.map_eq_some_iff, Prod.mk.injEq] at h
    obtain ⟨u, hu, rfl, rfl⟩ := h
    obtain ⟨v', h1, h2⟩ := run_sliceAt' (rel x (by simp [hop, Op.operands])) (opt_rel ht lo (fun y hy => hops y (by simp [hop, Op.operands, hy]))) (opt_rel ht hi (fun y hy => hops y (by simp [hop, Op.operands, hy])))
      (opt_rel ht mx (fun y hy => hops y (by simp [hop, Op.operands, hy]))) hu w
    exact .pure (s := Instr.sliceAt t (a.eval x) (lo.map a.eval) (hi.map a.eval) (mx.map a.eval)) (by simp [execOp, hop]) h1 h2 hr
  -- fieldAddr
  · rename_i s x f hop
    simp only [Option.map_eq_some_iff, Prod.mk.injEq] at h
    obtain ⟨u, hu, rfl, rfl⟩ := h
    obtain ⟨v', h1, h2⟩ := run_fieldAt' (rel x (by simp [hop, Op.operands])) hu w
    exact .pure (s := Instr.fieldAt s (a.eval x) f) (by simp [execOp, hop]) h1 h2 hr
  -- field
  · rename_i s x f hop
    simp only [Option.map_eq_some_iff, Prod.mk.injEq] at h
    obtain ⟨u, hu, rfl, rfl⟩ := h
    obtain ⟨v', h1, h2⟩ := run_field' (rel x (by simp [hop, Op.operands])) hu w
    exact .pure (s := Instr.field s (a.eval x) f) (by simp [execOp, hop]) h1 h2 hr
  -- indexAddr
  · rename_i t x i hop
    simp only [Option.map_eq_some_iff, Prod.mk.injEq] at h
    obtain ⟨u, hu, rfl, rfl⟩ := h
    obtain ⟨v', h1, h2⟩ := run_indexAt' (rel x (by simp [hop, Op.operands])) (rel i (by simp [hop, Op.operands])) hu w
    exact .pure (s := Instr.indexAt t (a.eval x) (a.eval i)) (by simp [execOp, hop]) h1 h2 hr
  -- index
  · rename_i t x i hop
    simp only [Option.map_eq_some_iff, Prod.mk.injEq] at h
    obtain ⟨u, hu, rfl, rfl⟩ := h
    obtain ⟨v', h1, h2⟩ := run_index' (rel x (by simp [hop, Op.operands])) (rel i (by simp [hop, Op.operands])) hu w
    exact .pure (s := Instr.index t (a.eval x) (a.eval i)) (by simp [execOp, hop]) h1 h2 hr
  -- extract
  · rename_i t i hop
    have hxr := rel t (by simp [hop, Op.operands])
    split at h
    · rename_i vs hx
      simp only [Option.map_eq_some_iff, Prod.mk.injEq] at h
      obtain ⟨u, hu, rfl, rfl⟩ := h
      rw [hx] at hxr
      generalize hcv : a.eval t = cv at hxr
      cases hxr with
      | @tuple _ ys h1 h2 =>
        obtain ⟨y, hy, hyr⟩ := VRs.get ⟨h1, h2⟩ hu
        exact .pure (s := Instr.extract (a.eval t) i) (by simp [execOp, hop]) (by simp [hcv, Instr.extract, hy]) hyr hr
    · cases h
  -- call
  · rename_i c hop
    have cops : ∀ x ∈ c.args.toList, operandOk x = true := fun x hx => hops x (by
      simp only [hop, Op.operands, Call.operands]
      cases c.callee <;> simp <;> first | exact .inr (by simpa using hx) | simpa using hx)
    have crel : VRl m (c.args.toList.map (evalT tm)) (c.args.toList.map a.eval) := mapA_rel ht _ (List.all_eq_true.2 cops)
    split at h
    · rename_i hcal
      split at h
      · rename_i x t hargs0 htypes0
        have hargs : c.args = #[x] := Array.ext' hargs0
        have htypes : c.argTypes = #[t] := Array.ext' htypes0
        simp only [Option.map_eq_some_iff, Prod.mk.injEq] at h
        obtain ⟨u, hu, rfl, rfl⟩ := h
        have hx : VR m (evalT tm x) (a.eval x) := evalT_rel ht (cops x (by simp [hargs]))
        obtain ⟨h1, h2⟩ := run_len' (P := P) (ty := o.type) hx hu w
        refine .pure (s := Builtin.len_ #[t] o.type #[a.eval x]) ?_ h1 h2 hr
        simp [execOp, hop, resolve, hcal, invoke, builtin, hargs, htypes]
      · cases h
    · rename_i hcal
      split at h
      · rename_i s x t t2 hargs0 htypes0
        have hargs : c.args = #[s, x] := Array.ext' hargs0
        have htypes : c.argTypes = #[t, t2] := Array.ext' htypes0
        have hs : VR m (evalT tm s) (a.eval s) := evalT_rel ht (cops s (by simp [hargs]))
        have hx : VR m (evalT tm x) (a.eval x) := evalT_rel ht (cops x (by simp [hargs]))
        obtain ⟨v', m', w', h1, h2, h3, h4⟩ := run_append' (P := P) (ty := o.type) hr hs hx h
        refine .value (s := Builtin.append_ #[t, t2] o.type #[a.eval s, a.eval x]) ?_ h1 h2 h3 h4
        simp [execOp, hop, resolve, hcal, invoke, builtin, hargs, htypes]
      · cases h
    · rename_i hcal
      split at h
      · rename_i hex
        simp only [Option.map_eq_some_iff, Prod.mk.injEq] at h
        obtain ⟨u, hu, rfl, rfl⟩ := h
        have hp := pureV_sound hu m
        have e : (mapA (evalT tm) c.args) = c.args.map a.eval := by
          rw [toArray_map_eval]
          unfold mapA at hex ⊢
          refine array_eq_of crel.arr.1 fun i h1 h2 => ?_
          refine (crel.arr.2 i h1 h2).exact 1 _ _ ?_
          exact (List.all_eq_true.1 hex) _ (Array.mem_toList_iff.2 (Array.getElem_mem h1))
        rw [e] at hp
        refine .pure (s := Builtin.min_ c.argTypes o.type (c.args.map a.eval)) ?_ (hp.1 w) hp.2 hr
        simp [execOp, hop, resolve, hcal, invoke, builtin]
      · cases h
    · rename_i hcal
      split at h
      · rename_i hex
        simp only [Option.map_eq_some_iff, Prod.mk.injEq] at h
        obtain ⟨u, hu, rfl, rfl⟩ := h
        have hp := pureV_sound hu m
        have e : (mapA (evalT tm) c.args) = c.args.map a.eval := by
          rw [toArray_map_eval]
          unfold mapA at hex ⊢
          refine array_eq_of crel.arr.1 fun i h1 h2 => ?_
          refine (crel.arr.2 i h1 h2).exact 1 _ _ ?_
          exact (List.all_eq_true.1 hex) _ (Array.mem_toList_iff.2 (Array.getElem_mem h1))
        rw [e] at hp
        refine .pure (s := Builtin.max_ c.argTypes o.type (c.args.map a.eval)) ?_ (hp.1 w) hp.2 hr
        simp [execOp, hop, resolve, hcal, invoke, builtin]
      · cases h
    · rename_i f hcal
      have hf : VR m (evalT tm f) (a.eval f) := evalT_rel ht (hops f (by simp [hop, Op.operands, Call.operands, hcal]))
      split at h
      · rename_i g us vs hx
        rw [hx] at hf
        generalize hcv : a.eval f = cv at hf
        cases hf with
        | @func _ _ ys _ ws h1 h2 h3 h4 =>
          have hus : VRs m us ys := ⟨h1, h2⟩
          have hvs : VRs m vs ws := ⟨h3, h4⟩
          have h : callV O q g (us.toList ++ c.args.toList.map (evalT tm) ++ vs.toList).toArray H = some (v, H') := by
            split at h
            · exact h
            · split at h
              · exact h
              · cases h
          refine call_sound hO hr ((hus.list.append crel).append hvs.list).arr h ?_
          simp [execOp, hop, resolve, hcal, hcv, Deferred.ofValue, invoke]
          congr 2
          apply Array.ext'
          simp
      · cases h
    · cases h
  · cases h

theorem exR_sound {O : Orc} (hO : BaseOK P O) {q : FuncId → Nat} {o : Oper} (hok : opOk o = true) {tm : List Value} {a : Act} {H H' : AHeap} {m : Mp} {w : World} (hr : HR H m w) (ht : VRl m tm a.tmps.toList) {v : Value}
    (h : exR P (Runs P) O q (evalT tm) H o v H') : OpOK P o a H m w v H' := by
  have other : exec1 P (noCall O) q (evalT tm) H o = some (v, H') → OpOK P o a H m w v H' := exec1_sound hO.none hok hr ht
  unfold exR at h
  split at h
  · rename_i c hop
    have hops : ∀ x ∈ o.op.operands.toList, operandOk x = true := List.all_eq_true.1 hok
    split at h
    · rename_i f hcal
      have hf : VR m (evalT tm f) (a.eval f) := evalT_rel ht (hops f (by simp [hop, Op.operands, Call.operands, hcal]))
      have cops : ∀ x ∈ c.args.toList, operandOk x = true := fun x hx => hops x (by
        simp only [hop, Op.operands, Call.operands]
        cases c.callee <;> simp <;> first | exact .inr (by simpa using hx) | simpa using hx)
      have crel : VRl m (c.args.toList.map (evalT tm)) (c.args.toList.map a.eval) := mapA_rel ht _ (List.all_eq_true.2 cops)
      split at h
      · rename_i g us vs hx
        rw [hx] at hf
        generalize hcv : a.eval f = cv at hf
        cases hf with
        | @func _ _ ys _ ws h1 h2 h3 h4 =>
          have hus : VRs m us ys := ⟨h1, h2⟩
          have hvs : VRs m vs ws := ⟨h3, h4⟩
          refine callR_sound hO hr ((hus.list.append crel).append hvs.list).arr h.2 ?_
          simp [execOp, hop, resolve, hcal, hcv, Deferred.ofValue, invoke]
          congr 2
          apply Array.ext'
          simp
      · exact h.elim
    · exact other h
  · exact other h

end
end Go.Proofs.YtameamgamdaibaaDoor

/-!  Regions: in the text's order, and in any that their edges allow. -/
namespace Go.Proofs.YtameamgamdaibaaDoor
open Go
set_option linter.unusedVariables false

section
variable {P : Program}

theorem put_tmps (a : Act) (dst : Option Tmp) (v : Value) : (a.put dst v).tmps.toList = (match dst with | some d => a.tmps.toList.set d v | none => a.tmps.toList) := by
  cases dst <;> simp [Act.put]
theorem put_defers (a : Act) (dst : Option Tmp) (v : Value) : (a.put dst v).defers = a.defers := by
  cases dst <;> simp [Act.put]
theorem putT_rel {m : Mp} {tm : List Value} {a : Act} (h : VRl m tm a.tmps.toList) {v v' : Value} (hv : VR m v v') (dst : Option Tmp) : VRl m (putT tm dst v) (a.put dst v').tmps.toList := by
  rw [put_tmps]
  cases dst with
  | none => exact h
  | some d => exact h.set hv d

theorem wantedL_eq {m : Mp} {tm : List Value} {a : Act} (h : VRl m tm a.tmps.toList) (ops : Array Oper) (o : Oper) (hg : wantedL ops o tm = true ∨ gOk ops o tm = true) : wantedL ops o tm = Region.wanted o (yielded ops a.tmps) := by
  unfold wantedL gOk at hg
  unfold wantedL Region.wanted yielded
  cases hgu : o.guard with
  | none => rfl
  | some g =>
    obtain ⟨j, want⟩ := g
    cases hj : ops[j]? with
    | none => simp [hj]
    | some p =>
      cases hd : p.dst with
      | none => simp [hj, hd]
      | some d =>
        simp only [hj, hd, Option.bind_some]
        cases ht : tm[d]? with
        | none =>
          have hl : tm.length ≤ d := by
            rcases Nat.lt_or_ge d tm.length with hlt | hge
            · rw [List.getElem?_eq_getElem hlt] at ht; cases ht
            · exact hge
          rw [h.length] at hl
          rw [Array.getElem?_eq_none (by simpa using hl)]
          rfl
        | some v =>
          obtain ⟨v', h1, h2⟩ := h.get ht
          simp at h1
          rw [h1]
          rw [hgu] at hg
          simp only [hj, hd, ht] at hg
          cases h2 <;> first | (simp; done) | (rcases hg with hg | hg <;> cases hg)

theorem outR_sound {O : Orc} (hO : BaseOK P O) {q : FuncId → Nat} {ops : Array Oper} {o : Oper} (hok : opOk o = true) {tm : List Value} {a : Act} {H H' : AHeap} {m : Mp} {w : World} (hr : HR H m w) (ht : VRl m tm a.tmps.toList)
    {v : Value} (h : outR P (Runs P) O q ops o tm H v H') {K : Act → World → Prop} {Q : Exit → Act → World → Prop}
    (hK : ∀ a' m' w', VRl m' (putT tm o.dst v) a'.tmps.toList → a'.defers = a.defers → HR H' m' w' → Step H m w H' m' w' → K a' w') :
    if Region.wanted o (yielded ops a.tmps) then o.wp P a w K Q else K (a.put o.dst undef) w := by
  unfold outR at h
  split at h
  · rename_i hw
    rw [← wantedL_eq ht ops o (.inl hw), if_pos hw]
    refine exR_sound hO hok hr ht h K Q fun v' m' w' hv hh hs => ?_
    exact hK _ m' w' (putT_rel (ht.mono hs.ext) hv o.dst) (put_defers _ _ _) hh hs
  · rename_i hw
    obtain ⟨rfl, rfl, hg⟩ := h
    rw [← wantedL_eq ht ops o (.inr hg), if_neg hw]
    exact hK _ m w (putT_rel ht (.undef m) o.dst) (put_defers _ _ _) hr (.refl _ _ _)

theorem evOpsR_sound {O : Orc} (hO : BaseOK P O) {q : FuncId → Nat} {ops : Array Oper} {Q : Exit → Act → World → Prop} : ∀ (l : List Oper) (tm : List Value) (H : AHeap) (a : Act) (m : Mp) (w : World), l.all opOk = true → HR H m w → VRl m tm a.tmps.toList →
    ∀ {tm' H'}, evOpsR P (Runs P) O q ops l tm H tm' H' →
    (∀ a' m' w', VRl m' tm' a'.tmps.toList → a'.defers = a.defers → HR H' m' w' → Step H m w H' m' w' → Q .normal a' w') → wpList P ops Q l a w
  | [], tm, H, a, m, w, _, hr, ht, tm', H', h, hQ => by
    obtain ⟨rfl, rfl⟩ := h
    exact hQ a m w ht rfl hr (.refl _ _ _)
  | o :: rest, tm, H, a, m, w, hok, hr, ht, tm', H', h, hQ => by
    simp only [List.all_cons, Bool.and_eq_true] at hok
    obtain ⟨v, H1, ho, hrest⟩ := h
    refine wpList_step fun K hK => ?_
    refine outR_sound hO hok.1 hr ht ho fun a' m' w' h1 h2 h3 h4 => ?_
    refine hK _ _ (evOpsR_sound hO rest _ _ a' m' w' hok.2 h3 h1 hrest fun a2 m2 w2 g1 g2 g3 g4 => ?_)
    exact hQ a2 m2 w2 g1 (g2.trans h2) g3 (h4.trans g4)

/-! ### operations that may change places -/

theorem mapP_congr {ρ ρ' : Operand → Value} {xs : Array (Nat × Operand)} (h : ∀ x ∈ (xs.toList.map (·.2)), ρ x = ρ' x) : mapP ρ xs = mapP ρ' xs := by
  unfold mapP
  refine List.map_congr_left fun p hp => ?_
  rw [h p.2 (List.mem_map.2 ⟨p, hp, rfl⟩)]
theorem mapA_congr {ρ ρ' : Operand → Value} {xs : Array Operand} (h : ∀ x ∈ xs.toList, ρ x = ρ' x) : mapA ρ xs = mapA ρ' xs := by
  unfold mapA
  rw [List.map_congr_left h]
theorem map_congr' {ρ ρ' : Operand → Value} {xs : Array Operand} (h : ∀ x ∈ xs.toList, ρ x = ρ' x) : xs.toList.map ρ = xs.toList.map ρ' := List.map_congr_left h
theorem opt_congr {ρ ρ' : Operand → Value} {x : Option Operand} (h : ∀ y, x = some y → ρ y = ρ' y) : x.map ρ = x.map ρ' := by
  cases x with
  | none => rfl
  | some y => simp [h y rfl]

theorem exec1_congr {O : Orc} {q : FuncId → Nat} {o : Oper} {ρ ρ' : Operand → Value} (H : AHeap) (h : ∀ x ∈ o.op.operands.toList, ρ x = ρ' x) : exec1 P O q ρ H o = exec1 P O q ρ' H o := by
  unfold exec1
  cases hop : o.op <;> rw [hop] at h <;> simp only [Op.operands] at h ⊢
  case move x => rw [h x (by simp)]
  case assign x => rw [h x (by simp)]
  case pick c a b => rw [h c (by simp), h a (by simp), h b (by simp)]
  case box e x => rw [h x (by simp)]
  case build t ps => rw [mapP_congr (fun x hx => h x (by simpa using hx))]
  case buildSlice t len ps => rw [mapP_congr (fun x hx => h x (by simpa using hx))]
  case load t x => rw [h x (by simp)]
  case store t x y => rw [h x (by simp), h y (by simp)]
  case nilCheck x => rw [h x (by simp)]
  case binOp op t x y yt => rw [h x (by simp), h y (by simp)]
  case unOp op t x => rw [h x (by simp)]
  case convert s d x => rw [h x (by simp)]
  case makeInterface t x => rw [h x (by simp)]
  case makeFunc fn a b => rw [mapA_congr (fun x hx => h x (by simp; exact .inl (by simpa using hx))), mapA_congr (fun x hx => h x (by simp; exact .inr (by simpa using hx)))]
  case makeSlice t x y => rw [h x (by simp), h y (by simp)]
  case slice t x lo hi mx =>
    rw [h x (by simp), opt_congr (fun y hy => h y (by simp [hy])), opt_congr (x := hi) (fun y hy => h y (by simp [hy])), opt_congr (x := mx) (fun y hy => h y (by simp [hy]))]
  case fieldAddr t x f => rw [h x (by simp)]
  case field t x f => rw [h x (by simp)]
  case indexAddr t x i => rw [h x (by simp), h i (by simp)]
  case index t x i => rw [h x (by simp), h i (by simp)]
  case extract t i => rw [h t (by simp)]
  case call c =>
    have hargs : ∀ x ∈ c.args.toList, ρ x = ρ' x := fun x hx => h x (by
      simp only [Call.operands]
      cases c.callee <;> simp <;> first | exact .inr (by simpa using hx) | simpa using hx)
    have e1 := mapA_congr hargs
    have e2 := map_congr' hargs
    have e3 : ∀ f, c.callee = .value f → ρ f = ρ' f := fun f hf => h f (by simp [Call.operands, hf])
    cases hc : c.callee with
    | value f => simp only [e3 f hc, e2]
    | invoke r n => rfl
    | builtin b =>
      cases b <;> simp only [e1]
      · cases ha : c.args.toList with
        | nil => rfl
        | cons s l1 =>
          cases l1 with
          | nil => rfl
          | cons x l2 =>
            cases l2 with
            | cons y l3 => rfl
            | nil =>
              have e1 := hargs s (by simp [ha])
              have e2 := hargs x (by simp [ha])
              rcases c.argTypes.toList with _ | ⟨t, _ | ⟨t2, _ | ⟨t3, l⟩⟩⟩ <;> simp [e1, e2]
      · cases ha : c.args.toList with
        | nil => rfl
        | cons x l1 =>
          cases l1 with
          | nil =>
            have e1 := hargs x (by simp [ha])
            rcases c.argTypes.toList with _ | ⟨t, _ | ⟨t2, l⟩⟩ <;> simp [e1]
          | cons y l2 => rfl

theorem evalT_put {tm : List Value} {dst : Option Tmp} {v : Value} {x : Operand} (h : ∀ d, dst = some d → x ≠ .tmp d) : evalT (putT tm dst v) x = evalT tm x := by
  cases dst with
  | none => rfl
  | some d =>
    cases x with
    | tmp t =>
      have hne : d ≠ t := fun he => h d rfl (by rw [he])
      simp [evalT, getT_get, putT, List.getElem?_set_ne hne]
    | _ => rfl

theorem wantedL_put {ops : Array Oper} {o : Oper} {tm : List Value} {dst : Option Tmp} {v : Value} (h : ∀ d, dst = some d → d ∉ o.looksAt ops) : wantedL ops o (putT tm dst v) = wantedL ops o tm := by
  cases dst with
  | none => rfl
  | some d =>
    have hd := h d rfl
    unfold wantedL
    cases hg : o.guard with
    | none => rfl
    | some g =>
      obtain ⟨j, want⟩ := g
      simp only
      cases hj : ops[j]? with
      | none => rfl
      | some p =>
        simp only
        cases hpd : p.dst with
        | none => rfl
        | some e =>
          simp only
          have hne : d ≠ e := fun he => hd (by simp [Oper.looksAt, hg, hj, hpd, he])
          simp [putT, List.getElem?_set_ne hne]

theorem gOk_put {ops : Array Oper} {o : Oper} {tm : List Value} {dst : Option Tmp} {v : Value} (h : ∀ d, dst = some d → d ∉ o.looksAt ops) : gOk ops o (putT tm dst v) = gOk ops o tm := by
  cases dst with
  | none => rfl
  | some d =>
    have hd := h d rfl
    unfold gOk
    cases hg : o.guard with
    | none => rfl
    | some g =>
      obtain ⟨j, want⟩ := g
      simp only
      cases hj : ops[j]? with
      | none => rfl
      | some p =>
        simp only
        cases hpd : p.dst with
        | none => rfl
        | some e =>
          simp only
          have hne : d ≠ e := fun he => hd (by simp [Oper.looksAt, hg, hj, hpd, he])
          simp [putT, List.getElem?_set_ne hne]

theorem exR_congr {C : FuncId → Array Value → AHeap → Value → AHeap → Prop} {O : Orc} {q : FuncId → Nat} {o : Oper} {ρ ρ' : Operand → Value} (H : AHeap) (v : Value) (H' : AHeap) (h : ∀ x ∈ o.op.operands.toList, ρ x = ρ' x) : exR P C O q ρ H o v H' ↔ exR P C O q ρ' H o v H' := by
  unfold exR
  have e := exec1_congr (P := P) (O := noCall O) (q := q) H h
  cases hop : o.op with
  | call c =>
    rw [hop] at h
    simp only [Op.operands] at h
    have hargs : ∀ x ∈ c.args.toList, ρ x = ρ' x := fun x hx => h x (by
      simp only [Call.operands]
      cases c.callee <;> simp <;> first | exact .inr (by simpa using hx) | simpa using hx)
    simp only
    cases hc : c.callee with
    | value f => simp only [h f (by simp [Call.operands, hc]), map_congr' hargs]
    | invoke r n => simp only [e]
    | builtin b => simp only [e]
  | _ => simp only [e]

theorem outR_congr {C : FuncId → Array Value → AHeap → Value → AHeap → Prop} {O : Orc} {q : FuncId → Nat} {ops : Array Oper} {o : Oper} {tm : List Value} (H : AHeap) {dst : Option Tmp} (u v : Value) (H' : AHeap) (h : ∀ d, dst = some d → d ∉ o.looksAt ops) :
    outR P C O q ops o (putT tm dst u) H v H' ↔ outR P C O q ops o tm H v H' := by
  unfold outR
  rw [wantedL_put h, gOk_put h]
  have := exR_congr (P := P) (C := C) (O := O) (q := q) (o := o) (ρ := evalT (putT tm dst u)) (ρ' := evalT tm) H v H' (fun x hx => evalT_put fun d hd he => h d hd (by
    subst he
    exact List.mem_append_left _ (List.mem_filterMap.2 ⟨.tmp d, hx, rfl⟩)))
  split
  · exact this
  · exact Iff.rfl

theorem putT_comm (tm : List Value) {x y : Option Tmp} (v u : Value) (h : ∀ d, x = some d → y ≠ some d) : putT (putT tm x v) y u = putT (putT tm y u) x v := by
  cases x with
  | none => rfl
  | some d =>
    cases y with
    | none => rfl
    | some e =>
      have hne : d ≠ e := fun he => h d rfl (he ▸ rfl)
      simp [putT, List.set_comm _ _ hne]

theorem map_fst {α β : Type} {x : Option α} {H H' : β} {v : α} (h : x.map (·, H) = some (v, H')) : H' = H ∧ x = some v := by
  cases x with
  | none => cases h
  | some u => simp at h; exact ⟨h.2.symm, by rw [h.1]⟩

theorem class_pure {O : Orc} {q : FuncId → Nat} {o : Oper} (hc : opClass q o = 0) {ρ : Operand → Value} (hρ : ∀ g, ρ (.func g) = .func (.func g) #[] #[]) {H H' : AHeap} {v : Value} (h : exec1 P O q ρ H o = some (v, H')) : H' = H ∧ ∀ H2, exec1 P O q ρ H2 o = some (v, H2) := by
  unfold opClass at hc
  have mp : ∀ {x : Option Value} {F : AHeap → Option (Value × AHeap)}, (∀ H2, F H2 = x.map (·, H2)) → F H = some (v, H') → H' = H ∧ ∀ H2, F H2 = some (v, H2) := by
    intro x F hF hh
    rw [hF] at hh
    obtain ⟨e1, e2⟩ := map_fst hh
    exact ⟨e1, fun H2 => by rw [hF, e2]; rfl⟩
  cases hop : o.op with
  | move x => refine mp (F := fun H => exec1 P O q ρ H o) (x := some (ρ x)) (fun H2 => by simp [exec1, hop]) h
  | assign x => refine mp (F := fun H => exec1 P O q ρ H o) (x := some (ρ x)) (fun H2 => by simp [exec1, hop]) h
  | pick c a b =>
    refine mp (F := fun H => exec1 P O q ρ H o) (x := match ρ c with | .bool t => some (if t then ρ a else ρ b) | _ => none) (fun H2 => ?_) h
    simp only [exec1, hop]; cases ρ c <;> rfl
  | build t ps => exact mp (F := fun H => exec1 P O q ρ H o) (x := buildV P t (mapP ρ ps)) (fun H2 => by simp [exec1, hop]) h
  | nilCheck x =>
    refine mp (F := fun H => exec1 P O q ρ H o) (x := match ρ x with | .pointer (some a) => some (.pointer (some a)) | .func (.func f) us vs => some (.func (.func f) us vs) | _ => none) (fun H2 => ?_) h
    simp only [exec1, hop]; split <;> simp_all
  | binOp op t x y yt => exact mp (F := fun H => exec1 P O q ρ H o) (x := binV P O op t x y (ρ x) (ρ y)) (fun H2 => by simp [exec1, hop]) h
  | unOp op t x =>
    refine mp (F := fun H => exec1 P O q ρ H o) (x := if exactN 1 (ρ x) then pureV P (Op.unary op (ρ x)) else none) (fun H2 => ?_) h
    simp only [exec1, hop]; split <;> rfl
  | convert s d x =>
    simp only [hop] at hc
    have hn : (d == tBy) = false ∧ (s == tBy) = false := by
      cases e1 : d == tBy <;> cases e2 : s == tBy <;> simp [e1, e2] at hc ⊢
    exact mp (F := fun H => exec1 P O q ρ H o) (x := convV P s d (ρ x)) (fun H2 => by simp only [exec1, hop, hn.1, hn.2]; rfl) h
  | makeInterface t x =>
    refine mp (F := fun H => exec1 P O q ρ H o) (x := match P.underlying t with | some (.interface _) | none => none | some _ => some (.iface t (ρ x))) (fun H2 => ?_) h
    simp only [exec1, hop]; split <;> simp_all
  | makeFunc fn a b => exact mp (F := fun H => exec1 P O q ρ H o) (x := some (.func fn (mapA ρ a) (mapA ρ b))) (fun H2 => by simp [exec1, hop]) h
  | slice t x lo hi mx => exact mp (F := fun H => exec1 P O q ρ H o) (x := sliceV P t (ρ x) (lo.map ρ) (hi.map ρ) (mx.map ρ)) (fun H2 => by simp [exec1, hop]) h
  | fieldAddr t x f => exact mp (F := fun H => exec1 P O q ρ H o) (x := fieldAddrV P t (ρ x) f) (fun H2 => by simp [exec1, hop]) h
  | field t x f => exact mp (F := fun H => exec1 P O q ρ H o) (x := fieldV P t (ρ x) f) (fun H2 => by simp [exec1, hop]) h
  | indexAddr t x i => exact mp (F := fun H => exec1 P O q ρ H o) (x := indexAddrV P t (ρ x) (ρ i)) (fun H2 => by simp [exec1, hop]) h
  | index t x i => exact mp (F := fun H => exec1 P O q ρ H o) (x := indexV P t (ρ x) (ρ i)) (fun H2 => by simp [exec1, hop]) h
  | extract t i =>
    refine mp (F := fun H => exec1 P O q ρ H o) (x := match ρ t with | .tuple vs => vs[i]? | _ => none) (fun H2 => ?_) h
    simp only [exec1, hop]; split <;> simp_all
  | call c =>
    rw [hop] at hc
    simp only at hc
    cases hcal : c.callee with
    | invoke r n => rw [hcal] at hc; simp at hc
    | builtin b =>
      rw [hcal] at hc
      cases b <;> simp at hc
      · refine mp (F := fun H => exec1 P O q ρ H o) (x := match c.args.toList, c.argTypes.toList with | [x], [t] => lenV P t (ρ x) | _, _ => none) (fun H2 => ?_) h
        simp only [exec1, hop, hcal]; split <;> simp_all
      · refine mp (F := fun H => exec1 P O q ρ H o) (x := if (mapA ρ c.args).toList.all (exactN 1) then pureV P (Builtin.max_ c.argTypes o.type (mapA ρ c.args)) else none) (fun H2 => ?_) h
        simp only [exec1, hop, hcal]; split <;> rfl
      · refine mp (F := fun H => exec1 P O q ρ H o) (x := if (mapA ρ c.args).toList.all (exactN 1) then pureV P (Builtin.min_ c.argTypes o.type (mapA ρ c.args)) else none) (fun H2 => ?_) h
        simp only [exec1, hop, hcal]; split <;> rfl
    | value f =>
      rw [hcal] at hc
      cases f with
      | func g =>
        have hq : q g = 1 := by
          simp only at hc
          split at hc
          · assumption
          all_goals cases hc
        refine mp (F := fun H => exec1 P O q ρ H o) (x := match O.row g (c.args.toList.map ρ).toArray with
            | some v => some v
            | none => if closA (c.args.toList.map ρ).toArray then match O.call g (c.args.toList.map ρ).toArray #[] with
              | some (v, _) => if closN 4 v then some v else none
              | none => none else none) (fun H2 => ?_) h
        simp only [exec1, hop, hcal, hρ, callV, hq, List.nil_append, List.append_nil]
        cases O.row g (c.args.toList.map ρ).toArray with
        | some u => rfl
        | none =>
          simp only
          split
          · cases O.call g (c.args.toList.map ρ).toArray #[] with
            | none => rfl
            | some r =>
              obtain ⟨u, H3⟩ := r
              simp only
              split <;> rfl
          · rfl
      | _ => simp at hc
  | _ => first | (rw [hop] at hc; simp at hc; done) | (simp [exec1, hop] at h; done)

/-- What a call's class says of the mode. -/
theorem class_call {q : FuncId → Nat} {o : Oper} {c : Call} (hop : o.op = .call c) {k : Nat} (hc : opClass q o = k) (hk : k = 1 ∨ k = 2 ∨ k = 4) :
    (k = 2 ∧ ∃ g, c.callee = .value (.func g) ∧ q g = 2) ∨ (k = 4 ∧ ∃ f, c.callee = .value f ∧ ∀ g, f = .func g → q g = 3) := by
  unfold opClass at hc
  rw [hop] at hc
  simp only at hc
  cases hcal : c.callee with
  | invoke r n => rw [hcal] at hc; simp only at hc; omega
  | builtin b => rw [hcal] at hc; cases b <;> simp only at hc <;> omega
  | value f =>
    rw [hcal] at hc
    cases f with
    | func g =>
      simp only at hc
      split at hc
      · omega
      · rename_i hq; exact .inl ⟨hc.symm, g, rfl, hq⟩
      · rename_i hq; exact .inr ⟨hc.symm, .func g, rfl, fun g' e => by injection e with e; subst e; exact hq⟩
      · omega
    | tmp t => simp only at hc; exact .inr ⟨hc.symm, .tmp t, rfl, fun g e => by cases e⟩
    | const v => simp only at hc; exact .inr ⟨hc.symm, .const v, rfl, fun g e => by cases e⟩
    | global g => simp only at hc; exact .inr ⟨hc.symm, .global g, rfl, fun g e => by cases e⟩

theorem class_load {O : Orc} {q : FuncId → Nat} {o : Oper} (hc : opClass q o = 1) {ρ : Operand → Value} : ∃ t x, o.op = .load t x := by
  cases hop : o.op with
  | load t x => exact ⟨t, x, rfl⟩
  | call c => rcases class_call hop hc (.inl rfl) with ⟨h, _⟩ | ⟨h, _⟩ <;> cases h
  | convert s d x => unfold opClass at hc; rw [hop] at hc; simp only at hc; split at hc <;> omega
  | _ => unfold opClass at hc; rw [hop] at hc; simp at hc

theorem callV_read {O : Orc} {q : FuncId → Nat} {g : FuncId} (hq : q g = 3) {args : Array Value} {H H' : AHeap} {v : Value} (h : callV O q g args H = some (v, H')) : H' = H := by
  unfold callV at h
  split at h
  · injection h with h; simp only [Prod.mk.injEq] at h; exact h.2.symm
  · rw [hq] at h
    simp only at h
    split at h
    · split at h
      · injection h with h; simp only [Prod.mk.injEq] at h; exact h.2.symm
      · cases h
    · cases h

theorem callV_make {O : Orc} {q : FuncId → Nat} {g : FuncId} (hq : q g = 2) {args : Array Value} {H H' : AHeap} {v : Value} (h : callV O q g args H = some (v, H')) : ∃ L, H' = (H.toList ++ L).toArray := by
  unfold callV at h
  split at h
  · injection h with h; simp only [Prod.mk.injEq] at h; exact ⟨[], by rw [← h.2]; simp⟩
  · rw [hq] at h
    simp only at h
    split at h
    · split at h
      · injection h with h; simp only [Prod.mk.injEq] at h; exact ⟨_, h.2.symm⟩
      · cases h
    · cases h

theorem class_read {O : Orc} {q : FuncId → Nat} {o : Oper} (hc : opClass q o = 1 ∨ opClass q o = 4) {ρ : Operand → Value} (hρ : ∀ g, ρ (.func g) = .func (.func g) #[] #[]) {H H' : AHeap} {v : Value} (h : exec1 P O q ρ H o = some (v, H')) : H' = H := by
  rcases hc with hc | hc
  · obtain ⟨t, x, hop⟩ := class_load (O := O) (ρ := ρ) hc
    simp only [exec1, hop] at h
    split at h
    · exact (map_fst h).1
    · cases h
  · cases hop : o.op with
    | call c =>
      rcases class_call hop hc (.inr (.inr rfl)) with ⟨h4, _⟩ | ⟨_, f, hcal, hf⟩
      · cases h4
      · simp only [exec1, hop, hcal] at h
        split at h
        · rename_i g us vs hx
          split at h
          · rename_i g'
            have hg := hρ g'
            rw [hx] at hg
            simp only [Value.func.injEq, Fn.func.injEq] at hg
            obtain ⟨rfl, _, _⟩ := hg
            exact callV_read (hf g rfl) h
          · split at h
            · rename_i hq; exact callV_read hq h
            · cases h
        · cases h
    | convert s d x => unfold opClass at hc; rw [hop] at hc; simp only at hc; split at hc <;> omega
    | _ => unfold opClass at hc; rw [hop] at hc; simp at hc

theorem push_toArray (H : AHeap) (x : Option ABlk) : H.push x = (H.toList ++ [x]).toArray := by
  apply Array.ext'; simp

theorem class_alloc {O : Orc} {q : FuncId → Nat} {o : Oper} (hc : opClass q o = 2) {ρ : Operand → Value} (hρ : ∀ g, ρ (.func g) = .func (.func g) #[] #[]) {H H' : AHeap} {v : Value} (h : exec1 P O q ρ H o = some (v, H')) : ∃ L, H' = (H.toList ++ L).toArray := by
  have pu : ∀ {x}, H.push x = H' → ∃ L, H' = (H.toList ++ L).toArray := fun {x} e => ⟨[x], by rw [← e, push_toArray]⟩
  cases hop : o.op with
  | alloc e =>
    simp only [exec1, hop] at h
    split at h
    · split at h
      · split at h
        · injection h with h; simp only [Prod.mk.injEq] at h; exact pu h.2
        · cases h
      · cases h
    · cases h
  | box e x =>
    simp only [exec1, hop] at h
    split at h
    · injection h with h; simp only [Prod.mk.injEq] at h; exact pu h.2
    · cases h
  | buildSlice t l ps =>
    simp only [exec1, hop] at h
    split at h
    · injection h with h; simp only [Prod.mk.injEq] at h; exact pu h.2
    · cases h
  | makeSlice t l c =>
    simp only [exec1, hop] at h
    unfold makeSliceV at h
    split at h
    · split at h
      · split at h
        · split at h
          · injection h with h; simp only [Prod.mk.injEq] at h; exact pu h.2
          · cases h
        · cases h
      · cases h
    · cases h
  | call c =>
    rcases class_call hop hc (.inr (.inl rfl)) with ⟨_, g, hcal, hq⟩ | ⟨h4, _⟩
    · simp only [exec1, hop, hcal, hρ] at h
      exact callV_make hq h
    · cases h4
  | convert s d x => unfold opClass at hc; rw [hop] at hc; simp only at hc; split at hc <;> omega
  | _ => unfold opClass at hc; rw [hop] at hc; simp at hc

theorem readVar_push {t : TypeId} {H : AHeap} {a : Addr} (L : List (Option ABlk)) (ha : a.block < H.size) : readVar P (H.toList ++ L).toArray t a = readVar P H t a := by
  have : (H.toList ++ L).toArray[a.block]? = H[a.block]? := by
    simp only [List.getElem?_toArray]
    rw [List.getElem?_append_left (by simpa using ha)]; simp
  unfold readVar
  rw [this]

theorem load_out {O : Orc} {q : FuncId → Nat} {o : Oper} {t : TypeId} {x : Operand} (hop : o.op = .load t x) {ρ : Operand → Value} {H H' : AHeap} {v : Value} :
    exec1 P O q ρ H o = some (v, H') ↔ H' = H ∧ ∃ a, ρ x = .pointer (some a) ∧ readVar P H t a = some v := by
  simp only [exec1, hop]
  constructor
  · intro h
    split at h
    · rename_i a ha
      obtain ⟨e1, e2⟩ := map_fst h
      exact ⟨e1, a, ha, e2⟩
    · cases h
  · rintro ⟨rfl, a, ha, hr⟩
    rw [ha]; simp [hr]

theorem readVar_lt {t : TypeId} {H : AHeap} {a : Addr} {v : Value} (h : readVar P H t a = some v) : a.block < H.size := by
  unfold readVar at h
  split at h
  · rename_i B hb; exact lt_of_get hb
  · cases h

theorem exR_other {C : FuncId → Array Value → AHeap → Value → AHeap → Prop} {O : Orc} {q : FuncId → Nat} {o : Oper} {ρ : Operand → Value} {H H' : AHeap} {v : Value} (h : ∀ c f, o.op = .call c → c.callee ≠ .value f) :
    exR P C O q ρ H o v H' ↔ exec1 P (noCall O) q ρ H o = some (v, H') := by
  unfold exR
  cases hop : o.op with
  | call c =>
    simp only
    cases hc : c.callee with
    | value f => exact absurd hc (h c f hop)
    | _ => exact Iff.rfl
  | _ => exact Iff.rfl

theorem valueCall (o : Oper) : (∃ c f, o.op = .call c ∧ c.callee = .value f) ∨ ∀ c f, o.op = .call c → c.callee ≠ .value f := by
  cases hop : o.op with
  | call c =>
    cases hc : c.callee with
    | value f => exact .inl ⟨c, f, rfl, hc⟩
    | _ => exact .inr fun c' f h e => by injection h with h; subst h; rw [hc] at e; cases e
  | _ => exact .inr fun c' f h => by cases h

section
variable {C : FuncId → Array Value → AHeap → Value → AHeap → Prop} {O : Orc} {q : FuncId → Nat} {o : Oper} {ρ : Operand → Value} {H H' : AHeap} {v : Value}

theorem exR_pure (hc : opClass q o = 0) (hρ : ∀ g, ρ (.func g) = .func (.func g) #[] #[]) (h : exR P C O q ρ H o v H') : H' = H ∧ ∀ H2, exR P C O q ρ H2 o v H2 := by
  rcases valueCall o with ⟨c, f, hop, hcal⟩ | hno
  · have hg : ∃ g, f = .func g ∧ q g = 1 := by
      unfold opClass at hc
      rw [hop] at hc
      simp only [hcal] at hc
      cases f with
      | func g =>
        simp only at hc
        split at hc
        · rename_i hq; exact ⟨g, rfl, hq⟩
        all_goals cases hc
      | _ => simp at hc
    obtain ⟨g, rfl, hq⟩ := hg
    unfold exR at h ⊢
    simp only [hop, hcal, hρ] at h ⊢
    refine ⟨?_, fun H2 => ⟨h.1, ?_⟩⟩
    · have h2 := h.2
      unfold callR at h2
      split at h2
      · exact h2.2
      · rw [hq] at h2; exact h2.2.2.1
    · have h2 := h.2
      unfold callR at h2 ⊢
      split at h2
      · exact ⟨h2.1, rfl⟩
      · rw [hq] at h2 ⊢; exact ⟨h2.1, h2.2.1, rfl, h2.2.2.2⟩
  · rw [exR_other hno] at h
    obtain ⟨e1, e2⟩ := class_pure hc hρ h
    exact ⟨e1, fun H2 => (exR_other hno).2 (e2 H2)⟩

theorem exR_read (hc : opClass q o = 1 ∨ opClass q o = 4) (hρ : ∀ g, ρ (.func g) = .func (.func g) #[] #[]) (h : exR P C O q ρ H o v H') : H' = H := by
  rcases valueCall o with ⟨c, f, hop, hcal⟩ | hno
  · have hf : ∀ g, f = .func g → q g = 3 := by
      rcases hc with hc | hc
      · rcases class_call hop hc (.inl rfl) with ⟨h, _⟩ | ⟨h, _⟩ <;> cases h
      · rcases class_call hop hc (.inr (.inr rfl)) with ⟨h4, _⟩ | ⟨_, f', hcal', hf⟩
        · cases h4
        · rw [hcal] at hcal'; injection hcal' with e; subst e; exact hf
    unfold exR at h
    simp only [hop, hcal] at h
    split at h
    · rename_i g us vs hx
      have hq : q g = 3 := by
        rcases h.1 with h1 | h1
        · cases f with
          | func g' =>
            have hg := hρ g'
            rw [hx] at hg
            simp only [Value.func.injEq, Fn.func.injEq] at hg
            obtain ⟨rfl, _, _⟩ := hg
            exact hf g rfl
          | _ => cases h1
        · exact h1
      have h2 := h.2
      unfold callR at h2
      split at h2
      · exact h2.2
      · rw [hq] at h2; exact h2.2.1
    · exact h.elim
  · rw [exR_other hno] at h
    exact class_read hc hρ h

theorem exR_alloc (hc : opClass q o = 2) (hρ : ∀ g, ρ (.func g) = .func (.func g) #[] #[]) (h : exR P C O q ρ H o v H') : ∃ L, H' = (H.toList ++ L).toArray := by
  rcases valueCall o with ⟨c, f, hop, hcal⟩ | hno
  · rcases class_call hop hc (.inr (.inl rfl)) with ⟨_, g, hcal', hq⟩ | ⟨h4, _⟩
    · rw [hcal] at hcal'; injection hcal' with e; subst e
      unfold exR at h
      simp only [hop, hcal, hρ] at h
      have h2 := h.2
      unfold callR at h2
      split at h2
      · exact ⟨[], by rw [h2.2]; simp⟩
      · rw [hq] at h2
        obtain ⟨H1, _, _, _, e⟩ := h2
        exact ⟨_, e⟩
    · cases h4
  · rw [exR_other hno] at h
    exact class_alloc hc hρ h

theorem exR_load {t : TypeId} {x : Operand} (hop : o.op = .load t x) : exR P C O q ρ H o v H' ↔ H' = H ∧ ∃ a, ρ x = .pointer (some a) ∧ readVar P H t a = some v := by
  rw [exR_other (by intro c f h; rw [hop] at h; cases h)]
  exact load_out hop
end

/-- TWO THAT MAY CHANGE PLACES, DO. -/
theorem swap {C : FuncId → Array Value → AHeap → Value → AHeap → Prop} {O : Orc} {q : FuncId → Nat} {ops : Array Oper} {p o : Oper} (hs : swapOk q ops p o = true) {tm : List Value} {H H1 H2 : AHeap} {vp vo : Value}
    (hwf : opClass q o ≠ 0 → ∀ x ∈ o.op.operands.toList, ∀ a, evalT tm x = .pointer (some a) → a.block < H.size)
    (h1 : outR P C O q ops p tm H vp H1) (h2 : outR P C O q ops o (putT tm p.dst vp) H1 vo H2) :
    ∃ Hm, outR P C O q ops o tm H vo Hm ∧ outR P C O q ops p (putT tm o.dst vo) Hm vp H2 ∧ putT (putT tm p.dst vp) o.dst vo = putT (putT tm o.dst vo) p.dst vp := by
  simp only [swapOk, Bool.and_eq_true] at hs
  obtain ⟨hap, hcl⟩ := hs
  obtain ⟨a1, a2, a3⟩ := Oper.apart_spec hap
  rw [outR_congr H1 vp vo H2 a1] at h2
  have hcomm := putT_comm tm (x := p.dst) (y := o.dst) vp vo a2
  have hcong : ∀ Hx, outR P C O q ops p (putT tm o.dst vo) Hx vp H2 ↔ outR P C O q ops p tm Hx vp H2 := fun Hx => outR_congr Hx vo vp H2 a3
  simp only [hcong]
  have hfun : ∀ g, evalT tm (.func g) = .func (.func g) #[] #[] := fun _ => rfl
  have pureOut : ∀ (r : Oper) (Hx Hy : AHeap) (v : Value), (opClass q r = 0 ∨ wantedL ops r tm = false) → outR P C O q ops r tm Hx v Hy → Hy = Hx ∧ ∀ Hz, outR P C O q ops r tm Hz v Hz := by
    intro r Hx Hy v hr hx
    unfold outR at hx ⊢
    by_cases hw : wantedL ops r tm = true
    · rcases hr with hr | hr
      · simp only [hw, if_true] at hx ⊢
        exact exR_pure hr hfun hx
      · rw [hw] at hr; cases hr
    · simp only [hw] at hx ⊢
      simp only [Bool.false_eq_true, if_false] at hx ⊢
      exact ⟨hx.2.1, fun Hz => ⟨hx.1, trivial, hx.2.2⟩⟩
  by_cases hp : opClass q p = 0 ∨ wantedL ops p tm = false
  · obtain ⟨rfl, hpz⟩ := pureOut p H H1 vp hp h1
    exact ⟨H2, h2, hpz H2, hcomm⟩
  by_cases ho : opClass q o = 0 ∨ wantedL ops o tm = false
  · obtain ⟨rfl, hoz⟩ := pureOut o H1 H2 vo ho h2
    exact ⟨H, hoz H, h1, hcomm⟩
  have wp_ : wantedL ops p tm = true := by cases h : wantedL ops p tm <;> simp_all
  have wo_ : wantedL ops o tm = true := by cases h : wantedL ops o tm <;> simp_all
  have np : opClass q p ≠ 0 := fun h => hp (.inl h)
  have no : opClass q o ≠ 0 := fun h => ho (.inl h)
  have hcases : ((opClass q p = 1 ∨ opClass q p = 4) ∧ (opClass q o = 1 ∨ opClass q o = 4)) ∨ (opClass q p = 1 ∧ opClass q o = 2) ∨ (opClass q p = 2 ∧ opClass q o = 1) := by
    simp only [classOk, Bool.or_eq_true, Bool.and_eq_true, beq_iff_eq] at hcl
    omega
  simp only [outR, wp_, wo_, if_true] at h1 h2 ⊢
  rcases hcases with ⟨cp, co⟩ | ⟨cp, co⟩ | ⟨cp, co⟩
  · have e1 := exR_read cp hfun h1
    subst e1
    have e2 := exR_read co hfun h2
    subst e2
    exact ⟨_, h2, h1, hcomm⟩
  · obtain ⟨t, x, hop⟩ := class_load (O := O) (ρ := evalT tm) cp
    obtain ⟨rfl, a, ha, hrd⟩ := (exR_load hop).1 h1
    obtain ⟨L, rfl⟩ := exR_alloc co hfun h2
    refine ⟨_, h2, (exR_load hop).2 ⟨rfl, a, ha, ?_⟩, hcomm⟩
    rw [readVar_push _ (readVar_lt hrd)]; exact hrd
  · obtain ⟨t, x, hop⟩ := class_load (O := O) (ρ := evalT tm) co
    obtain ⟨L, rfl⟩ := exR_alloc cp hfun h1
    obtain ⟨rfl, a, ha, hrd⟩ := (exR_load hop).1 h2
    have hlt := hwf no x (by simp [hop, Op.operands]) a ha
    rw [readVar_push _ hlt] at hrd
    exact ⟨H, (exR_load hop).2 ⟨rfl, a, ha, hrd⟩, h1, hcomm⟩

end
end Go.Proofs.YtameamgamdaibaaDoor

/-!  Regions that draw their order; code; functions; functions one in the other. -/
namespace Go.Proofs.YtameamgamdaibaaDoor
open Go
set_option linter.unusedVariables false

section
variable {P : Program}

/-- Operations by their numbers. -/
def evIx (P : Program) (C : FuncId → Array Value → AHeap → Value → AHeap → Prop) (O : Orc) (q : FuncId → Nat) (ops : Array Oper) : List Nat → List Value → AHeap → List Value → AHeap → Prop
  | [], tm, H, tm', H' => tm' = tm ∧ H' = H
  | i :: rest, tm, H, tm', H' =>
    match ops[i]? with
    | none => evIx P C O q ops rest tm H tm' H'
    | some o => ∃ v H1, outR P C O q ops o tm H v H1 ∧ evIx P C O q ops rest (putT tm o.dst v) H1 tm' H'

theorem evIx_range {C : FuncId → Array Value → AHeap → Value → AHeap → Prop} {O : Orc} {q : FuncId → Nat} {ops : Array Oper} (l : List Oper) : ∀ (k : Nat) (tm : List Value) (H : AHeap) (tm' : List Value) (H' : AHeap), (∀ j, l[j]? = ops[k + j]?) →
    evOpsR P C O q ops l tm H tm' H' → evIx P C O q ops (List.range' k l.length) tm H tm' H' := by
  induction l with
  | nil => intro k tm H tm' H' _ h; exact h
  | cons o l ih =>
    intro k tm H tm' H' h hh
    have h0 : ops[k]? = some o := by simpa using (h 0).symm
    obtain ⟨v, H1, h1, h2⟩ := hh
    simp only [List.length_cons, List.range'_succ, evIx, h0]
    exact ⟨v, H1, h1, ih (k + 1) _ _ _ _ (fun j => by have := h (j + 1); simpa [Nat.add_assoc, Nat.add_comm 1 j] using this) h2⟩

theorem out_size {C : FuncId → Array Value → AHeap → Value → AHeap → Prop} {O : Orc} {q : FuncId → Nat} {ops : Array Oper} {o : Oper} {tm : List Value} {H H' : AHeap} {v : Value} (hc : opClass q o ≤ 2 ∨ opClass q o = 4) (h : outR P C O q ops o tm H v H') : H.size ≤ H'.size := by
  unfold outR at h
  split at h
  · by_cases h0 : opClass q o = 0
    · rw [(exR_pure h0 (fun _ => rfl) h).1]; exact Nat.le_refl _
    · by_cases h1 : opClass q o = 2
      · obtain ⟨L, rfl⟩ := exR_alloc h1 (fun _ => rfl) h
        simp
      · rw [exR_read (by omega) (fun _ => rfl) h]; exact Nat.le_refl _
  · rw [h.2.1]; exact Nat.le_refl _

theorem classOk_le {a b : Nat} (h : classOk a b = true) (hb : b ≠ 0) : a ≤ 2 ∨ a = 4 := by
  simp only [classOk, Bool.or_eq_true, Bool.and_eq_true, beq_iff_eq] at h
  omega

/-- One that may change places with all before it comes first. -/
theorem to_front {C : FuncId → Array Value → AHeap → Value → AHeap → Prop} {O : Orc} {q : FuncId → Nat} {ops : Array Oper} {i : Nat} {o : Oper} (hi : ops[i]? = some o) : ∀ (pre post : List Nat) (tm : List Value) (H : AHeap) (tm' : List Value) (H' : AHeap),
    (∀ j ∈ pre, ∀ p, ops[j]? = some p → swapOk q ops p o = true) → (opClass q o ≠ 0 → ∀ x ∈ o.op.operands.toList, ∀ a, evalT tm x = .pointer (some a) → a.block < H.size) →
    evIx P C O q ops (pre ++ i :: post) tm H tm' H' → ∃ v H1, outR P C O q ops o tm H v H1 ∧ evIx P C O q ops (pre ++ post) (putT tm o.dst v) H1 tm' H'
  | [], post, tm, H, tm', H', _, _, h => by
    simp only [List.nil_append, evIx, hi] at h
    obtain ⟨v, H1, h1, h2⟩ := h
    exact ⟨v, H1, h1, h2⟩
  | j :: pre, post, tm, H, tm', H', hpre, hwf, h => by
    cases hj : ops[j]? with
    | none =>
      simp only [List.cons_append, evIx, hj] at h
      obtain ⟨v, H1, h1, h2⟩ := to_front hi pre post tm H tm' H' (fun k hk => hpre k (List.mem_cons_of_mem _ hk)) hwf h
      exact ⟨v, H1, h1, by simpa only [List.cons_append, evIx, hj] using h2⟩
    | some p =>
      have hs := hpre j (List.mem_cons_self ..) p hj
      simp only [List.cons_append, evIx, hj] at h
      obtain ⟨vp, Hp, hp, h⟩ := h
      have hs' := hs
      simp only [swapOk, Bool.and_eq_true] at hs'
      obtain ⟨a1, a2, a3⟩ := Oper.apart_spec hs'.1
      have hev : ∀ x ∈ o.op.operands.toList, evalT (putT tm p.dst vp) x = evalT tm x := fun x hx => evalT_put fun d hd he => a1 d hd (by
        subst he
        exact List.mem_append_left _ (List.mem_filterMap.2 ⟨.tmp d, hx, rfl⟩))
      obtain ⟨v, H1, h1, h2⟩ := to_front hi pre post _ _ tm' H' (fun k hk => hpre k (List.mem_cons_of_mem _ hk)) (fun hne x hx a ha => by
        rw [hev x hx] at ha
        exact Nat.lt_of_lt_of_le (hwf hne x hx a ha) (out_size (classOk_le hs'.2 hne) hp)) h
      obtain ⟨Hm, g1, g2, g3⟩ := swap hs hwf hp h1
      refine ⟨v, Hm, g1, ?_⟩
      simp only [List.cons_append, evIx, hj]
      refine ⟨vp, H1, g2, ?_⟩
      rw [← g3]
      exact h2

/-- Numbers that are not listed yet, in order. -/
def Left (n : Nat) (listed : Array Bool) (rem : List Nat) : Prop := rem.Pairwise (· < ·) ∧ ∀ i, i ∈ rem ↔ i < n ∧ listed.getD i true = false

theorem mem_zip {α : Type} {l : List α} {i : Nat} {x : α} (h : l[i]? = some x) : (x, i) ∈ l.zipIdx := by
  rw [List.mem_iff_getElem?]
  exact ⟨i, by simp [List.getElem?_zipIdx, h]⟩

structure RegOK (q : FuncId → Nat) (ops : Array Oper) (d : List Nat) : Prop where
  back : ∀ i o, ops[i]? = some o → ∀ e ∈ o.after.toList, Region.binds .any e = true → e.on < i
  dep : ∀ i o j, ops[i]? = some o → j < ops.size → (d.getD i 0).testBit j = true → ∃ e ∈ o.after.toList, Region.binds .any e = true ∧ (e.on = j ∨ (d.getD e.on 0).testBit j = true)
  swap : ∀ i o j p, ops[i]? = some o → ops[j]? = some p → j < i → (d.getD i 0).testBit j = false → swapOk q ops p o = true

theorem regOK_of {q : FuncId → Nat} {ops : Array Oper} (h : regionOk q ops = true) : RegOK q ops (depsL ops.toList []) := by
  unfold regionOk at h
  simp only [List.all_eq_true, Bool.and_eq_true, Bool.or_eq_true, Bool.not_eq_true', decide_eq_true_eq, List.any_eq_true, beq_iff_eq] at h
  have get : ∀ i o, ops[i]? = some o → (o, i) ∈ ops.toList.zipIdx := fun i o ho => mem_zip (by simpa using ho)
  refine ⟨fun i o ho e he hb => ?_, fun i o j ho hj ht => ?_, fun i o j p ho hp hj ht => ?_⟩
  · rcases (h _ (get i o ho)).1.1 e he with h1 | h1
    · rw [h1] at hb; cases hb
    · exact h1
  · rcases (h _ (get i o ho)).1.2 j (List.mem_range.2 hj) with h1 | ⟨e, he, hb, h2⟩
    · simp only at h1; rw [h1] at ht; cases ht
    · exact ⟨e, he, hb, h2⟩
  · rcases (h _ (get i o ho)).2 _ (get j p hp) with (h1 | h1) | h1
    · simp only at h1; rw [decide_eq_false_iff_not] at h1; exact absurd hj h1
    · simp only at h1; rw [h1] at ht; cases ht
    · exact h1

theorem any_order {O : Orc} (hO : BaseOK P O) {q : FuncId → Nat} {ops : Array Oper} (hok : ops.toList.all opOk = true) {d : List Nat} (hR : RegOK q ops d) {Q : Exit → Act → World → Prop} :
    ∀ (fuel : Nat) (listed : Array Bool) (rem : List Nat) (tm : List Value) (H : AHeap) (a : Act) (m : Mp) (w : World) {tm' : List Value} {H' : AHeap}, listed.size = ops.size → Left ops.size listed rem → rem.length = fuel →
    (∀ k j, k < ops.size → listed.getD k true = true → j < ops.size → (d.getD k 0).testBit j = true → listed.getD j true = true) → HR H m w → VRl m tm a.tmps.toList → evIx P (Runs P) O q ops rem tm H tm' H' →
    (∀ a' m' w', VRl m' tm' a'.tmps.toList → a'.defers = a.defers → HR H' m' w' → Step H m w H' m' w' → Q .normal a' w') → wpAny P .any ops Q fuel listed a w := by
  intro fuel
  induction fuel with
  | zero =>
    intro listed rem tm H a m w tm' H' hsz hl hlen hcl hr ht h hQ
    have : rem = [] := List.eq_nil_of_length_eq_zero hlen
    subst this
    obtain ⟨rfl, rfl⟩ := h
    refine ⟨?_, hQ a m w ht rfl hr (.refl _ _ _)⟩
    unfold Region.ready
    rw [List.filter_eq_nil_iff]
    intro i hi
    have hni : ¬ (i < ops.size ∧ listed.getD i true = false) := fun hx => by have := (hl.2 i).2 hx; simp at this
    have hi' : i < ops.size := List.mem_range.1 hi
    have : listed.getD i true = true := by
      cases hb : listed.getD i true with
      | true => rfl
      | false => exact absurd ⟨hi', hb⟩ hni
    simp only [this]
    simp
  | succ fuel ih =>
    intro listed rem tm H a m w tm' H' hsz hl hlen hcl hr ht h hQ
    refine ⟨fun hnil => ?_, fun i hi => ?_⟩
    · -- the first that is left is ready
      exfalso
      cases hrem : rem with
      | nil => rw [hrem] at hlen; cases hlen
      | cons i rest =>
        rw [hrem] at hl
        obtain ⟨hi, hli⟩ := (hl.2 i).1 (List.mem_cons_self ..)
        have hmem : i ∈ Region.ready .any ops listed := by
          unfold Region.ready
          rw [List.mem_filter]
          refine ⟨List.mem_range.2 hi, ?_⟩
          rw [hli, Array.getElem?_eq_getElem hi]
          simp only [Bool.not_false, Bool.true_and, Option.map_some, Option.getD_some]
          rw [← Array.all_toList, List.all_eq_true]
          intro e he
          cases hb : Region.binds .any e with
          | false => rfl
          | true =>
            have hlt := hR.back i _ (Array.getElem?_eq_getElem hi) e he hb
            have hne : e.on ∉ i :: rest := by
              intro hmem
              rcases List.mem_cons.1 hmem with h1 | h1
              · omega
              · have := (List.pairwise_cons.1 hl.1).1 _ h1; omega
            have hnot : ¬ (e.on < ops.size ∧ listed.getD e.on true = false) := fun hx => hne ((hl.2 e.on).2 hx)
            have hlis : listed.getD e.on true = true := by
              cases hc : listed.getD e.on true with
              | true => rfl
              | false => exact absurd ⟨by omega, hc⟩ hnot
            have hlt2 : e.on < listed.size := by omega
            rw [Array.getD_eq_getD_getElem?, Array.getElem?_eq_getElem hlt2] at hlis ⊢
            simpa using hlis
        rw [hnil] at hmem
        cases hmem
    · unfold Region.ready at hi
      rw [List.mem_filter] at hi
      obtain ⟨hir, hi2⟩ := hi
      have hin : i < ops.size := List.mem_range.1 hir
      simp only [Bool.and_eq_true, Bool.not_eq_true'] at hi2
      obtain ⟨hli, hedges⟩ := hi2
      have hoi : ops[i]? = some ops[i] := Array.getElem?_eq_getElem hin
      rw [hoi] at hedges
      simp only [Option.map_some, Option.getD_some] at hedges
      rw [← Array.all_toList, List.all_eq_true] at hedges
      have hmem : i ∈ rem := (hl.2 i).2 ⟨hin, hli⟩
      obtain ⟨pre, post, rfl⟩ := List.append_of_mem hmem
      have hpw := hl.1
      -- all that it hangs on is listed
      have hdeps : ∀ j, j < ops.size → (d.getD i 0).testBit j = true → listed.getD j true = true := by
        intro j hj ht'
        obtain ⟨e, he, hb, hor⟩ := hR.dep i _ j hoi hj ht'
        have hlt := hR.back i _ hoi e he hb
        have h1 := hedges e he
        rw [hb] at h1
        simp only [Bool.not_true, Bool.false_or] at h1
        have hlt2 : e.on < listed.size := by omega
        have h2 : listed.getD e.on true = true := by
          rw [Array.getD_eq_getD_getElem?, Array.getElem?_eq_getElem hlt2] at h1 ⊢
          simpa using h1
        rcases hor with rfl | hor
        · exact h2
        · exact hcl e.on j (by omega) h2 hj hor
      have hpre : ∀ j ∈ pre, ∀ p, ops[j]? = some p → swapOk q ops p ops[i] = true := by
        intro j hj p hp
        have hlt : j < i := by
          rw [List.pairwise_append] at hpw
          exact hpw.2.2 j hj i (List.mem_cons_self ..)
        have hjl := ((hl.2 j).1 (List.mem_append_left _ hj))
        refine hR.swap i _ j p hoi hp hlt ?_
        cases hc : (d.getD i 0).testBit j with
        | false => rfl
        | true => rw [hdeps j hjl.1 hc] at hjl; cases hjl.2
      have hopok : opOk ops[i] = true := (List.all_eq_true.1 hok) _ (by simp)
      obtain ⟨v, H1, h1, h2⟩ := to_front hoi pre post tm H _ _ hpre (fun _ x hx ad had => by
        have hxr := evalT_rel ht ((List.all_eq_true.1 hopok) x hx)
        rw [had] at hxr
        generalize a.eval x = y at hxr
        cases hxr with
        | ptr htr =>
          unfold tr at htr
          split at htr
          · rename_i l hl'; rw [← hr.size]; exact lt_of_get hl'
          · cases htr) h
      unfold wpOp
      rw [hoi]
      simp only
      have key := outR_sound hO hopok hr ht h1 (K := wpAny P .any ops Q fuel (listed.setIfInBounds i true)) (Q := Q) (fun a' m' w' g1 g2 g3 g4 => by
        refine ih (listed.setIfInBounds i true) (pre ++ post) _ _ a' m' w' (by simpa using hsz) ?_ ?_ ?_ g3 g1 h2 (fun a2 m2 w2 e1 e2 e3 e4 => hQ a2 m2 w2 e1 (e2.trans g2) e3 (g4.trans e4))
        · refine ⟨?_, fun k => ?_⟩
          · rw [List.pairwise_append] at hpw ⊢
            exact ⟨hpw.1, (List.pairwise_cons.1 hpw.2.1).2, fun x hx y hy => hpw.2.2 x hx y (List.mem_cons_of_mem _ hy)⟩
          · have hk := hl.2 k
            have hgd : (listed.setIfInBounds i true).getD k true = if i = k then true else listed.getD k true := by
              rw [Array.getD_eq_getD_getElem?, Array.getD_eq_getD_getElem?]
              by_cases e : i = k
              · subst e; rw [Array.getElem?_setIfInBounds_self_of_lt (by omega)]; simp
              · rw [Array.getElem?_setIfInBounds_ne e, if_neg e]
            rw [hgd]
            have hnotin : i ∉ pre ∧ i ∉ post := by
              rw [List.pairwise_append] at hpw
              refine ⟨fun hx => ?_, fun hx => ?_⟩
              · have := hpw.2.2 i hx i (List.mem_cons_self ..); omega
              · have := (List.pairwise_cons.1 hpw.2.1).1 i hx; omega
            by_cases e : i = k
            · subst e
              simp [hnotin.1, hnotin.2]
            · rw [if_neg e, ← hk]
              simp only [List.mem_append, List.mem_cons]
              constructor
              · rintro (h3 | h3)
                · exact .inl h3
                · exact .inr (.inr h3)
              · rintro (h3 | h3 | h3)
                · exact .inl h3
                · exact absurd h3.symm e
                · exact .inr h3
        · simp only [List.length_append, List.length_cons] at hlen ⊢; omega
        · intro k j hk hlk hj ht'
          have hgd : ∀ k, (listed.setIfInBounds i true).getD k true = if i = k then true else listed.getD k true := by
            intro k
            rw [Array.getD_eq_getD_getElem?, Array.getD_eq_getD_getElem?]
            by_cases e : i = k
            · subst e; rw [Array.getElem?_setIfInBounds_self_of_lt (by omega)]; simp
            · rw [Array.getElem?_setIfInBounds_ne e, if_neg e]
          rw [hgd] at hlk ⊢
          by_cases e : i = j
          · rw [if_pos e]
          · rw [if_neg e]
            by_cases e2 : i = k
            · subst e2; exact hdeps j hj ht'
            · rw [if_neg e2] at hlk
              exact hcl k j hk hlk hj ht')
      by_cases hw : Region.wanted ops[i] (yielded ops a.tmps) = true
      · rw [if_pos hw] at key ⊢; exact .inl key
      · rw [if_neg hw] at key ⊢; exact key

end
end Go.Proofs.YtameamgamdaibaaDoor

/-!  Regions in which several blocks are made and several places written, in any order that their edges allow. -/
namespace Go.Proofs.YtameamgamdaibaaDoor
open Go
set_option linter.unusedVariables false
set_option linter.unusedSimpArgs false

section
variable {P : Program}

theorem readVar_set {t : TypeId} {H : AHeap} {a : Addr} {k : Nat} {x : Option ABlk} (h : a.block ≠ k) : readVar P (H.setIfInBounds k x) t a = readVar P H t a := by
  unfold readVar
  rw [Array.getElem?_setIfInBounds_ne (fun e => h e.symm)]

theorem writeVar_spec {t : TypeId} {H H' : AHeap} {a : Addr} {v : Value} (h : writeVar P H t a v = some H') :
    ∃ B B', H[a.block]? = some (some B) ∧ H' = H.setIfInBounds a.block (some B') ∧ ∀ H2 : AHeap, H2[a.block]? = H[a.block]? → writeVar P H2 t a v = some (H2.setIfInBounds a.block (some B')) := by
  unfold writeVar at h
  split at h
  · rename_i B i hB hi
    split at h
    · rename_i hc
      injection h with h
      refine ⟨B, _, hB, h.symm, fun H2 h2 => ?_⟩
      unfold writeVar
      rw [h2, hB, hi]
      simp only
      rw [if_pos hc]
    · cases h
  · cases h

theorem set_comm' {H : AHeap} {i j : Nat} {x y : Option ABlk} (h : i ≠ j) : (H.setIfInBounds i x).setIfInBounds j y = (H.setIfInBounds j y).setIfInBounds i x := by
  apply Array.ext'
  simp only [Array.toList_setIfInBounds]
  exact List.set_comm _ _ h

theorem set_get_ne {H : AHeap} {i j : Nat} {x : Option ABlk} (h : i ≠ j) : (H.setIfInBounds i x)[j]? = H[j]? := Array.getElem?_setIfInBounds_ne h

section
variable {C : FuncId → Array Value → AHeap → Value → AHeap → Prop} {O : Orc} {q : FuncId → Nat} {o : Oper} {ρ : Operand → Value} {H H' : AHeap} {v : Value}
theorem exR_store {t : TypeId} {x y : Operand} (hop : o.op = .store t x y) : exR P C O q ρ H o v H' ↔ v = undef ∧ ∃ a, ρ x = .pointer (some a) ∧ writeVar P H t a (ρ y) = some H' := by
  rw [exR_other (by intro c f h; rw [hop] at h; cases h)]
  simp only [exec1, hop]
  constructor
  · intro h
    split at h
    · rename_i a ha
      simp only [Option.map_eq_some_iff, Prod.mk.injEq] at h
      obtain ⟨H2, h1, h2, h3⟩ := h
      subst h3
      exact ⟨h2.symm, a, ha, h1⟩
    · cases h
  · rintro ⟨rfl, a, ha, h⟩
    rw [ha]
    simp [h]
end

theorem isSt_op {o : Oper} (h : isSt o = true) : ∃ t x y, o.op = .store t x y := by
  unfold isSt at h
  split at h
  · rename_i t x y he; exact ⟨t, x, y, he⟩
  · cases h
theorem isMk_op {o : Oper} (h : isMk o = true) : (∃ e, o.op = .alloc e) ∨ (∃ e x, o.op = .box e x) ∨ (∃ t n ps, o.op = .buildSlice t n ps) ∨ (∃ t l c, o.op = .makeSlice t l c) ∨ ∃ c, o.op = .call c ∧ c.callee = .builtin .append := by
  unfold isMk at h
  split at h
  · rename_i e he; exact .inl ⟨e, he⟩
  · rename_i e x he; exact .inr (.inl ⟨e, x, he⟩)
  · rename_i t n ps he; exact .inr (.inr (.inl ⟨t, n, ps, he⟩))
  · rename_i t l c he; exact .inr (.inr (.inr (.inl ⟨t, l, c, he⟩)))
  · rename_i c he
    split at h
    · rename_i hc; exact .inr (.inr (.inr (.inr ⟨c, he, hc⟩)))
    · cases h
  · cases h
theorem exR_mk {C : FuncId → Array Value → AHeap → Value → AHeap → Prop} {O : Orc} {q : FuncId → Nat} {o : Oper} {ρ : Operand → Value} {H H' : AHeap} {v : Value} (h : isMk o = true) : exR P C O q ρ H o v H' ↔ exec1 P (noCall O) q ρ H o = some (v, H') :=
  exR_other (by
    intro c f hc hf
    rcases isMk_op h with ⟨_, e⟩ | ⟨_, _, e⟩ | ⟨_, _, _, e⟩ | ⟨_, _, _, e⟩ | ⟨c2, e, e2⟩
    · rw [e] at hc; cases hc
    · rw [e] at hc; cases hc
    · rw [e] at hc; cases hc
    · rw [e] at hc; cases hc
    · rw [e] at hc
      injection hc with hc
      subst hc
      rw [e2] at hf
      cases hf)

theorem outF_congr {C : FuncId → Array Value → AHeap → Value → AHeap → Prop} {O : Orc} {q : FuncId → Nat} {ops : Array Oper} {k : Nat} {o : Oper} {tm : List Value} (H : AHeap) {dst : Option Tmp} (u v : Value) (H' : AHeap) (h : ∀ d, dst = some d → d ∉ o.looksAt ops) :
    outF P C O q ops k o (putT tm dst u) H v H' ↔ outF P C O q ops k o tm H v H' := by
  unfold outF
  rw [wantedL_put h, gOk_put h]
  have := fun v H' => exR_congr (P := P) (C := C) (O := O) (q := q) (o := o) (ρ := evalT (putT tm dst u)) (ρ' := evalT tm) H v H' (fun x hx => evalT_put fun d hd he => h d hd (by
    subst he
    exact List.mem_append_left _ (List.mem_filterMap.2 ⟨.tmp d, hx, rfl⟩)))
  simp only [this]

theorem outF_ne {C : FuncId → Array Value → AHeap → Value → AHeap → Prop} {O : Orc} {q : FuncId → Nat} {ops : Array Oper} {k : Nat} {o : Oper} {tm : List Value} {H : AHeap} {v : Value} {H' : AHeap} (h : isMk o = false) :
    outF P C O q ops k o tm H v H' ↔ outR P C O q ops o tm H v H' := by
  unfold outF outR
  rw [h]
  simp only [Bool.false_eq_true, if_false]

/-- What is told of an operation in such a region. -/
def Kind (q : FuncId → Nat) (o : Oper) : Prop := isMk o = true ∨ isSt o = true ∨ opClass q o = 0 ∨ opClass q o = 1

theorem class_mk {q : FuncId → Nat} {o : Oper} (h : isMk o = true) : opClass q o = 2 ∨ opClass q o = 3 := by
  rcases isMk_op h with ⟨_, e⟩ | ⟨_, _, e⟩ | ⟨_, _, _, e⟩ | ⟨_, _, _, e⟩ | ⟨c, e, e2⟩
  · left; unfold opClass; rw [e]
  · left; unfold opClass; rw [e]
  · left; unfold opClass; rw [e]
  · left; unfold opClass; rw [e]
  · right; unfold opClass; rw [e]; simp only [e2]
theorem class_st {q : FuncId → Nat} {o : Oper} (h : isSt o = true) : opClass q o = 3 := by
  obtain ⟨t, x, y, he⟩ := isSt_op h
  unfold opClass
  rw [he]

/-! what an operation that makes a block reads, and what it leaves -/
def killO (kl : Option Nat) (H : AHeap) : AHeap := match kl with
  | some b => H.setIfInBounds b none
  | none => H
theorem killO_size (kl : Option Nat) (H : AHeap) : (killO kl H).size = H.size := by cases kl <;> simp [killO]
def tbV : Value → List Nat
  | .slice (some a) _ _ => [a.block]
  | _ => []
theorem newsV_eff {H : AHeap} {size n : Nat} {x : Value} {cs : Array Value} (h : newsV H size x = some (n, cs)) :
    (∀ b ∈ tbV x, ∃ B, H[b]? = some (some B)) ∧ (∀ H2 : AHeap, (∀ b ∈ tbV x, H2[b]? = H[b]?) → newsV H2 size x = some (n, cs)) ∧ ∀ c ∈ cs.toList, ∃ b ∈ tbV x, ∃ B, H[b]? = some (some B) ∧ c ∈ B.cells.toList := by
  unfold newsV at h
  split at h
  · injection h with h
    simp only [Prod.mk.injEq] at h
    obtain ⟨rfl, rfl⟩ := h
    exact ⟨fun b hb => by simp [tbV] at hb, fun H2 _ => rfl, fun c hc => by simp at hc⟩
  · rename_i a n0 c0
    split at h
    · rename_i B hB
      split at h
      · rename_i hc
        injection h with h
        simp only [Prod.mk.injEq] at h
        obtain ⟨rfl, rfl⟩ := h
        refine ⟨fun b hb => ?_, fun H2 h2 => ?_, fun c hcc => ?_⟩
        · simp only [tbV, List.mem_singleton] at hb; subst hb; exact ⟨B, hB⟩
        · have e := h2 a.block (List.mem_singleton.2 rfl)
          rw [hB] at e
          simp only [newsV, e]
          rw [if_pos hc]
        · refine ⟨a.block, List.mem_singleton.2 rfl, B, hB, ?_⟩
          unfold cut at hcc
          simp only at hcc
          exact List.mem_of_mem_drop (List.mem_of_mem_take hcc)
      · cases h
    · cases h
  · cases h
/-- The value that a new block's operation tells, whatever its number. -/
structure NewV (va : Nat → Value) : Prop where
  at_ : ∀ n k, atB k (va n) = some (va k)
  rel : ∀ (m m2 : Mp) (n k : Nat) (v' : Value), m2[k]? = m[n]? → VR m (va n) v' → VR m2 (va k) v'
theorem newV_ptr : NewV fun n => .pointer (some ⟨n, 0, none⟩) := ⟨fun _ _ => rfl, fun m m2 n k v' h hv => by
  cases hv with
  | ptr ht =>
    refine .ptr ?_
    unfold tr at ht ⊢
    rw [show (⟨k, 0, none⟩ : Addr).block = k from rfl, h]
    exact ht⟩
theorem newV_slice (l c : Nat) : NewV fun n => .slice (some ⟨n, 0, none⟩) l c := ⟨fun _ _ => rfl, fun m m2 n k v' h hv => by
  cases hv with
  | slice ht hn hr =>
    refine .slice ?_ hn ?_
    · unfold tr at ht ⊢
      rw [show (⟨k, 0, none⟩ : Addr).block = k from rfl, h]
      exact ht
    · intro l hl
      rw [show (⟨k, 0, none⟩ : Addr).block = k from rfl, h] at hl
      exact hr l hl⟩
theorem appendV_eff {H H0 : AHeap} {t t2 : TypeId} {s x v0 : Value} (h : appendV P H t t2 s x = some (v0, H0)) :
    (∀ b ∈ tbV s ++ tbV x, ∃ B, H[b]? = some (some B)) ∧
    ((H0 = H ∧ ∀ H2 : AHeap, (∀ b ∈ tbV s ++ tbV x, H2[b]? = H[b]?) → appendV P H2 t t2 s x = some (v0, H2)) ∨
     ∃ (kl : Option Nat) (X : ABlk) (va : Nat → Value), NewV va ∧ v0 = va H.size ∧ H0 = (killO kl H).push (some X) ∧ (∀ b, kl = some b → b ∈ tbV s ++ tbV x) ∧
       (∀ H2 : AHeap, (∀ b ∈ tbV s ++ tbV x, H2[b]? = H[b]?) → appendV P H2 t t2 s x = some (va H2.size, (killO kl H2).push (some X))) ∧
       ∀ c ∈ X.cells.toList, ∃ b ∈ tbV s ++ tbV x, ∃ B, H[b]? = some (some B) ∧ c ∈ B.cells.toList) := by
  unfold appendV at h
  split at h
  · rename_i e hu
    split at h
    · rename_i i hi
      split at h
      · rename_i z hz
        split at h
        · rename_i hc
          split at h
          · rename_i n cs hn
            obtain ⟨e1, e2, e3⟩ := newsV_eff hn
            split at h
            · rename_i s0
              have hs : ∀ b ∈ tbV (.slice none 0 0) ++ tbV x, ∃ B, H[b]? = some (some B) := fun b hb => e1 b (by simpa [tbV] using hb)
              split at h
              · rename_i h0
                injection h with h
                simp only [Prod.mk.injEq] at h
                obtain ⟨rfl, rfl⟩ := h
                refine ⟨hs, .inl ⟨rfl, fun H2 h2 => ?_⟩⟩
                unfold appendV
                rw [hu]
                simp only [hi, hz]
                rw [if_pos hc, e2 H2 fun b hb => h2 b (by simpa [tbV] using hb)]
                simp only
                rw [if_pos h0]
              · rename_i h0
                split at h
                · rename_i h1
                  injection h with h
                  simp only [Prod.mk.injEq] at h
                  obtain ⟨rfl, rfl⟩ := h
                  refine ⟨hs, .inr ⟨none, ⟨cs, e, i.size, true⟩, fun m => .slice (some ⟨m, 0, none⟩) n n, newV_slice n n, rfl, rfl, fun b hb => (by cases hb), fun H2 h2 => ?_, fun c hcc => ?_⟩⟩
                  · unfold appendV
                    rw [hu]
                    simp only [hi, hz]
                    rw [if_pos hc, e2 H2 fun b hb => h2 b (by simpa [tbV] using hb)]
                    simp only
                    rw [if_neg h0, if_pos h1]
                    rfl
                  · obtain ⟨b, hb, r⟩ := e3 c hcc
                    exact ⟨b, by simpa [tbV] using hb, r⟩
                · cases h
            · rename_i a len c0
              split at h
              · rename_i B hB
                split at h
                · rename_i h1
                  injection h with h
                  simp only [Prod.mk.injEq] at h
                  obtain ⟨rfl, rfl⟩ := h
                  have ha : a.block ∈ tbV (.slice (some a) len c0) ++ tbV x := List.mem_append_left _ (List.mem_singleton.2 rfl)
                  refine ⟨fun b hb => ?_, .inr ⟨some a.block, { B with cells := (B.cells.toList ++ cs.toList).toArray }, fun m => .slice (some ⟨m, 0, none⟩) (len + n) (len + n), newV_slice _ _, rfl, rfl, fun b hb => ?_, fun H2 h2 => ?_, fun c hcc => ?_⟩⟩
                  · rcases List.mem_append.1 hb with hb | hb
                    · simp only [tbV, List.mem_singleton] at hb; subst hb; exact ⟨B, hB⟩
                    · exact e1 b hb
                  · injection hb with hb; subst hb; exact ha
                  · unfold appendV
                    rw [hu]
                    simp only [hi, hz]
                    rw [if_pos hc, e2 H2 fun b hb => h2 b (List.mem_append_right _ hb)]
                    simp only
                    rw [h2 a.block ha, hB]
                    simp only
                    rw [if_pos h1]
                    rfl
                  · simp only [List.toList_toArray] at hcc
                    rcases List.mem_append.1 hcc with hcc | hcc
                    · exact ⟨a.block, ha, B, hB, hcc⟩
                    · obtain ⟨b, hb, r⟩ := e3 c hcc
                      exact ⟨b, List.mem_append_right _ hb, r⟩
                · cases h
              · cases h
            · cases h
          · cases h
        · cases h
      · cases h
    · cases h
  · cases h

theorem tb_blk {x : Value} {b : Nat} (h : b ∈ tbV x) : blkOf x = some b := by
  unfold tbV at h
  split at h
  · simp only [List.mem_singleton] at h; subst h; rfl
  · cases h
theorem VRl.mem {m : Mp} {xs ys : List Value} (h : VRl m xs ys) {x : Value} (hx : x ∈ xs) : ∃ y, VR m x y := by
  obtain ⟨i, hi⟩ := List.getElem?_of_mem hx
  obtain ⟨y, _, r⟩ := h.get hi
  exact ⟨y, r⟩
theorem repL_mem {z : List Value} {c : Value} : ∀ {n : Nat}, c ∈ repL z n → c ∈ z
  | 0, h => by simp [repL] at h
  | n + 1, h => by
    simp only [repL] at h
    rcases List.mem_append.1 h with h | h
    · exact h
    · exact repL_mem h
/-- What an operation that makes a block comes to, in any memory that is the same where it looks. -/
theorem mk_eff {O : Orc} {q : FuncId → Nat} {o : Oper} (hk : isMk o = true) (hok : opOk o = true) {tm : List Value} {H H0 : AHeap} {v0 : Value} (h : exec1 P O q (evalT tm) H o = some (v0, H0)) :
    ∃ T : List Nat, (∀ b ∈ T, (∃ x ∈ touchO o, blkOf (evalT tm x) = some b) ∧ ∃ B, H[b]? = some (some B)) ∧
    ((H0 = H ∧ ∀ H2 : AHeap, (∀ b ∈ T, H2[b]? = H[b]?) → exec1 P O q (evalT tm) H2 o = some (v0, H2)) ∨
     ∃ (kl : Option Nat) (X : ABlk) (va : Nat → Value), NewV va ∧ v0 = va H.size ∧ H0 = (killO kl H).push (some X) ∧ (∀ b, kl = some b → b ∈ T) ∧
       (∀ H2 : AHeap, (∀ b ∈ T, H2[b]? = H[b]?) → exec1 P O q (evalT tm) H2 o = some (va H2.size, (killO kl H2).push (some X))) ∧
       ∀ (a : Act) (m : Mp) (w : World), HR H m w → VRl m tm a.tmps.toList → ∀ c ∈ X.cells.toList, ∃ y, VR m c y) := by
  have hops : ∀ x ∈ o.op.operands.toList, operandOk x = true := List.all_eq_true.1 hok
  rcases isMk_op hk with ⟨e, hop⟩ | ⟨e, x, hop⟩ | ⟨t, n, ps, hop⟩ | ⟨t, l, c, hop⟩ | ⟨c, hop, hcal⟩
  · simp only [exec1, hop] at h
    split at h
    · rename_i i hi
      split at h
      · rename_i z hz
        split at h
        · rename_i hc
          injection h with h
          simp only [Prod.mk.injEq] at h
          obtain ⟨rfl, rfl⟩ := h
          refine ⟨[], fun b hb => (by cases hb), .inr ⟨none, ⟨z.cells, e, 0, true⟩, _, newV_ptr, rfl, rfl, fun b hb => (by cases hb), fun H2 _ => ?_, fun a m w hr ht cc hcc => ?_⟩⟩
          · simp only [exec1, hop, hi, hz]; rw [if_pos hc]; rfl
          · exact (closN_cells (m := m) hc).list.mem hcc
        · cases h
      · cases h
    · cases h
  · simp only [exec1, hop] at h
    split at h
    · rename_i hc
      injection h with h
      simp only [Prod.mk.injEq] at h
      obtain ⟨rfl, rfl⟩ := h
      refine ⟨[], fun b hb => (by cases hb), .inr ⟨none, ⟨(evalT tm x).cells, e, 0, true⟩, _, newV_ptr, rfl, rfl, fun b hb => (by cases hb), fun H2 _ => ?_, fun a m w hr ht cc hcc => ?_⟩⟩
      · simp only [exec1, hop]; rw [if_pos hc]; rfl
      · exact ((evalT_rel ht (hops x (by simp [hop, Op.operands]))).cells hc).list.mem hcc
    · cases h
  · simp only [exec1, hop] at h
    split at h
    · rename_i e i cells hc
      injection h with h
      simp only [Prod.mk.injEq] at h
      obtain ⟨rfl, rfl⟩ := h
      refine ⟨[], fun b hb => (by cases hb), .inr ⟨none, ⟨cells, e, i.size, true⟩, _, newV_slice n n, rfl, rfl, fun b hb => (by cases hb), fun H2 _ => ?_, fun a m w hr ht cc hcc => ?_⟩⟩
      · simp only [exec1, hop, hc]; rfl
      · have hp : ps.toList.all (fun p => operandOk p.2) = true := List.all_eq_true.2 fun p hp => hops p.2 (by simp [hop, Op.operands]; exact ⟨p.1, by simpa using hp⟩)
        obtain ⟨cells', _, r, _⟩ := run_buildSlice' (P := P) (mapP (evalT tm) ps) (ps.toList.map fun p : Nat × Operand => ((p.1, a.eval p.2) : Nat × Value)) (mapP_rel ht ps.toList hp).1 (mapP_rel ht ps.toList hp).2 hc w
        exact r.list.mem hcc
    · cases h
  · simp only [exec1, hop] at h
    unfold makeSliceV at h
    split at h
    · rename_i e k1 n k2 mm hu e1 e2
      split at h
      · rename_i i hi
        split at h
        · rename_i z hz
          split at h
          · rename_i hc
            injection h with h
            simp only [Prod.mk.injEq] at h
            obtain ⟨rfl, rfl⟩ := h
            refine ⟨[], fun b hb => (by cases hb), .inr ⟨none, ⟨(repL z.cells.toList n.toNat).toArray, e, i.size, true⟩, _, newV_slice _ _, rfl, rfl, fun b hb => (by cases hb), fun H2 _ => ?_, fun a m w hr ht cc hcc => ?_⟩⟩
            · simp only [exec1, hop, makeSliceV, hu, e1, e2, hi, hz]; rw [if_pos hc]; rfl
            · simp only [Bool.and_eq_true] at hc
              simp only [List.toList_toArray] at hcc
              exact (closN_cells (m := m) hc.1.1.1.1.1.1).list.mem (repL_mem hcc)
          · cases h
        · cases h
      · cases h
    · cases h
  · simp only [exec1, hop, hcal] at h
    split at h
    · rename_i s x t t2 ha ht'
      obtain ⟨g1, g2⟩ := appendV_eff h
      have htc : touchO o = c.args.toList := by unfold touchO; rw [hop]; simp only [hcal]
      refine ⟨tbV (evalT tm s) ++ tbV (evalT tm x), fun b hb => ⟨?_, g1 b hb⟩, ?_⟩
      · rw [htc, ha]
        rcases List.mem_append.1 hb with hb | hb
        · exact ⟨s, by simp, tb_blk hb⟩
        · exact ⟨x, by simp, tb_blk hb⟩
      · rcases g2 with ⟨r1, r2⟩ | ⟨kl, X, va, r1, r2, r3, r4, r5, r6⟩
        · exact .inl ⟨r1, fun H2 h2 => by simp only [exec1, hop, hcal, ha, ht']; exact r2 H2 h2⟩
        · refine .inr ⟨kl, X, va, r1, r2, r3, r4, fun H2 h2 => by simp only [exec1, hop, hcal, ha, ht']; exact r5 H2 h2, fun a m w hr ht cc hcc => ?_⟩
          obtain ⟨b, _, B, hB, hm⟩ := r6 cc hcc
          obtain ⟨l, cs, fr, _, br⟩ := hr.blk b B hB
          obtain ⟨i, hi⟩ := List.getElem?_of_mem hm
          obtain ⟨v', _, r⟩ := br.vals i cc (by simpa using hi)
          exact ⟨v', r⟩
    · cases h

/-! what an operation reads, and writes -/
def app (us : List (Nat × Option ABlk)) (H : AHeap) : AHeap := us.foldl (fun H u => H.setIfInBounds u.1 u.2) H
theorem app_size : ∀ (us : List (Nat × Option ABlk)) (H : AHeap), (app us H).size = H.size
  | [], H => rfl
  | u :: us, H => by
    show (app us (H.setIfInBounds u.1 u.2)).size = _
    rw [app_size us]; simp
theorem app_get : ∀ (us : List (Nat × Option ABlk)) (H : AHeap) (i : Nat), (∀ u ∈ us, u.1 ≠ i) → (app us H)[i]? = H[i]?
  | [], H, i, _ => rfl
  | u :: us, H, i, h => by
    show (app us (H.setIfInBounds u.1 u.2))[i]? = _
    rw [app_get us _ i fun x hx => h x (List.mem_cons_of_mem _ hx), set_get_ne (h u (List.mem_cons_self ..))]
theorem app_set : ∀ (us : List (Nat × Option ABlk)) (H : AHeap) (i : Nat) (x : Option ABlk), (∀ u ∈ us, u.1 ≠ i) → app us (H.setIfInBounds i x) = (app us H).setIfInBounds i x
  | [], H, i, x, _ => rfl
  | u :: us, H, i, x, h => by
    show app us ((H.setIfInBounds i x).setIfInBounds u.1 u.2) = (app us (H.setIfInBounds u.1 u.2)).setIfInBounds i x
    rw [set_comm' (fun e => h u (List.mem_cons_self ..) e.symm), app_set us _ i x fun y hy => h y (List.mem_cons_of_mem _ hy)]
theorem app_comm : ∀ (us vs : List (Nat × Option ABlk)) (H : AHeap), (∀ u ∈ us, ∀ v ∈ vs, u.1 ≠ v.1) → app us (app vs H) = app vs (app us H)
  | [], vs, H, _ => rfl
  | u :: us, vs, H, h => by
    show app us ((app vs H).setIfInBounds u.1 u.2) = app vs (app us (H.setIfInBounds u.1 u.2))
    rw [← app_set vs H u.1 u.2 fun v hv e => h u (List.mem_cons_self ..) v hv e.symm, app_comm us vs _ fun x hx => h x (List.mem_cons_of_mem _ hx)]
theorem push_list (Hk : AHeap) (X : Option ABlk) : (Hk.push X).toList.take Hk.size = Hk.toList ∧ (Hk.push X).toList.drop Hk.size = [X] := by
  rw [Array.toList_push]
  constructor
  · rw [List.take_append_of_le_length (by simp), List.take_of_length_le (by simp)]
  · rw [List.drop_append_of_le_length (by simp), List.drop_of_length_le (by simp), List.nil_append]
theorem place_push {k : Nat} {H Hk : AHeap} {v0 v : Value} {X : Option ABlk} {H' : AHeap} (hs : Hk.size = H.size) : placeV k H v0 (Hk.push X) = some (v, H') ↔ H[k]? = some none ∧ atB k v0 = some v ∧ H' = Hk.setIfInBounds k X := by
  obtain ⟨e1, e2⟩ := push_list Hk X
  unfold placeV
  have hne : ((Hk.push X).size == H.size) = false := by simp [hs]
  rw [hne, ← hs, e1, e2]
  simp only [Bool.false_eq_true, if_false]
  have eset : (Hk.toList.set k X).toArray = Hk.setIfInBounds k X := by apply Array.ext'; simp
  constructor
  · intro h
    split at h
    · rename_i X' v' hX hk hv
      injection hX with hX
      subst hX
      injection h with h
      simp only [Prod.mk.injEq] at h
      obtain ⟨rfl, rfl⟩ := h
      exact ⟨hk, hv, eset⟩
    · cases h
  · rintro ⟨h1, h2, rfl⟩
    rw [h1, h2]
    simp only [eset]
theorem place_same {k : Nat} {H : AHeap} {v0 v : Value} {H' : AHeap} : placeV k H v0 H = some (v, H') ↔ v = v0 ∧ H' = H := by
  unfold placeV
  simp only [beq_self_eq_true, if_true, Option.some.injEq, Prod.mk.injEq]
  constructor <;> rintro ⟨rfl, rfl⟩ <;> exact ⟨rfl, rfl⟩
theorem touch_mk {o : Oper} {x : Operand} (h : x ∈ touchO o) : x ∈ o.op.operands.toList := by
  unfold touchO at h
  split at h
  · rename_i hop; simp only [List.mem_singleton] at h; subst h; simp [hop, Op.operands]
  · rename_i hop; simp only [List.mem_singleton] at h; subst h; simp [hop, Op.operands]
  · rename_i c hop
    split at h
    · rename_i hcal
      simp [hop, Op.operands, Call.operands, hcal]
      simpa using h
    · cases h
  · cases h

section
variable {C : FuncId → Array Value → AHeap → Value → AHeap → Prop} {O : Orc} {q : FuncId → Nat} {ops : Array Oper}
/-- What an operation reads and writes: blocks that are there and that its operands tell, and the place that is kept for its own. -/
structure Eff (P : Program) (C : FuncId → Array Value → AHeap → Value → AHeap → Prop) (O : Orc) (q : FuncId → Nat) (ops : Array Oper) (k : Nat) (o : Oper) (tm : List Value) (H : AHeap) (v : Value) (H' : AHeap) (rd : List Nat) (us : List (Nat × Option ABlk)) : Prop where
  to : H' = app us H
  sub : ∀ u ∈ us, u.1 ∈ rd
  at_ : ∀ i ∈ rd, (i = k ∧ isMk o = true ∧ H[k]? = some none) ∨ ((∃ x ∈ touchO o, blkOf (evalT tm x) = some i) ∧ ∃ B, H[i]? = some (some B))
  read : opClass q o = 1 → us = []
  pure_ : opClass q o = 0 → rd = []
  same : ∀ H2 : AHeap, H2.size = H.size → (∀ i ∈ rd, H2[i]? = H[i]?) → outF P C O q ops k o tm H2 v (app us H2)
theorem eff_of {k : Nat} {o : Oper} (hok : opOk o = true) (hk : Kind q o) {tm : List Value} {H H' : AHeap} {v : Value} (h : outF P C O q ops k o tm H v H') : ∃ rd us, Eff P C O q ops k o tm H v H' rd us := by
  have hfun : ∀ g, evalT tm (.func g) = .func (.func g) #[] #[] := fun _ => rfl
  by_cases hw : wantedL ops o tm = true
  · rcases hk with hm | hs | h0 | h1
    · -- makes a block
      have h' := h
      unfold outF at h'
      rw [if_pos hw, if_pos hm] at h'
      obtain ⟨v0, H0, hx, hp⟩ := h'
      rw [exR_mk hm] at hx
      have ncl : opClass q o ≠ 1 ∧ opClass q o ≠ 0 := by rcases class_mk (q := q) hm with e | e <;> rw [e] <;> exact ⟨by decide, by decide⟩
      obtain ⟨T, hT, hE⟩ := mk_eff hm hok hx
      rcases hE with ⟨rfl, he⟩ | ⟨kl, X, va, hv, rfl, rfl, hkl, he, _⟩
      · obtain ⟨rfl, rfl⟩ := place_same.1 hp
        refine ⟨T, [], rfl, fun u hu => (by cases hu), fun i hi => .inr (hT i hi), fun _ => rfl, fun e => absurd e ncl.2, fun H2 _ h2 => ?_⟩
        unfold outF
        rw [if_pos hw, if_pos hm]
        exact ⟨v, H2, (exR_mk hm).2 (he H2 h2), place_same.2 ⟨rfl, rfl⟩⟩
      · obtain ⟨p1, p2, rfl⟩ := (place_push (killO_size kl H)).1 hp
        rw [hv.at_] at p2
        injection p2 with p2
        subst p2
        have hkk : ∀ b, kl = some b → b ≠ k := fun b hb e => by
          obtain ⟨B, hB⟩ := (hT b (hkl b hb)).2
          rw [e, p1] at hB
          cases hB
        have eus : ∀ H2 : AHeap, (killO kl H2).setIfInBounds k (some X) = app ((kl.map fun b => (b, (none : Option ABlk))).toList ++ [(k, some X)]) H2 := fun H2 => by cases kl <;> rfl
        refine ⟨k :: T, (kl.map fun b => (b, (none : Option ABlk))).toList ++ [(k, some X)], eus H, ?_, ?_, fun e => absurd e ncl.1, fun e => absurd e ncl.2, fun H2 hs h2 => ?_⟩
        · intro u hu
          rcases List.mem_append.1 hu with hu | hu
          · cases kl with
            | none => simp at hu
            | some b => simp at hu; subst hu; exact List.mem_cons_of_mem _ (hkl b rfl)
          · simp only [List.mem_singleton] at hu; subst hu; exact List.mem_cons_self ..
        · intro i hi
          rcases List.mem_cons.1 hi with rfl | hi
          · exact .inl ⟨rfl, hm, p1⟩
          · exact .inr (hT i hi)
        · unfold outF
          rw [if_pos hw, if_pos hm]
          refine ⟨va H2.size, (killO kl H2).push (some X), (exR_mk hm).2 (he H2 fun b hb => h2 b (List.mem_cons_of_mem _ hb)), (place_push (killO_size kl H2)).2 ⟨?_, hv.at_ _ _, (eus H2).symm⟩⟩
          rw [h2 k (List.mem_cons_self ..)]
          exact p1
    · -- writes
      have hm : isMk o = false := by obtain ⟨t, x, y, hop⟩ := isSt_op hs; unfold isMk; rw [hop]
      have h' := h
      rw [outF_ne hm] at h'
      unfold outR at h'
      rw [if_pos hw] at h'
      obtain ⟨t, x, y, hop⟩ := isSt_op hs
      obtain ⟨rfl, a, ha, hwr⟩ := (exR_store hop).1 h'
      obtain ⟨B, B', b1, rfl, b3⟩ := writeVar_spec hwr
      refine ⟨[a.block], [(a.block, some B')], rfl, fun u hu => (by simp only [List.mem_singleton] at hu; subst hu; exact List.mem_singleton.2 rfl), fun i hi => ?_, fun e => ?_, fun e => ?_, fun H2 _ h2 => ?_⟩
      · simp only [List.mem_singleton] at hi
        subst hi
        exact .inr ⟨⟨x, by unfold touchO; rw [hop]; simp, by rw [ha]; rfl⟩, B, b1⟩
      · rw [class_st hs] at e; cases e
      · rw [class_st hs] at e; cases e
      · rw [outF_ne hm]
        unfold outR
        rw [if_pos hw]
        exact (exR_store hop).2 ⟨rfl, a, ha, b3 H2 (h2 a.block (List.mem_singleton.2 rfl))⟩
    · -- pure
      have hm : isMk o = false := by
        cases e : isMk o with
        | false => rfl
        | true => rcases class_mk (q := q) e with e2 | e2 <;> rw [e2] at h0 <;> cases h0
      have h' := h
      rw [outF_ne hm] at h'
      unfold outR at h'
      rw [if_pos hw] at h'
      obtain ⟨rfl, he⟩ := exR_pure h0 hfun h'
      refine ⟨[], [], rfl, fun u hu => (by cases hu), fun i hi => (by cases hi), fun _ => rfl, fun _ => rfl, fun H2 _ _ => ?_⟩
      rw [outF_ne hm]
      unfold outR
      rw [if_pos hw]
      exact he H2
    · -- reads
      have hm : isMk o = false := by
        cases e : isMk o with
        | false => rfl
        | true => rcases class_mk (q := q) e with e2 | e2 <;> rw [e2] at h1 <;> cases h1
      have h' := h
      rw [outF_ne hm] at h'
      unfold outR at h'
      rw [if_pos hw] at h'
      obtain ⟨t, x, hop⟩ := class_load (O := O) (ρ := evalT tm) h1
      obtain ⟨rfl, a, ha, hrd⟩ := (exR_load hop).1 h'
      have hB : ∃ B, H'[a.block]? = some (some B) := by
        unfold readVar at hrd
        cases e : H'[a.block]? with
        | none => rw [e] at hrd; cases hrd
        | some x => cases x with
          | none => rw [e] at hrd; cases hrd
          | some B => exact ⟨B, rfl⟩
      refine ⟨[a.block], [], rfl, fun u hu => (by cases hu), fun i hi => ?_, fun _ => rfl, fun e => (by rw [h1] at e; cases e), fun H2 _ h2 => ?_⟩
      · simp only [List.mem_singleton] at hi
        subst hi
        exact .inr ⟨⟨x, by unfold touchO; rw [hop]; simp, by rw [ha]; rfl⟩, hB⟩
      · rw [outF_ne hm]
        unfold outR
        rw [if_pos hw]
        refine (exR_load hop).2 ⟨rfl, a, ha, ?_⟩
        unfold readVar at hrd ⊢
        rw [h2 a.block (List.mem_singleton.2 rfl)]
        exact hrd
  · have h' := h
    unfold outF at h'
    rw [if_neg hw] at h'
    obtain ⟨rfl, rfl, hg⟩ := h'
    refine ⟨[], [], rfl, fun u hu => (by cases hu), fun i hi => (by cases hi), fun _ => rfl, fun _ => rfl, fun H2 _ _ => ?_⟩
    unfold outF
    rw [if_neg hw]
    exact ⟨rfl, rfl, hg⟩

/-- Two that may change places, in such a region. -/
theorem swapF_ok {p o : Oper} {kp ko : Nat} (okp : opOk p = true) (oko : opOk o = true) (hap : p.apart ops o = true) (hkp : Kind q p) (hko : Kind q o) (hne : isMk p = true → isMk o = true → kp ≠ ko) {tm : List Value} {H H1 H2 : AHeap} {vp vo : Value}
    (hwf : isMk p = true → ∀ x ∈ touchO o, ∀ b, blkOf (evalT tm x) = some b → b ≠ kp) (hno : isMk o = true → H[ko]? = some none)
    (hdyn : opClass q p ≠ 0 → opClass q o ≠ 0 → ¬ (opClass q p = 1 ∧ opClass q o = 1) → ∀ x ∈ touchO p, ∀ y ∈ touchO o, ∀ b c, blkOf (evalT tm x) = some b → blkOf (evalT tm y) = some c → b ≠ c)
    (h1 : outF P C O q ops kp p tm H vp H1) (h2 : outF P C O q ops ko o (putT tm p.dst vp) H1 vo H2) :
    ∃ Hm, outF P C O q ops ko o tm H vo Hm ∧ outF P C O q ops kp p (putT tm o.dst vo) Hm vp H2 ∧ putT (putT tm p.dst vp) o.dst vo = putT (putT tm o.dst vo) p.dst vp := by
  obtain ⟨a1, a2, a3⟩ := Oper.apart_spec hap
  rw [outF_congr H1 vp vo H2 a1] at h2
  have hcomm := putT_comm tm (x := p.dst) (y := o.dst) vp vo a2
  have hcong : ∀ Hx, outF P C O q ops kp p (putT tm o.dst vo) Hx vp H2 ↔ outF P C O q ops kp p tm Hx vp H2 := fun Hx => outF_congr Hx vo vp H2 a3
  simp only [hcong]
  obtain ⟨rp, up, Ep⟩ := eff_of okp hkp h1
  obtain ⟨ro, uo, Eo⟩ := eff_of oko hko h2
  have hz : H1.size = H.size := by rw [Ep.to, app_size]
  -- where both look, neither writes
  have key : ∀ i, i ∈ rp → i ∈ ro → ∀ u, (u ∈ up ∨ u ∈ uo) → u.1 ≠ i := by
    intro i hp ho u hu e
    have n0 : opClass q p ≠ 0 := fun e => by rw [Ep.pure_ e] at hp; cases hp
    have n1 : opClass q o ≠ 0 := fun e => by rw [Eo.pure_ e] at ho; cases ho
    have n2 : ¬ (opClass q p = 1 ∧ opClass q o = 1) := fun e => by
      rcases hu with hu | hu
      · rw [Ep.read e.1] at hu; cases hu
      · rw [Eo.read e.2] at hu; cases hu
    rcases Ep.at_ i hp with ⟨e1, m1, _⟩ | ⟨⟨x, hx, bx⟩, B, hB⟩
    · rcases Eo.at_ i ho with ⟨e2, m2, _⟩ | ⟨⟨y, hy, bY⟩, _⟩
      · exact hne m1 m2 (e1.symm.trans e2)
      · exact hwf m1 y hy i bY e1
    · rcases Eo.at_ i ho with ⟨e2, m2, _⟩ | ⟨⟨y, hy, bY⟩, _⟩
      · have := hno m2
        rw [← e2, hB] at this
        cases this
      · exact hdyn n0 n1 n2 x hx y hy i i bx bY rfl
  have g1 : ∀ i ∈ ro, H[i]? = H1[i]? := fun i hi => by
    rw [Ep.to]
    refine (app_get up H i fun u hu e => ?_).symm
    exact key i (by rw [← e]; exact Ep.sub u hu) hi u (.inl hu) e
  have g2 : ∀ i ∈ rp, (app uo H)[i]? = H[i]? := fun i hi => app_get uo H i fun u hu e => key i hi (by rw [← e]; exact Eo.sub u hu) u (.inr hu) e
  refine ⟨app uo H, Eo.same H hz.symm g1, ?_, hcomm⟩
  have h3 := Ep.same (app uo H) (app_size uo H) g2
  rw [Eo.to, Ep.to, app_comm uo up H fun u hu w hw e => key u.1 (by rw [e]; exact Ep.sub w hw) (Eo.sub u hu) u (.inr hu) rfl]
  exact h3
end

end
end Go.Proofs.YtameamgamdaibaaDoor

/-!  Regions in which several blocks are made: any order of theirs comes to the text's. -/
namespace Go.Proofs.YtameamgamdaibaaDoor
open Go
set_option linter.unusedVariables false
set_option linter.unusedSimpArgs false

section
variable {P : Program}

/-- The place that is kept for the i-th operation's block. -/
def placeOf (ops : Array Oper) (base i : Nat) : Nat := base + countB isMk (ops.toList.take i)

def evIxF (P : Program) (C : FuncId → Array Value → AHeap → Value → AHeap → Prop) (O : Orc) (q : FuncId → Nat) (ops : Array Oper) (base : Nat) : List Nat → List Value → AHeap → List Value → AHeap → Prop
  | [], tm, H, tm', H' => tm' = tm ∧ H' = H
  | i :: rest, tm, H, tm', H' =>
    match ops[i]? with
    | none => evIxF P C O q ops base rest tm H tm' H'
    | some o => ∃ v H1, outF P C O q ops (placeOf ops base i) o tm H v H1 ∧ evIxF P C O q ops base rest (putT tm o.dst v) H1 tm' H'

theorem countB_append {α : Type} (p : α → Bool) : ∀ (l : List α) (a : α), countB p (l ++ [a]) = if p a then countB p l + 1 else countB p l
  | [], a => by simp [countB]
  | b :: l, a => by
    simp only [List.cons_append, countB, countB_append p l a]
    split <;> split <;> rfl

theorem place_succ {ops : Array Oper} {base i : Nat} {o : Oper} (h : ops[i]? = some o) : placeOf ops base (i + 1) = if isMk o then placeOf ops base i + 1 else placeOf ops base i := by
  unfold placeOf
  have : ops.toList.take (i + 1) = ops.toList.take i ++ [o] := by
    have h2 : ops.toList[i]? = some o := by simpa using h
    rw [List.take_add_one, h2]
    rfl
  rw [this, countB_append]
  split <;> omega

theorem place_lt {ops : Array Oper} {base i : Nat} {o : Oper} (h : ops[i]? = some o) (ha : isMk o = true) : ∀ j, i < j → placeOf ops base i < placeOf ops base j := by
  have mono : ∀ j k, j ≤ k → placeOf ops base j ≤ placeOf ops base k := by
    intro j k hjk
    induction k with
    | zero => have : j = 0 := by omega
              subst this; exact Nat.le_refl _
    | succ k ih =>
      rcases Nat.lt_or_ge j (k + 1) with h1 | h1
      · refine Nat.le_trans (ih (by omega)) ?_
        cases hk : ops[k]? with
        | some p => rw [place_succ hk]; split <;> omega
        | none =>
          have : ops.size ≤ k := by
            rcases Nat.lt_or_ge k ops.size with h2 | h2
            · rw [Array.getElem?_eq_getElem h2] at hk; cases hk
            · exact h2
          unfold placeOf
          rw [List.take_of_length_le (by simpa using this), List.take_of_length_le (by simp; omega)]
          exact Nat.le_refl _
      · have : j = k + 1 := by omega
        subst this; exact Nat.le_refl _
  intro j hij
  have h1 := mono (i + 1) j hij
  rw [place_succ h, if_pos ha] at h1
  omega

theorem evIxF_range {C : FuncId → Array Value → AHeap → Value → AHeap → Prop} {O : Orc} {q : FuncId → Nat} {ops : Array Oper} {base : Nat} (l : List Oper) : ∀ (k : Nat) (tm : List Value) (H : AHeap) (tm' : List Value) (H' : AHeap), (∀ j, l[j]? = ops[k + j]?) →
    evOpsFR P C O q ops l (placeOf ops base k) tm H tm' H' → evIxF P C O q ops base (List.range' k l.length) tm H tm' H' := by
  induction l with
  | nil => intro k tm H tm' H' _ h; exact h
  | cons o l ih =>
    intro k tm H tm' H' h hh
    have h0 : ops[k]? = some o := by simpa using (h 0).symm
    obtain ⟨v, H1, h1, h2⟩ := hh
    simp only [List.length_cons, List.range'_succ, evIxF, h0]
    rw [← place_succ h0] at h2
    exact ⟨v, H1, h1, ih (k + 1) _ _ _ _ (fun j => by have := h (j + 1); simpa [Nat.add_assoc, Nat.add_comm 1 j] using this) h2⟩

/-- What no operation that is left writes stays. -/
theorem final_val {C : FuncId → Array Value → AHeap → Value → AHeap → Prop} {O : Orc} {q : FuncId → Nat} {ops : Array Oper} {base : Nat} {x : Operand} : ∀ (l : List Nat) (tm : List Value) (H : AHeap) (tm' : List Value) (H' : AHeap),
    (∀ i ∈ l, ∀ o, ops[i]? = some o → ∀ d, o.dst = some d → x ≠ .tmp d) → evIxF P C O q ops base l tm H tm' H' → evalT tm' x = evalT tm x
  | [], tm, H, tm', H', _, h => by obtain ⟨rfl, _⟩ := h; rfl
  | i :: l, tm, H, tm', H', hx, h => by
    have hl := fun j hj => hx j (List.mem_cons_of_mem _ hj)
    cases hi : ops[i]? with
    | none =>
      simp only [evIxF, hi] at h
      exact final_val l tm H tm' H' hl h
    | some o =>
      simp only [evIxF, hi] at h
      obtain ⟨v, H1, _, h2⟩ := h
      rw [final_val l _ _ _ _ hl h2]
      exact evalT_put fun d hd => hx i (List.mem_cons_self ..) o hi d hd

structure RegF (q : FuncId → Nat) (ops : Array Oper) (d : List Nat) : Prop where
  back : ∀ i o, ops[i]? = some o → ∀ e ∈ o.after.toList, Region.binds .any e = true → e.on < i
  dep : ∀ i o j, ops[i]? = some o → j < ops.size → (d.getD i 0).testBit j = true → ∃ e ∈ o.after.toList, Region.binds .any e = true ∧ (e.on = j ∨ (d.getD e.on 0).testBit j = true)
  swap : ∀ i o j p, ops[i]? = some o → ops[j]? = some p → j < i → (d.getD i 0).testBit j = false → swapF q ops p j o i = true
  kind : ∀ (i : Nat) (o : Oper), ops[i]? = some o → Kind q o

theorem regF_of {q : FuncId → Nat} {ops : Array Oper} (h : regionF q ops = true) (hs : special q ops = true) : RegF q ops (depsL ops.toList []) := by
  unfold regionF at h
  simp only [List.all_eq_true, Bool.and_eq_true, Bool.or_eq_true, Bool.not_eq_true', decide_eq_true_eq, List.any_eq_true, beq_iff_eq] at h
  have get : ∀ i o, ops[i]? = some o → (o, i) ∈ ops.toList.zipIdx := fun i o ho => mem_zip (by simpa using ho)
  refine ⟨fun i o ho e he hb => ?_, fun i o j ho hj ht => ?_, fun i o j p ho hp hj ht => ?_, fun i o ho => ?_⟩
  · rcases (h _ (get i o ho)).1.1 e he with h1 | h1
    · rw [h1] at hb; cases hb
    · exact h1
  · rcases (h _ (get i o ho)).1.2 j (List.mem_range.2 hj) with h1 | ⟨e, he, hb, h2⟩
    · simp only at h1; rw [h1] at ht; cases ht
    · exact ⟨e, he, hb, h2⟩
  · rcases (h _ (get i o ho)).2 _ (get j p hp) with (h1 | h1) | h1
    · simp only at h1; rw [decide_eq_false_iff_not] at h1; exact absurd hj h1
    · simp only at h1; rw [h1] at ht; cases ht
    · exact h1
  · unfold special at hs
    simp only [Bool.and_eq_true, List.all_eq_true, Bool.or_eq_true] at hs
    have hm : o ∈ ops.toList := List.mem_of_getElem? (by simpa using ho)
    rcases hs.2 o hm with (h1 | h1) | h1
    · exact .inl h1
    · exact .inr (.inl h1)
    · split at h1
      · rename_i h2; exact .inr (.inr (.inl h2))
      · rename_i h2; exact .inr (.inr (.inr h2))
      · cases h1

theorem dyn_of {q : FuncId → Nat} {ops : Array Oper} {tm : List Value} (h : dynOk q ops tm = true) {i j : Nat} {o p : Oper} (ho : ops[i]? = some o) (hp : ops[j]? = some p) (hj : j < i)
    (hd : isDyn q p o = true) (ht : ((depsL ops.toList []).getD i 0).testBit j = false) : differ tm p o = true := by
  unfold dynOk at h
  simp only [List.all_eq_true, Bool.or_eq_true, Bool.not_eq_true', decide_eq_false_iff_not] at h
  have get : ∀ i o, ops[i]? = some o → (o, i) ∈ ops.toList.zipIdx := fun i o ho => mem_zip (by simpa using ho)
  rcases h _ (get i o ho) _ (get j p hp) with ((h1 | h1) | h1) | h1
  · exact absurd hj h1
  · simp only at h1; rw [hd] at h1; cases h1
  · simp only at h1; rw [ht] at h1; cases h1
  · exact h1

theorem differ_spec {tm : List Value} {p o : Oper} (h : differ tm p o = true) : ∀ x ∈ touchO p, ∀ y ∈ touchO o, ∀ b c, blkOf (evalT tm x) = some b → blkOf (evalT tm y) = some c → b ≠ c := by
  intro x hx y hy b c hb hc
  unfold differ at h
  simp only [List.all_eq_true, Bool.and_eq_true] at h
  have := ((h x hx).2 y hy).2
  rw [hb, hc] at this
  simp only [Bool.not_eq_true', beq_eq_false_iff_ne] at this
  exact this

theorem noAssign_spec {ops : Array Oper} {i : Nat} {d : Tmp} (h : noAssign ops i d = true) {k : Nat} (hk : i ≤ k) {o : Oper} (ho : ops[k]? = some o) : ∀ e, o.dst = some e → (Operand.tmp d) ≠ .tmp e := by
  intro e he hde
  injection hde with hde
  subst hde
  unfold noAssign at h
  rw [List.all_eq_true] at h
  have hm : o ∈ ops.toList.drop i := by
    refine List.mem_of_getElem? (i := k - i) ?_
    rw [List.getElem?_drop, show i + (k - i) = k by omega]
    simpa using ho
  have := h o hm
  rw [he] at this
  simp at this

theorem dynSt_spec {ops : Array Oper} {o : Oper} {i : Nat} (h : dynSt ops o i = true) {x : Operand} (hx : x ∈ touchO o) : (∃ v, x = .const v) ∨ ∃ d, x = .tmp d ∧ noAssign ops i d = true := by
  unfold dynSt at h
  rw [List.all_eq_true] at h
  have := h x hx
  cases x with
  | tmp d => exact .inr ⟨d, rfl, this⟩
  | const v => exact .inl ⟨v, rfl⟩
  | global g => cases this
  | func f => cases this

/-- One that may change places with all before it comes first. -/
theorem to_frontF {C : FuncId → Array Value → AHeap → Value → AHeap → Prop} {O : Orc} {q : FuncId → Nat} {ops : Array Oper} {base : Nat} {d : List Nat} (hok : ops.toList.all opOk = true) (hR : RegF q ops d) {i : Nat} {o : Oper} (hi : ops[i]? = some o) :
    ∀ (pre post : List Nat) (tm : List Value) (H : AHeap) (tm' : List Value) (H' : AHeap), (pre ++ i :: post).Pairwise (· < ·) →
    (∀ j ∈ pre, (d.getD i 0).testBit j = false) →
    (∀ j ∈ pre, ∀ p, ops[j]? = some p → isMk p = true → ∀ x ∈ touchO o, ∀ b, blkOf (evalT tm x) = some b → b ≠ placeOf ops base j) →
    (∀ j ∈ pre ++ [i], ∀ p, ops[j]? = some p → isMk p = true → H[placeOf ops base j]? = some none) →
    (∀ j ∈ pre, ∀ p, ops[j]? = some p → isDyn q p o = true → differ tm' p o = true) →
    evIxF P C O q ops base (pre ++ i :: post) tm H tm' H' → ∃ v H1, outF P C O q ops (placeOf ops base i) o tm H v H1 ∧ evIxF P C O q ops base (pre ++ post) (putT tm o.dst v) H1 tm' H'
  | [], post, tm, H, tm', H', _, _, _, _, _, h => by
    simp only [List.nil_append, evIxF, hi] at h
    obtain ⟨v, H1, h1, h2⟩ := h
    exact ⟨v, H1, h1, h2⟩
  | j :: pre, post, tm, H, tm', H', hpw, hdep, hwf, hnn, hdy, h => by
    have hpw' : (pre ++ i :: post).Pairwise (· < ·) := (List.pairwise_cons.1 hpw).2
    have hji : ∀ k ∈ pre ++ i :: post, j < k := (List.pairwise_cons.1 hpw).1
    cases hj : ops[j]? with
    | none =>
      simp only [List.cons_append, evIxF, hj] at h
      obtain ⟨v, H1, h1, h2⟩ := to_frontF hok hR hi pre post tm H tm' H' hpw' (fun k hk => hdep k (List.mem_cons_of_mem _ hk)) (fun k hk => hwf k (List.mem_cons_of_mem _ hk)) (fun k hk => hnn k (List.mem_cons_of_mem _ hk)) (fun k hk => hdy k (List.mem_cons_of_mem _ hk)) h
      exact ⟨v, H1, h1, by simpa only [List.cons_append, evIxF, hj] using h2⟩
    | some p =>
      have hjlt : j < i := hji i (List.mem_append_right _ (List.mem_cons_self ..))
      have hs := hR.swap i o j p hi hj hjlt (hdep j (List.mem_cons_self ..))
      have okj : opOk p = true := (List.all_eq_true.1 hok) _ (List.mem_of_getElem? (by simpa using hj))
      have oki : opOk o = true := (List.all_eq_true.1 hok) _ (List.mem_of_getElem? (by simpa using hi))
      have hall := h
      simp only [List.cons_append, evIxF, hj] at h
      obtain ⟨vp, Hp, hp, h⟩ := h
      unfold swapF at hs
      simp only [Bool.and_eq_true, Bool.or_eq_true] at hs
      obtain ⟨hap, hcl⟩ := hs
      obtain ⟨a1, a2, a3⟩ := Oper.apart_spec hap
      have hev : ∀ x ∈ touchO o, evalT (putT tm p.dst vp) x = evalT tm x := fun x hx => evalT_put fun d hd he => a1 d hd (by
        subst he
        exact List.mem_append_left _ (List.mem_filterMap.2 ⟨.tmp d, touch_mk hx, rfl⟩))
      have hpn : ∀ k ∈ pre ++ [i], ∀ r, ops[k]? = some r → isMk r = true → Hp[placeOf ops base k]? = some none := by
        intro k hk r hr hm
        have hkn := hnn k (List.mem_cons_of_mem _ hk) r hr hm
        obtain ⟨rd, us, E⟩ := eff_of okj (hR.kind j p hj) hp
        rw [E.to, app_get us H _ ?_]
        · exact hkn
        · intro u hu e
          rcases E.at_ u.1 (E.sub u hu) with ⟨e1, m1, _⟩ | ⟨_, B, hB⟩
          · have hjk : j < k := hji k (by
              rcases List.mem_append.1 hk with hk | hk
              · exact List.mem_append_left _ hk
              · simp only [List.mem_singleton] at hk; subst hk; exact List.mem_append_right _ (List.mem_cons_self ..))
            have := place_lt (base := base) hj m1 k hjk
            omega
          · rw [e, hkn] at hB; cases hB
      obtain ⟨v, H1, h1, h2⟩ := to_frontF hok hR hi pre post _ _ tm' H' hpw' (fun k hk => hdep k (List.mem_cons_of_mem _ hk)) (fun k hk r hr hal x hx b hb => by
        rw [hev x hx] at hb
        exact hwf k (List.mem_cons_of_mem _ hk) r hr hal x hx b hb) hpn (fun k hk => hdy k (List.mem_cons_of_mem _ hk)) h
      have hpl : isMk p = true → placeOf ops base j < placeOf ops base i := fun ha => place_lt hj ha i hjlt
      have hdyn : opClass q p ≠ 0 → opClass q o ≠ 0 → ¬ (opClass q p = 1 ∧ opClass q o = 1) → ∀ x ∈ touchO p, ∀ y ∈ touchO o, ∀ b c, blkOf (evalT tm x) = some b → blkOf (evalT tm y) = some c → b ≠ c := by
        intro n0 n1 n2 x hx y hy b c hb hc
        have ex : (touchO p).isEmpty = false := by cases e : touchO p with | nil => rw [e] at hx; cases hx | cons _ _ => rfl
        have ey : (touchO o).isEmpty = false := by cases e : touchO o with | nil => rw [e] at hy; cases hy | cons _ _ => rfl
        rcases hcl with hc2 | ⟨⟨hdd, hsj⟩, hsi⟩
        · unfold classF at hc2
          rw [ex, ey] at hc2
          simp only [Bool.or_false, Bool.or_eq_true, Bool.and_eq_true, beq_iff_eq] at hc2
          rcases hc2 with (h9 | h9) | h9
          · exact absurd h9 n0
          · exact absurd h9 n1
          · exact absurd h9 n2
        · have e3 := differ_spec (hdy j (List.mem_cons_self ..) p hj hdd)
          have f1 : evalT tm' x = evalT tm x := by
            rcases dynSt_spec hsj hx with ⟨v, rfl⟩ | ⟨dd, rfl, n1⟩
            · rfl
            · refine final_val _ tm H tm' H' ?_ hall
              intro k hk r hr e he
              refine noAssign_spec n1 ?_ hr e he
              rcases List.mem_cons.1 hk with rfl | hk
              · exact Nat.le_refl _
              · exact Nat.le_of_lt (hji k hk)
          have f2 : evalT tm' y = evalT tm y := by
            rcases dynSt_spec hsi hy with ⟨v, rfl⟩ | ⟨ee, rfl, n2⟩
            · rfl
            · refine final_val _ tm H tm' H' ?_ hall
              intro k hk r hr e he
              rcases List.mem_append.1 hk with hk | hk
              · -- before it: apart
                have hkd := hdep k hk
                have hki : k < i := by
                  rw [List.pairwise_append] at hpw
                  exact hpw.2.2 k hk i (List.mem_cons_self ..)
                have hsk := hR.swap i o k r hi hr hki hkd
                unfold swapF at hsk
                simp only [Bool.and_eq_true] at hsk
                obtain ⟨b1, _, _⟩ := Oper.apart_spec hsk.1
                intro hde
                exact b1 e he (List.mem_append_left _ (List.mem_filterMap.2 ⟨.tmp ee, touch_mk hy, by injection hde with hde; rw [hde]⟩))
              · refine noAssign_spec n2 ?_ hr e he
                rcases List.mem_cons.1 hk with rfl | hk
                · exact Nat.le_refl _
                · rw [List.pairwise_append] at hpw
                  exact Nat.le_of_lt ((List.pairwise_cons.1 hpw.2.1).1 k hk)
          exact e3 x hx y hy b c (by rw [f1]; exact hb) (by rw [f2]; exact hc)
      obtain ⟨Hm, g1, g2, g3⟩ := swapF_ok okj oki hap (hR.kind j p hj) (hR.kind i o hi) (fun ha _ => Nat.ne_of_lt (hpl ha)) (fun hal x hx b hb => hwf j (List.mem_cons_self ..) p hj hal x hx b hb) (fun hm => hnn i (List.mem_cons_of_mem _ (List.mem_append_right _ (List.mem_singleton.2 rfl))) o hi hm) hdyn hp h1
      refine ⟨v, Hm, g1, ?_⟩
      simp only [List.cons_append, evIxF, hj]
      refine ⟨vp, H1, g2, ?_⟩
      rw [← g3]
      exact h2

end
end Go.Proofs.YtameamgamdaibaaDoor

/-!  Regions in which several blocks are made: their runs, in any order, come to what the text's order comes to. -/
namespace Go.Proofs.YtameamgamdaibaaDoor
open Go
set_option linter.unusedVariables false
set_option linter.unusedSimpArgs false

section
variable {P : Program}

/-- What stands to a real value both here and there stands to it elsewhere too, where the blocks that it points to are the same. -/
theorem VR.both {m m1 m2 : Mp} (ha : ∀ (b : Nat) (l : Loc), m[b]? = some l → l.live = true → m2[b]? = m1[b]?) {x y0 : Value} (h : VR m x y0) : ∀ {y : Value}, VR m1 x y → VR m2 x y := by
  have htr : ∀ {a a0 a' : Addr}, tr m a = some a0 → tr m1 a = some a' → tr m2 a = some a' ∧ m2[a.block]? = m1[a.block]? := by
    intro a a0 a' h0 h1
    obtain ⟨l, hl, hv⟩ := tr_live h0
    have e := ha _ _ hl hv
    refine ⟨?_, e⟩
    unfold tr at h1 ⊢
    rw [e]
    exact h1
  induction h with
  | bool b => intro y h; cases h; exact .bool b
  | int k n => intro y h; cases h; exact .int k n
  | float k _ => intro y h; cases h with | float _ h => exact .float k h
  | string s => intro y h; cases h; exact .string s
  | nilptr => intro y h; cases h; exact .nilptr
  | ptr h0 => intro y h; cases h with | ptr h1 => exact .ptr (htr h0 h1).1
  | nilslice => intro y h; cases h; exact .nilslice
  | loose a c => intro y h; cases h with | loose a' c' => exact .loose a' c'
  | slice h0 _ _ =>
    intro y h
    cases h with
    | slice h1 hn hr =>
      obtain ⟨g1, g2⟩ := htr h0 h1
      exact .slice g1 hn fun l hl => hr l (by rw [← g2]; exact hl)
  | nilfunc => intro y h; cases h; exact .nilfunc
  | niliface => intro y h; cases h; exact .niliface
  | func fn h1 _ h3 _ ih2 ih4 =>
    intro y h
    cases h with
    | func _ g1 g2 g3 g4 => exact .func fn g1 (fun i a b => ih2 i a (h1 ▸ a) (g2 i a b)) g3 (fun i a b => ih4 i a (h3 ▸ a) (g4 i a b))
  | iface t _ ih => intro y h; cases h with | iface _ h => exact .iface t (ih h)
  | agg h1 _ ih => intro y h; cases h with | agg g1 g2 => exact .agg g1 fun i a b => ih i a (h1 ▸ a) (g2 i a b)
  | tuple h1 _ ih => intro y h; cases h with | tuple g1 g2 => exact .tuple g1 fun i a b => ih i a (h1 ▸ a) (g2 i a b)
  | any v => intro y h; exact .any y

/-- A block that was made last, told by a place that was kept. -/
theorem HR.refill {H Hk : AHeap} {X : ABlk} {m m' : Mp} {w w' : World} {k base : Nat} (hr : HR H m w) (h0 : HR (Hk.push (some X)) m' w') (st : Step H m w (Hk.push (some X)) m' w') (hs : Hk.size = H.size)
    (hsub : ∀ (b : Nat) (B : ABlk), Hk[b]? = some (some B) → H[b]? = some (some B)) (hkn : Hk[k]? = some none) {l0 : Loc} (hk0 : m[k]? = some l0) (hd : l0.live = false) (hb : base ≤ k) (hc : ∀ c ∈ X.cells.toList, ∃ y, VR m c y) :
    ∃ l, m'[H.size]? = some l ∧ HR (Hk.setIfInBounds k (some X)) (m.setIfInBounds k l) w' ∧ StepW base H m w (Hk.setIfInBounds k (some X)) (m.setIfInBounds k l) w' := by
  have hsz : m'.size = H.size + 1 := by rw [h0.size, Array.size_push, hs]
  have hkH : k < Hk.size := lt_of_get hkn
  have hkm : k < m.size := lt_of_get hk0
  obtain ⟨l, hl⟩ : ∃ l, m'[H.size]? = some l := ⟨m'[H.size]'(by omega), Array.getElem?_eq_getElem _⟩
  have hold : ∀ b, b < H.size → m'[b]? = m[b]? := by
    intro b hb
    have hbm : b < m.size := by rw [hr.size]; exact hb
    rw [Array.getElem?_eq_getElem hbm]
    exact st.ext b _ (Array.getElem?_eq_getElem hbm)
  have hag : ∀ (b : Nat) (l1 : Loc), m[b]? = some l1 → l1.live = true → (m.setIfInBounds k l)[b]? = m'[b]? := by
    intro b l1 h1 hv
    have hne : k ≠ b := by
      intro e
      rw [← e, hk0] at h1
      injection h1 with h1
      rw [h1, hv] at hd
      cases hd
    rw [Array.getElem?_setIfInBounds_ne hne, h1]
    exact (st.ext b l1 h1).symm
  have hnew : (Hk.push (some X))[H.size]? = some (some X) := by rw [← hs]; exact push_new Hk (some X)
  have hHk : ∀ (b : Nat) (B : ABlk), Hk[b]? = some (some B) → (Hk.push (some X))[b]? = some (some B) := fun b B h => push_get h
  have gH : ∀ (b : Nat) (B : ABlk), (Hk.setIfInBounds k (some X))[b]? = some (some B) → (b = k ∧ B = X) ∨ (b ≠ k ∧ Hk[b]? = some (some B)) := by
    intro b B h
    by_cases e : k = b
    · subst e
      rw [Array.getElem?_setIfInBounds_self_of_lt hkH] at h
      injection h with h; injection h with h
      exact .inl ⟨rfl, h.symm⟩
    · rw [Array.getElem?_setIfInBounds_ne e] at h
      exact .inr ⟨fun h => e h.symm, h⟩
  have gm : ∀ (b : Nat) (l1 : Loc), (m.setIfInBounds k l)[b]? = some l1 → (b = k ∧ l1 = l) ∨ (b ≠ k ∧ m[b]? = some l1) := by
    intro b l1 h
    by_cases e : k = b
    · subst e
      rw [Array.getElem?_setIfInBounds_self_of_lt hkm] at h
      injection h with h
      exact .inl ⟨rfl, h.symm⟩
    · rw [Array.getElem?_setIfInBounds_ne e] at h
      exact .inr ⟨fun h => e h.symm, h⟩
  -- where a block of here lies there
  have loc : ∀ (b : Nat) (B : ABlk) (l1 : Loc), (Hk.setIfInBounds k (some X))[b]? = some (some B) → (m.setIfInBounds k l)[b]? = some l1 →
      ∃ b0, (Hk.push (some X))[b0]? = some (some B) ∧ m'[b0]? = some l1 ∧ ((b = k ∧ b0 = H.size) ∨ (b ≠ k ∧ b0 = b)) := by
    intro b B l1 hB hl1
    rcases gH b B hB with ⟨rfl, rfl⟩ | ⟨n1, h1⟩
    · rcases gm b l1 hl1 with ⟨_, rfl⟩ | ⟨n2, _⟩
      · exact ⟨H.size, hnew, hl, .inl ⟨rfl, rfl⟩⟩
      · exact absurd rfl n2
    · rcases gm b l1 hl1 with ⟨e, _⟩ | ⟨_, h2⟩
      · exact absurd e n1
      · exact ⟨b, hHk b B h1, st.ext b l1 h2, .inr ⟨n1, rfl⟩⟩
  suffices h2 : HR0 (Hk.setIfInBounds k (some X)) (m.setIfInBounds k l) w' ∧ StepW base H m w (Hk.setIfInBounds k (some X)) (m.setIfInBounds k l) w' from ⟨l, hl, hr.step h2.1 h2.2.size h2.2.keep h2.2.fp, h2.2⟩
  refine ⟨⟨by simp [hr.size, hs], ?_, ?_, ?_⟩, ⟨?_, st.os, st.tape, st.output, st.size, st.keep, ?_⟩⟩
  · intro b l1 h1 hv
    rcases gm b l1 h1 with ⟨_, rfl⟩ | ⟨_, h2⟩
    · exact h0.old _ _ hl hv
    · exact h0.old _ _ (st.ext b l1 h2) hv
  · intro b B hB
    rcases gH b B hB with ⟨rfl, rfl⟩ | ⟨n1, h1⟩
    · obtain ⟨l1, cs, fr, hl1, r⟩ := h0.blk _ _ hnew
      rw [hl] at hl1
      injection hl1 with hl1
      subst hl1
      refine ⟨l, cs, fr, Array.getElem?_setIfInBounds_self_of_lt hkm, ⟨r.real, r.size, r.own, r.mine, r.fits, fun i v hv => ?_, r.live⟩⟩
      obtain ⟨v', g1, g2⟩ := r.vals i v hv
      obtain ⟨y0, hy0⟩ := hc v (List.mem_of_getElem? (i := i) (by simpa using hv))
      exact ⟨v', g1, hy0.both hag g2⟩
    · obtain ⟨l1, cs, fr, hl1, r⟩ := h0.blk _ _ (hHk b B h1)
      obtain ⟨l2, cs2, fr2, hl2, r2⟩ := hr.blk b B (hsub b B h1)
      have e1 : m'[b]? = some l2 := st.ext b l2 hl2
      rw [hl1] at e1
      injection e1 with e1
      subst e1
      refine ⟨l1, cs, fr, (by rw [Array.getElem?_setIfInBounds_ne (fun e => n1 e.symm)]; exact hl2), ⟨r.real, r.size, r.own, r.mine, r.fits, fun i v hv => ?_, r.live⟩⟩
      obtain ⟨v', g1, g2⟩ := r.vals i v hv
      obtain ⟨y0, _, hy0⟩ := r2.vals i v hv
      exact ⟨v', g1, hy0.both hag g2⟩
  · intro b b' B B' l1 l1' hB hB' hl1 hl1' ho he
    obtain ⟨c, c1, c2, c3⟩ := loc b B l1 hB hl1
    obtain ⟨c', d1, d2, d3⟩ := loc b' B' l1' hB' hl1'
    have := h0.inj c c' B B' l1 l1' c1 d1 c2 d2 ho he
    have hlt : ∀ (b : Nat) (B : ABlk), b ≠ k → (Hk.setIfInBounds k (some X))[b]? = some (some B) → b < H.size := fun b B n h => by
      rcases gH b B h with ⟨e, _⟩ | ⟨_, h⟩
      · exact absurd e n
      · rw [← hs]; exact lt_of_get h
    rcases c3 with ⟨e1, e2⟩ | ⟨e1, e2⟩ <;> rcases d3 with ⟨e3, e4⟩ | ⟨e3, e4⟩
    · rw [e1, e3]
    · have := hlt b' B' e3 hB'; omega
    · have := hlt b B e1 hB; omega
    · omega
  · intro b l1 h1 hor
    have hne : k ≠ b := by
      rcases hor with hv | hv
      · intro e
        rw [← e, hk0] at h1
        injection h1 with h1
        rw [h1, hv] at hd
        cases hd
      · omega
    rw [Array.getElem?_setIfInBounds_ne hne]
    exact h1
  · rintro g ⟨b, B, l1, hB, ho, hl1, rfl⟩
    obtain ⟨c, c1, c2, _⟩ := loc b B l1 hB hl1
    exact st.fp _ ⟨c, B, l1, c1, ho, c2, rfl⟩

theorem outF_sound {O : Orc} (hO : BaseOK P O) {q : FuncId → Nat} {ops : Array Oper} {k base : Nat} {o : Oper} (hok : opOk o = true) (hk : Kind q o) {tm : List Value} {a : Act} {H H' : AHeap} {m : Mp} {w : World} (hr : HR H m w) (ht : VRl m tm a.tmps.toList)
    (hb : base ≤ k) (hd : isMk o = true → ∃ l, m[k]? = some l ∧ l.live = false)
    {v : Value} (h : outF P (Runs P) O q ops k o tm H v H') {K : Act → World → Prop} {Q : Exit → Act → World → Prop}
    (hK : ∀ a' m' w', VRl m' (putT tm o.dst v) a'.tmps.toList → a'.defers = a.defers → HR H' m' w' → StepW base H m w H' m' w' → (∀ j l, j ≠ k ∨ isMk o = false → m[j]? = some l → l.live = false → m'[j]? = some l) → K a' w') :
    if Region.wanted o (yielded ops a.tmps) then o.wp P a w K Q else K (a.put o.dst undef) w := by
  cases hal : isMk o with
  | false =>
    rw [outF_ne hal] at h
    exact outR_sound hO hok hr ht h fun a' m' w' g1 g2 g3 g4 => hK a' m' w' g1 g2 g3 (g4.toW base) fun j l _ hj _ => g4.ext j l hj
  | true =>
    unfold outF at h
    split at h
    · rename_i hw
      rw [← wantedL_eq ht ops o (.inl hw), if_pos hw]
      obtain ⟨v0, H0, hx, hp⟩ := h
      obtain ⟨l0, hl0, hdead⟩ := hd hal
      obtain ⟨T, hT, hE⟩ := mk_eff hal hok ((exR_mk hal).1 hx)
      refine exR_sound hO hok hr ht hx K Q fun v' m' w' hv hh hs => ?_
      rcases hE with ⟨rfl, _⟩ | ⟨kl, X, va, hva, rfl, rfl, hkl, _, hcells⟩
      · obtain ⟨rfl, rfl⟩ := place_same.1 hp
        exact hK _ m' w' (putT_rel (ht.mono hs.ext) hv o.dst) (put_defers _ _ _) hh (hs.toW base) fun j l _ hj _ => hs.ext j l hj
      · obtain ⟨p1, p2, rfl⟩ := (place_push (killO_size kl H)).1 hp
        rw [hva.at_] at p2
        injection p2 with p2
        subst p2
        have hkk : ∀ b, kl = some b → b ≠ k := fun b hb e => by
          obtain ⟨B, hB⟩ := (hT b (hkl b hb)).2
          rw [e, p1] at hB
          cases hB
        have hkn : (killO kl H)[k]? = some none := by
          cases kl with
          | none => exact p1
          | some b => show (H.setIfInBounds b none)[k]? = _; rw [set_get_ne (hkk b rfl)]; exact p1
        have hsub : ∀ (b : Nat) (B : ABlk), (killO kl H)[b]? = some (some B) → H[b]? = some (some B) := by
          intro b B h
          cases kl with
          | none => exact h
          | some c =>
            by_cases e : c = b
            · subst e
              have hlt := lt_of_get h
              simp only [killO, Array.size_setIfInBounds] at hlt
              simp only [killO] at h
              rw [Array.getElem?_setIfInBounds_self_of_lt hlt] at h
              injection h with h
              cases h
            · simp only [killO] at h
              rw [set_get_ne e] at h
              exact h
        obtain ⟨l, hl, g1, g2⟩ := hr.refill (base := base) hh hs (killO_size kl H) hsub hkn hl0 hdead hb (hcells a m w hr ht)
        refine hK _ _ _ (putT_rel (ht.monoL g2.toL) ?_ o.dst) (put_defers _ _ _) g1 g2 ?_
        · refine hva.rel m' _ H.size k v' ?_ hv
          rw [Array.getElem?_setIfInBounds_self_of_lt (lt_of_get hl0), hl]
        · intro j l1 hj hjl _
          rcases hj with hj | hj
          · rw [Array.getElem?_setIfInBounds_ne (fun h => hj h.symm)]; exact hjl
          · rw [hal] at hj; cases hj
    · rename_i hw
      obtain ⟨rfl, rfl, hg⟩ := h
      rw [← wantedL_eq ht ops o (.inr hg), if_neg hw]
      exact hK _ m w (putT_rel ht (.undef m) o.dst) (put_defers _ _ _) hr ((Step.refl _ _ _).toW base) fun j l _ hj _ => hj

theorem any_orderF {O : Orc} (hO : BaseOK P O) {q : FuncId → Nat} {ops : Array Oper} {base : Nat} (hok : ops.toList.all opOk = true) (hR : RegF q ops (depsL ops.toList [])) {Q : Exit → Act → World → Prop} :
    ∀ (fuel : Nat) (listed : Array Bool) (rem : List Nat) (tm : List Value) (H : AHeap) (a : Act) (m : Mp) (w : World) {tm' : List Value} {H' : AHeap}, listed.size = ops.size → Left ops.size listed rem → rem.length = fuel →
    (∀ k j, k < ops.size → listed.getD k true = true → j < ops.size → ((depsL ops.toList []).getD k 0).testBit j = true → listed.getD j true = true) → HR H m w → VRl m tm a.tmps.toList → evIxF P (Runs P) O q ops base rem tm H tm' H' →
    dynOk q ops tm' = true → (∀ i ∈ rem, ∀ o, ops[i]? = some o → isMk o = true → ∃ l, m[placeOf ops base i]? = some l ∧ l.live = false) →
    (∀ a' m' w', VRl m' tm' a'.tmps.toList → a'.defers = a.defers → HR H' m' w' → StepW base H m w H' m' w' → Q .normal a' w') → wpAny P .any ops Q fuel listed a w := by
  intro fuel
  induction fuel with
  | zero =>
    intro listed rem tm H a m w tm' H' hsz hl hlen hcl hr ht h hdy hdead hQ
    have : rem = [] := List.eq_nil_of_length_eq_zero hlen
    subst this
    obtain ⟨rfl, rfl⟩ := h
    refine ⟨?_, hQ a m w ht rfl hr ((Step.refl _ _ _).toW base)⟩
    unfold Region.ready
    rw [List.filter_eq_nil_iff]
    intro i hi
    have hni : ¬ (i < ops.size ∧ listed.getD i true = false) := fun hx => by have := (hl.2 i).2 hx; simp at this
    have hi' : i < ops.size := List.mem_range.1 hi
    have : listed.getD i true = true := by
      cases hb : listed.getD i true with
      | true => rfl
      | false => exact absurd ⟨hi', hb⟩ hni
    simp only [this]
    simp
  | succ fuel ih =>
    intro listed rem tm H a m w tm' H' hsz hl hlen hcl hr ht h hdy hdead hQ
    refine ⟨fun hnil => ?_, fun i hi => ?_⟩
    · -- the first that is left is ready
      exfalso
      cases hrem : rem with
      | nil => rw [hrem] at hlen; cases hlen
      | cons i rest =>
        rw [hrem] at hl
        obtain ⟨hi, hli⟩ := (hl.2 i).1 (List.mem_cons_self ..)
        have hmem : i ∈ Region.ready .any ops listed := by
          unfold Region.ready
          rw [List.mem_filter]
          refine ⟨List.mem_range.2 hi, ?_⟩
          rw [hli, Array.getElem?_eq_getElem hi]
          simp only [Bool.not_false, Bool.true_and, Option.map_some, Option.getD_some]
          rw [← Array.all_toList, List.all_eq_true]
          intro e he
          cases hb : Region.binds .any e with
          | false => rfl
          | true =>
            have hlt := hR.back i _ (Array.getElem?_eq_getElem hi) e he hb
            have hne : e.on ∉ i :: rest := by
              intro hmem
              rcases List.mem_cons.1 hmem with h1 | h1
              · omega
              · have := (List.pairwise_cons.1 hl.1).1 _ h1; omega
            have hnot : ¬ (e.on < ops.size ∧ listed.getD e.on true = false) := fun hx => hne ((hl.2 e.on).2 hx)
            have hlis : listed.getD e.on true = true := by
              cases hc : listed.getD e.on true with
              | true => rfl
              | false => exact absurd ⟨by omega, hc⟩ hnot
            have hlt2 : e.on < listed.size := by omega
            rw [Array.getD_eq_getD_getElem?, Array.getElem?_eq_getElem hlt2] at hlis ⊢
            simpa using hlis
        rw [hnil] at hmem
        cases hmem
    · unfold Region.ready at hi
      rw [List.mem_filter] at hi
      obtain ⟨hir, hi2⟩ := hi
      have hin : i < ops.size := List.mem_range.1 hir
      simp only [Bool.and_eq_true, Bool.not_eq_true'] at hi2
      obtain ⟨hli, hedges⟩ := hi2
      have hoi : ops[i]? = some ops[i] := Array.getElem?_eq_getElem hin
      rw [hoi] at hedges
      simp only [Option.map_some, Option.getD_some] at hedges
      rw [← Array.all_toList, List.all_eq_true] at hedges
      have hmem : i ∈ rem := (hl.2 i).2 ⟨hin, hli⟩
      obtain ⟨pre, post, rfl⟩ := List.append_of_mem hmem
      have hpw := hl.1
      -- all that it hangs on is listed
      have hdeps : ∀ j, j < ops.size → ((depsL ops.toList []).getD i 0).testBit j = true → listed.getD j true = true := by
        intro j hj ht'
        obtain ⟨e, he, hb, hor⟩ := hR.dep i _ j hoi hj ht'
        have hlt := hR.back i _ hoi e he hb
        have h1 := hedges e he
        rw [hb] at h1
        simp only [Bool.not_true, Bool.false_or] at h1
        have hlt2 : e.on < listed.size := by omega
        have h2 : listed.getD e.on true = true := by
          rw [Array.getD_eq_getD_getElem?, Array.getElem?_eq_getElem hlt2] at h1 ⊢
          simpa using h1
        rcases hor with rfl | hor
        · exact h2
        · exact hcl e.on j (by omega) h2 hj hor
      have hpre : ∀ j ∈ pre, ((depsL ops.toList []).getD i 0).testBit j = false := by
        intro j hj
        have hjl := ((hl.2 j).1 (List.mem_append_left _ hj))
        cases hc : ((depsL ops.toList []).getD i 0).testBit j with
        | false => rfl
        | true => rw [hdeps j hjl.1 hc] at hjl; cases hjl.2
      have hlt : ∀ j ∈ pre, j < i := by
        intro j hj
        rw [List.pairwise_append] at hpw
        exact hpw.2.2 j hj i (List.mem_cons_self ..)
      have hopok : opOk ops[i] = true := (List.all_eq_true.1 hok) _ (by simp)
      have hnone : ∀ j ∈ pre ++ [i], ∀ p, ops[j]? = some p → isMk p = true → H[placeOf ops base j]? = some none := by
        intro j hj p hp hal
        have hj' : j ∈ pre ++ i :: post := by
          rcases List.mem_append.1 hj with h9 | h9
          · exact List.mem_append_left _ h9
          · simp only [List.mem_singleton] at h9; subst h9; exact List.mem_append_right _ (List.mem_cons_self ..)
        obtain ⟨l, hl1, hl2⟩ := hdead j hj' p hp hal
        have hlt : placeOf ops base j < H.size := by rw [← hr.size]; exact lt_of_get hl1
        rw [Array.getElem?_eq_getElem hlt]
        cases hB : H[placeOf ops base j] with
        | none => rfl
        | some B =>
          obtain ⟨l2, cs, fr, g1, g2⟩ := hr.blk (placeOf ops base j) B (by rw [Array.getElem?_eq_getElem hlt, hB])
          rw [hl1] at g1
          injection g1 with g1
          subst g1
          rw [g2.live] at hl2
          cases hl2
      obtain ⟨v, H1, h1, h2⟩ := to_frontF hok hR hoi pre post tm H _ _ hpw hpre (fun j hj p hp hal x hx b hb => by
        have hxr := evalT_rel ht ((List.all_eq_true.1 hopok) x (touch_mk hx))
        have hlive : ∃ l, m[b]? = some l ∧ l.live = true := by
          generalize evalT tm x = u at hxr hb
          generalize a.eval x = y at hxr
          cases hxr with
          | ptr htr => simp only [blkOf, Option.some.injEq] at hb; subst hb; exact tr_live htr
          | slice htr _ _ => simp only [blkOf, Option.some.injEq] at hb; subst hb; exact tr_live htr
          | _ => simp only [blkOf] at hb; cases hb
        intro hbe
        obtain ⟨l, hl1, hl2⟩ := hlive
        obtain ⟨l', hl3, hl4⟩ := hdead j (List.mem_append_left _ hj) p hp hal
        rw [hbe, hl3] at hl1
        injection hl1 with hl1
        subst hl1
        rw [hl4] at hl2
        cases hl2) hnone (fun j hj p hp hdd => dyn_of hdy hoi hp (hlt j hj) hdd (hpre j hj)) h
      unfold wpOp
      rw [hoi]
      simp only
      have hplb : base ≤ placeOf ops base i := by unfold placeOf; omega
      have key := outF_sound (base := base) hO hopok (hR.kind i _ hoi) hr ht hplb (fun hal => hdead i hmem _ hoi hal) h1 (K := wpAny P .any ops Q fuel (listed.setIfInBounds i true)) (Q := Q) (fun a' m' w' g1 g2 g3 g4 g5 => by
        refine ih (listed.setIfInBounds i true) (pre ++ post) _ _ a' m' w' (by simpa using hsz) ?_ ?_ ?_ g3 g1 h2 hdy ?_ (fun a2 m2 w2 e1 e2 e3 e4 => hQ a2 m2 w2 e1 (e2.trans g2) e3 (g4.trans e4))
        · refine ⟨?_, fun k => ?_⟩
          · rw [List.pairwise_append] at hpw ⊢
            exact ⟨hpw.1, (List.pairwise_cons.1 hpw.2.1).2, fun x hx y hy => hpw.2.2 x hx y (List.mem_cons_of_mem _ hy)⟩
          · have hk := hl.2 k
            have hgd : (listed.setIfInBounds i true).getD k true = if i = k then true else listed.getD k true := by
              rw [Array.getD_eq_getD_getElem?, Array.getD_eq_getD_getElem?]
              by_cases e : i = k
              · subst e; rw [Array.getElem?_setIfInBounds_self_of_lt (by omega)]; simp
              · rw [Array.getElem?_setIfInBounds_ne e, if_neg e]
            rw [hgd]
            have hnotin : i ∉ pre ∧ i ∉ post := by
              rw [List.pairwise_append] at hpw
              refine ⟨fun hx => ?_, fun hx => ?_⟩
              · have := hpw.2.2 i hx i (List.mem_cons_self ..); omega
              · have := (List.pairwise_cons.1 hpw.2.1).1 i hx; omega
            by_cases e : i = k
            · subst e
              simp [hnotin.1, hnotin.2]
            · rw [if_neg e, ← hk]
              simp only [List.mem_append, List.mem_cons]
              constructor
              · rintro (h3 | h3)
                · exact .inl h3
                · exact .inr (.inr h3)
              · rintro (h3 | h3 | h3)
                · exact .inl h3
                · exact absurd h3.symm e
                · exact .inr h3
        · simp only [List.length_append, List.length_cons] at hlen ⊢; omega
        · intro k j hk hlk hj ht'
          have hgd : ∀ k, (listed.setIfInBounds i true).getD k true = if i = k then true else listed.getD k true := by
            intro k
            rw [Array.getD_eq_getD_getElem?, Array.getD_eq_getD_getElem?]
            by_cases e : i = k
            · subst e; rw [Array.getElem?_setIfInBounds_self_of_lt (by omega)]; simp
            · rw [Array.getElem?_setIfInBounds_ne e, if_neg e]
          rw [hgd] at hlk ⊢
          by_cases e : i = j
          · rw [if_pos e]
          · rw [if_neg e]
            by_cases e2 : i = k
            · subst e2; exact hdeps j hj ht'
            · rw [if_neg e2] at hlk
              exact hcl k j hk hlk hj ht'
        · intro j hj p hp hal
          have hj' : j ∈ pre ++ i :: post := by
            rcases List.mem_append.1 hj with h9 | h9
            · exact List.mem_append_left _ h9
            · exact List.mem_append_right _ (List.mem_cons_of_mem _ h9)
          obtain ⟨l, q1, q2⟩ := hdead j hj' p hp hal
          refine ⟨l, g5 _ _ ?_ q1 q2, q2⟩
          cases hia : isMk ops[i] with
          | false => exact .inr rfl
          | true =>
            left
            intro hpe
            have hji : j ≠ i := by
              rintro rfl
              rw [List.pairwise_append] at hpw
              rcases List.mem_append.1 hj with h9 | h9
              · have := hpw.2.2 j h9 j (List.mem_cons_self ..); omega
              · have := (List.pairwise_cons.1 hpw.2.1).1 j h9; omega
            rcases Nat.lt_or_ge j i with h9 | h9
            · have := place_lt (base := base) hp hal i h9
              omega
            · have := place_lt (base := base) hoi hia j (by omega)
              omega)
      by_cases hw : Region.wanted ops[i] (yielded ops a.tmps) = true
      · rw [if_pos hw] at key ⊢; exact .inl key
      · rw [if_neg hw] at key ⊢; exact key

/-- Such a region, from a memory with places that are kept. -/
theorem wpAny_runF {O : Orc} (hO : BaseOK P O) (hm : P.follows .mixedOrders = true) {q : FuncId → Nat} {id : Nat} {ops : Array Oper} (hok : ops.toList.all opOk = true) (hR : regionF q ops = true) (hs : special q ops = true) {Q : Exit → Act → World → Prop}
    {tm tm' : List Value} {H H' : AHeap} {a : Act} {m : Mp} {w : World} (hr : HR H m w) (ht : VRl m tm a.tmps.toList) (h : evOpsFR P (Runs P) O q ops ops.toList H.size tm (kept H ops) tm' H') (hdy : dynOk q ops tm' = true)
    (hQ : ∀ a' m' w', VRl m' tm' a'.tmps.toList → a'.defers = a.defers → HR H' m' w' → Step H m w H' m' w' → Q .normal a' w') : (Code.region id ops true).wp P Q a w := by
  have key : ∀ w0 : World, HR H m w0 → Step H m w H m w0 → wpAny P .any ops Q ops.size (Array.replicate ops.size false) a w0 := by
   intro w0 hr0 hs0
   have hres := hr0.reserve (countB isMk ops.toList)
   refine any_orderF (base := H.size) (H' := H') (tm' := tm') hO hok (regF_of hR hs) ops.size _ (List.range ops.size) tm (kept H ops) a (m ++ Array.replicate (countB isMk ops.toList) deadLoc) w0 (by simp) ⟨?_, ?_⟩ (by simp) ?_ hres.1 (ht.mono hres.2.ext) ?_ hdy ?_ ?_
   · rw [List.range_eq_range']; exact List.pairwise_lt_range'
   · intro i
     rw [List.mem_range]
     constructor
     · intro hi; exact ⟨hi, by rw [Array.getD_eq_getD_getElem?, Array.getElem?_replicate]; simp [hi]⟩
     · exact fun h => h.1
   · intro k j hk hlk
     rw [Array.getD_eq_getD_getElem?, Array.getElem?_replicate] at hlk
     simp [hk] at hlk
   · have e0 : placeOf ops H.size 0 = H.size := by unfold placeOf; simp [countB]
     have := evIxF_range (P := P) (C := Runs P) (O := O) (q := q) (ops := ops) (base := H.size) ops.toList 0 tm (kept H ops) tm' H' (by simp) (by rw [e0]; exact h)
     rw [List.range_eq_range']
     simpa using this
   · intro i _ o ho hal
     have hlt : placeOf ops H.size i < H.size + countB isMk ops.toList := by
       have h1 := place_lt (base := H.size) ho hal ops.size (lt_of_get ho)
       have h2 : placeOf ops H.size ops.size = H.size + countB isMk ops.toList := by
         unfold placeOf
         rw [List.take_of_length_le (by simp)]
       omega
     have hge : H.size ≤ placeOf ops H.size i := by unfold placeOf; omega
     refine ⟨deadLoc, ?_, rfl⟩
     rw [Array.getElem?_append_right (by rw [hr0.size]; exact hge), Array.getElem?_replicate, if_pos (by rw [hr0.size]; omega)]
   · intro a' m' w' h1 h2 h3 h4
     refine hQ a' m' w' h1 h2 h3 ?_
     have s2 := hres.2
     refine hs0.trans ⟨?_, h4.os, h4.tape, h4.output, h4.size, ?_, ?_⟩
     · intro b l hb
       exact h4.ext b l (s2.ext b l hb) (.inr (by rw [← hr0.size]; exact lt_of_get hb))
     · intro g hg hn
       refine h4.keep g hg ?_
       intro hf
       rcases s2.fp g hf with h9 | h9
       · exact hn h9
       · omega
     · intro g hg
       rcases h4.fp g hg with h9 | h9
       · exact s2.fp g h9
       · exact .inr h9

  exact wp_region_any hm (key _ (hr.drawn _) (Step.drawn H m w _))

end
end Go.Proofs.YtameamgamdaibaaDoor
