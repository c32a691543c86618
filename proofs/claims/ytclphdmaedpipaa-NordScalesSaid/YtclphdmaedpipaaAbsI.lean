/- Any operation, and a call, of the interpreter: sound. -/
import Derived.Test.YtclphdmaedpipaaAbsH
namespace Go.Proofs.Ytclphdmaedpipaa
open Go
set_option linter.unusedVariables false

section
variable {P : Program}

/-- What an operation's outcome here means for the model's run of it. -/
def OpOK (P : Program) (o : Oper) (a : Act) (H : AHeap) (m : Mp) (w : World) (v : Value) (H' : AHeap) : Prop :=
  ∀ (K : Act → World → Prop) (Q : Exit → Act → World → Prop),
    (∀ v' m' w', VR m' v v' → HR H' m' w' → Step H m w H' m' w' → K (a.put o.dst v') w') → o.upon P a K Q ((execOp a.eval o).run P w)

theorem OpOK.value {o : Oper} {a : Act} {H H' : AHeap} {m : Mp} {w : World} {v : Value} {s : Sem Value} (he : execOp a.eval o = (do pure (.value (← s)))) {v' : Value} {m' : Mp} {w' : World}
    (hr : s.run P w = .ok v' w') (hv : VR m' v v') (hh : HR H' m' w') (hs : Step H m w H' m' w') : OpOK P o a H m w v H' := by
  intro K Q hK
  rw [he]
  simp only [Sem.run_bind, hr, Result.andThen_ok, Sem.run_pure, Oper.upon_value]
  exact hK _ _ _ hv hh hs

theorem OpOK.pure {o : Oper} {a : Act} {H : AHeap} {m : Mp} {w : World} {v : Value} {s : Sem Value} (he : execOp a.eval o = (do pure (.value (← s)))) {v' : Value}
    (hr : s.run P w = .ok v' w) (hv : VR m v v') (hh : HR H m w) : OpOK P o a H m w v H := .value he hr hv hh (.refl _ _ _)

theorem mapP_rel {m : Mp} {tm : List Value} {a : Act} (h : VRl m tm a.tmps.toList) (ps : List (Nat × Operand)) (hp : ps.all (fun p => operandOk p.2) = true) :
    (ps.map fun p => (p.1, evalT tm p.2)).map (·.1) = (ps.map fun p => (p.1, a.eval p.2)).map (·.1) ∧ VRl m ((ps.map fun p => (p.1, evalT tm p.2)).map (·.2)) ((ps.map fun p => (p.1, a.eval p.2)).map (·.2)) := by
  induction ps with
  | nil => exact ⟨rfl, .nil⟩
  | cons p ps ih =>
    simp only [List.all_cons, Bool.and_eq_true] at hp
    obtain ⟨h1, h2⟩ := ih hp.2
    exact ⟨by simp, .cons (evalT_rel h hp.1) h2⟩

theorem mapA_rel {m : Mp} {tm : List Value} {a : Act} (h : VRl m tm a.tmps.toList) (xs : List Operand) (hp : xs.all operandOk = true) : VRl m (xs.map (evalT tm)) (xs.map a.eval) := by
  induction xs with
  | nil => exact .nil
  | cons p ps ih =>
    simp only [List.all_cons, Bool.and_eq_true] at hp
    exact .cons (evalT_rel h hp.1) (ih hp.2)

theorem opt_rel {m : Mp} {tm : List Value} {a : Act} (h : VRl m tm a.tmps.toList) (x : Option Operand) (hp : ∀ y, x = some y → operandOk y = true) : VRo m (x.map (evalT tm)) (x.map a.eval) := by
  cases x with
  | none => exact .inl ⟨rfl, rfl⟩
  | some y => exact .inr ⟨_, _, rfl, rfl, evalT_rel h (hp y rfl)⟩

theorem call_sound {O : Orc} (hO : OrcOK P O) {q : FuncId → Nat} {g : FuncId} {args args' : Array Value} {H H' : AHeap} {m : Mp} {w : World} (hr : HR H m w) (ha : VRs m args args') {v : Value}
    (h : callV O q g args H = some (v, H')) {o : Oper} {a : Act} (he : (execOp a.eval o).run P w = (callFunc g args').run P w) : OpOK P o a H m w v H' := by
  intro K Q hK
  rw [he]
  have enter : Runs P g args H v H' → o.upon P a K Q ((callFunc g args').run P w) := by
    intro hruns
    obtain ⟨h1, h2⟩ := hruns m w args' hr ha
    rw [h1 w, Oper.upon_enter]
    refine h2.mono ?_
    rintro e w' ⟨v', m', rfl, hv, hh, hs⟩
    exact hK _ _ _ hv hh hs
  unfold callV at h
  split at h
  · rename_i u hu
    injection h with h
    simp only [Prod.mk.injEq] at h
    obtain ⟨rfl, rfl⟩ := h
    obtain ⟨v', h1, h2⟩ := hO.row g args u hu m args' ha w
    rw [h1, Oper.upon_value]
    exact hK _ _ _ h2 hr (.refl _ _ _)
  · split at h
    · split at h
      · rename_i hcl
        split at h
        · rename_i v1 H2 hc
          split at h
          · rename_i hv
            injection h with h
            simp only [Prod.mk.injEq] at h
            obtain ⟨rfl, rfl⟩ := h
            exact enter ((hO.call _ _ _ _ _ hc).quiet hcl hv H)
          · cases h
        · cases h
      · cases h
    · split at h
      · rename_i v1 H1 hc
        split at h
        · rename_i hcond
          simp only [Bool.and_eq_true, decide_eq_true_eq] at hcond
          injection h with h
          simp only [Prod.mk.injEq] at h
          obtain ⟨rfl, rfl⟩ := h
          exact enter ((hO.call _ _ _ _ _ hc).makes hcond.1 hcond.2)
        · cases h
      · cases h
    · split at h
      · rename_i v1 H1 hc
        split at h
        · rename_i hv
          injection h with h
          simp only [Prod.mk.injEq] at h
          obtain ⟨rfl, rfl⟩ := h
          exact enter ((hO.call _ _ _ _ _ hc).reads hv)
        · cases h
      · cases h
    · exact enter (hO.call _ _ _ _ _ h)

theorem callR_runs {O : Orc} {q : FuncId → Nat} {g : FuncId} {args : Array Value} {H H' : AHeap} {v : Value} (hrow : O.row g args = none) (h : callR (Runs P) O q g args H v H') : Runs P g args H v H' := by
  unfold callR at h
  rw [hrow] at h
  simp only at h
  split at h
  · obtain ⟨h1, h2, rfl, H2, h3⟩ := h; exact h3.quiet h1 h2 _
  · obtain ⟨H1, h1, h2, h3, rfl⟩ := h; exact h1.makes h2 h3
  · obtain ⟨h1, rfl, H1, h2⟩ := h; exact h2.reads h1
  · exact h

theorem callR_sound {O : Orc} (hO : BaseOK P O) {q : FuncId → Nat} {g : FuncId} {args args' : Array Value} {H H' : AHeap} {m : Mp} {w : World} (hr : HR H m w) (ha : VRs m args args') {v : Value}
    (h : callR (Runs P) O q g args H v H') {o : Oper} {a : Act} (he : (execOp a.eval o).run P w = (callFunc g args').run P w) : OpOK P o a H m w v H' := by
  intro K Q hK
  rw [he]
  cases hrow : O.row g args with
  | some u =>
    unfold callR at h
    rw [hrow] at h
    obtain ⟨rfl, rfl⟩ := h
    obtain ⟨v', h1, h2⟩ := hO.row g args v hrow m args' ha w
    rw [h1, Oper.upon_value]
    exact hK _ _ _ h2 hr (.refl _ _ _)
  | none =>
    obtain ⟨h1, h2⟩ := callR_runs hrow h m w args' hr ha
    rw [h1 w, Oper.upon_enter]
    refine h2.mono ?_
    rintro e w' ⟨v', m', rfl, hv, hh, hs⟩
    exact hK _ _ _ hv hh hs

theorem toArray_map_eval (a : Act) (xs : Array Operand) : xs.map a.eval = (xs.toList.map a.eval).toArray := by
  apply Array.ext'; simp

theorem exec1_sound {O : Orc} (hO : OrcOK P O) {q : FuncId → Nat} {o : Oper} (hok : opOk o = true) {tm : List Value} {a : Act} {H H' : AHeap} {m : Mp} {w : World} (hr : HR H m w) (ht : VRl m tm a.tmps.toList) {v : Value}
    (h : exec1 P O q (evalT tm) H o = some (v, H')) : OpOK P o a H m w v H' := by
  have hops : ∀ x ∈ o.op.operands.toList, operandOk x = true := List.all_eq_true.1 hok
  have rel : ∀ x ∈ o.op.operands.toList, VR m (evalT tm x) (a.eval x) := fun x hx => evalT_rel ht (hops x hx)
  unfold exec1 at h
  split at h
  -- move
  · rename_i x hop
    injection h with h; simp only [Prod.mk.injEq] at h; obtain ⟨rfl, rfl⟩ := h
    refine .pure (s := pure (a.eval x)) (by simp [execOp, hop]) rfl (rel x (by simp [hop, Op.operands])) hr
  · rename_i x hop
    injection h with h; simp only [Prod.mk.injEq] at h; obtain ⟨rfl, rfl⟩ := h
    refine .pure (s := pure (a.eval x)) (by simp [execOp, hop]) rfl (rel x (by simp [hop, Op.operands])) hr
  -- pick
  · rename_i c x y hop
    split at h
    · rename_i t ht'
      injection h with h; simp only [Prod.mk.injEq] at h; obtain ⟨rfl, rfl⟩ := h
      have hc := rel c (by simp [hop, Op.operands])
      rw [ht'] at hc
      generalize hcv : a.eval c = cv at hc
      cases hc
      refine .pure (s := do pure (if ← asBool (a.eval c) then a.eval x else a.eval y)) (by simp [execOp, hop]) (v' := if t then a.eval x else a.eval y) (by simp [hcv, asBool]) ?_ hr
      cases t
      · exact rel y (by simp [hop, Op.operands])
      · exact rel x (by simp [hop, Op.operands])
    · cases h
  -- alloc
  · rename_i e hop
    split at h
    · rename_i i hinf
      split at h
      · rename_i z hz
        split at h
        · rename_i hcl
          injection h with h; simp only [Prod.mk.injEq] at h; obtain ⟨rfl, rfl⟩ := h
          have hal := hr.alloc z.cells z.cells e 0 (Nat.le_refl _) (fun j u hu => (closN_cells (m := m) hcl).get hu)
          refine .value (s := Instr.alloc e true (.tuple #[])) (by simp [execOp, hop]) (by simp [Instr.alloc, run_zero hinf hz, newVar, newRow]; rfl) (.ptr ?_) hal.1 hal.2
          unfold tr; rw [← hr.size, push_new]; rfl
        · cases h
      · cases h
    · cases h
  -- box
  · rename_i e x hop
    injection h with h; simp only [Prod.mk.injEq] at h; obtain ⟨rfl, rfl⟩ := h
    have hx := rel x (by simp [hop, Op.operands])
    have hal := hr.alloc (evalT tm x).cells (a.eval x).cells e 0 (Nat.le_of_eq hx.cells_size) (fun j u hu => hx.cells.get hu)
    refine .value (s := Instr.box e (a.eval x)) (by simp [execOp, hop]) (by simp [Instr.box, newVar, newRow]; rfl) (.ptr ?_) hal.1 hal.2
    unfold tr; rw [← hr.size, push_new]; rfl
  -- build
  · rename_i t parts hop
    simp only [Option.map_eq_some_iff, Prod.mk.injEq] at h
    obtain ⟨u, hu, rfl, rfl⟩ := h
    have hall : parts.toList.all (fun p => operandOk p.2) = true := by
      rw [List.all_eq_true]; intro p hp; exact hops p.2 (by simp [hop, Op.operands]; exact ⟨p.1, by simpa using hp⟩)
    obtain ⟨h1, h2⟩ := mapP_rel ht parts.toList hall
    obtain ⟨v', h3, h4⟩ := run_build' (P := P) _ _ h1 h2 hu w
    refine .pure (s := Instr.build t (parts.map fun (i, x) => (i, a.eval x))) (by simp [execOp, hop]) (v' := v') ?_ h4 hr
    rw [← h3]
    congr 2
    apply Array.ext'
    simp
  -- buildSlice
  · rename_i t len parts hop
    split at h
    · rename_i e i cells hs
      injection h with h; simp only [Prod.mk.injEq] at h; obtain ⟨rfl, rfl⟩ := h
      have hall : parts.toList.all (fun p => operandOk p.2) = true := by
        rw [List.all_eq_true]; intro p hp; exact hops p.2 (by simp [hop, Op.operands]; exact ⟨p.1, by simpa using hp⟩)
      obtain ⟨h1, h2⟩ := mapP_rel ht parts.toList hall
      obtain ⟨cells', h3, h4, h5⟩ := run_buildSlice' (P := P) _ _ h1 h2 hs w
      have hal := hr.alloc cells cells' e i.size (Nat.le_of_eq h4.1) (fun j u hu => h4.get hu)
      refine .value (s := Instr.buildSlice t len (parts.map fun (i, x) => (i, a.eval x))) (by simp [execOp, hop]) (v' := .slice (some ⟨w.heap.size, 0, none⟩) len len) (w' := w.alloc (.cells cells' e)) ?_ ?_ hal.1 hal.2
      · rw [← h3]
        congr 2
        apply Array.ext'
        simp
      · refine .slice (by unfold tr; rw [← hr.size, push_new]; rfl) (Nat.le_refl _) fun lc hlc ho h0 => ?_
        rw [show (⟨H.size, 0, none⟩ : Addr).block = m.size from hr.size.symm, push_new] at hlc
        injection hlc with hlc
        subst hlc
        rw [← h4.1, h5]
        exact Nat.le_refl _
    · cases h
  -- load
  · rename_i t x hop
    split at h
    · rename_i ad hx
      simp only [Option.map_eq_some_iff, Prod.mk.injEq] at h
      obtain ⟨u, hu, rfl, rfl⟩ := h
      have hxr := rel x (by simp [hop, Op.operands])
      rw [hx] at hxr
      generalize hcv : a.eval x = cv at hxr
      cases hxr with
      | @ptr _ a' ha =>
        obtain ⟨v', h1, h2⟩ := run_loadVar (P := P) hr ha hu
        exact .pure (s := Instr.loadAt t (a.eval x)) (by simp [execOp, hop]) (by simp [hcv, Instr.loadAt, Instr.sureAddr, h1]) h2 hr
    · cases h
  -- store
  · rename_i t x y hop
    split at h
    · rename_i ad hx
      simp only [Option.map_eq_some_iff, Prod.mk.injEq] at h
      obtain ⟨u, hu, rfl, rfl⟩ := h
      have hxr := rel x (by simp [hop, Op.operands])
      have hyr := rel y (by simp [hop, Op.operands])
      rw [hx] at hxr
      generalize hcv : a.eval x = cv at hxr
      cases hxr with
      | @ptr _ a' ha =>
        obtain ⟨w', h1, h2, h3⟩ := run_storeVar' (P := P) hr ha hyr hu
        intro K Q hK
        have he : (execOp a.eval o).run P w = .ok .skip w' := by simp [execOp, hop, hcv, Instr.storeAt, Instr.sureAddr, h1]
        rw [he, Oper.upon_skip]
        exact hK _ _ _ (.undef m) h2 h3
    · cases h
  -- nilCheck
  · rename_i x hop
    have hxr := rel x (by simp [hop, Op.operands])
    split at h
    · rename_i ad hx
      injection h with h; simp only [Prod.mk.injEq] at h; obtain ⟨rfl, rfl⟩ := h
      rw [hx] at hxr
      generalize hcv : a.eval x = cv at hxr
      cases hxr with
      | @ptr _ a' ha => exact .pure (s := pure (.pointer (some a'))) (by simp [execOp, hop, hcv]) rfl (.ptr ha) hr
    · rename_i f us vs hx
      injection h with h; simp only [Prod.mk.injEq] at h; obtain ⟨rfl, rfl⟩ := h
      rw [hx] at hxr
      generalize hcv : a.eval x = cv at hxr
      cases hxr with
      | @func _ _ ys _ ws h1 h2 h3 h4 => exact .pure (s := pure (.func (.func f) ys ws)) (by simp [execOp, hop, hcv]) rfl (.func _ h1 h2 h3 h4) hr
    · cases h
  -- binOp
  · rename_i op t x y yt hop
    simp only [Option.map_eq_some_iff, Prod.mk.injEq] at h
    obtain ⟨u, hu, rfl, rfl⟩ := h
    obtain ⟨v', n, h1, h2⟩ := run_binV hO (rel x (by simp [hop, Op.operands])) (rel y (by simp [hop, Op.operands])) hu w
    exact .value (s := do eqGuard op t x y (a.eval x) (a.eval y); binOp op t (a.eval x) (a.eval y)) (by simp [execOp, hop]) h1 h2 (hr.drawn n) (.drawn _ _ _ n)
  -- unOp
  · rename_i op t x hop
    split at h
    · rename_i hex
      simp only [Option.map_eq_some_iff, Prod.mk.injEq] at h
      obtain ⟨u, hu, rfl, rfl⟩ := h
      have e := (rel x (by simp [hop, Op.operands])).exact 1 _ _ hex
      have hp := pureV_sound hu m
      exact .pure (s := Op.unary op (a.eval x)) (by simp [execOp, hop]) (by rw [← e]; exact hp.1 w) hp.2 hr
    · cases h
  -- convert
  · rename_i s d x hop
    simp only [Option.map_eq_some_iff, Prod.mk.injEq] at h
    obtain ⟨u, hu, rfl, rfl⟩ := h
    obtain ⟨v', h1, h2⟩ := run_convV (rel x (by simp [hop, Op.operands])) hu w
    exact .pure (s := convert s d (a.eval x)) (by simp [execOp, hop]) h1 h2 hr
  -- makeInterface
  · rename_i t x hop
    split at h
    · cases h
    · cases h
    · rename_i d hne hu
      injection h with h; simp only [Prod.mk.injEq] at h; obtain ⟨rfl, rfl⟩ := h
      refine .pure (s := Instr.makeInterface t (a.eval x)) (by simp [execOp, hop]) (v' := .iface t (a.eval x)) ?_ (.iface t (rel x (by simp [hop, Op.operands]))) hr
      unfold Instr.makeInterface
      cases d <;> first | (exact (hne _ rfl).elim) | simp [run_underlying hu]
  -- makeFunc
  · rename_i fn first captured hop
    injection h with h; simp only [Prod.mk.injEq] at h; obtain ⟨rfl, rfl⟩ := h
    have h1 : first.toList.all operandOk = true := by rw [List.all_eq_true]; intro x hx; exact hops x (by simp [hop, Op.operands]; exact .inl (by simpa using hx))
    have h2 : captured.toList.all operandOk = true := by rw [List.all_eq_true]; intro x hx; exact hops x (by simp [hop, Op.operands]; exact .inr (by simpa using hx))
    refine .pure (s := Instr.makeFunc fn (first.map a.eval) (captured.map a.eval)) (by simp [execOp, hop]) rfl ?_ hr
    rw [toArray_map_eval, toArray_map_eval]
    exact .func' fn (mapA_rel ht _ h1).arr (mapA_rel ht _ h2).arr
  -- makeSlice
  · rename_i t l c hop
    obtain ⟨v', m', w', h1, h2, h3, h4⟩ := run_makeSlice' hr (rel l (by simp [hop, Op.operands])) (rel c (by simp [hop, Op.operands])) h
    exact .value (s := Instr.makeSlice t (a.eval l) (a.eval c)) (by simp [execOp, hop]) h1 h2 h3 h4
  -- slice
  · rename_i t x lo hi mx hop
    simp only [Option.map_eq_some_iff, Prod.mk.injEq] at h
    obtain ⟨u, hu, rfl, rfl⟩ := h
    obtain ⟨v', h1, h2⟩ := run_sliceAt' (rel x (by simp [hop, Op.operands])) (opt_rel ht lo (fun y hy => hops y (by simp [hop, Op.operands, hy]))) (opt_rel ht hi (fun y hy => hops y (by simp [hop, Op.operands, hy])))
      (opt_rel ht mx (fun y hy => hops y (by simp [hop, Op.operands, hy]))) hu w
    exact .pure (s := Instr.sliceAt t (a.eval x) (lo.map a.eval) (hi.map a.eval) (mx.map a.eval)) (by simp [execOp, hop]) h1 h2 hr
  -- fieldAddr
  · rename_i s x f hop
    simp only [Option.map_eq_some_iff, Prod.mk.injEq] at h
    obtain ⟨u, hu, rfl, rfl⟩ := h
    obtain ⟨v', h1, h2⟩ := run_fieldAt' (rel x (by simp [hop, Op.operands])) hu w
    exact .pure (s := Instr.fieldAt s (a.eval x) f) (by simp [execOp, hop]) h1 h2 hr
  -- field
  · rename_i s x f hop
    simp only [Option.map_eq_some_iff, Prod.mk.injEq] at h
    obtain ⟨u, hu, rfl, rfl⟩ := h
    obtain ⟨v', h1, h2⟩ := run_field' (rel x (by simp [hop, Op.operands])) hu w
    exact .pure (s := Instr.field s (a.eval x) f) (by simp [execOp, hop]) h1 h2 hr
  -- indexAddr
  · rename_i t x i hop
    simp only [Option.map_eq_some_iff, Prod.mk.injEq] at h
    obtain ⟨u, hu, rfl, rfl⟩ := h
    obtain ⟨v', h1, h2⟩ := run_indexAt' (rel x (by simp [hop, Op.operands])) (rel i (by simp [hop, Op.operands])) hu w
    exact .pure (s := Instr.indexAt t (a.eval x) (a.eval i)) (by simp [execOp, hop]) h1 h2 hr
  -- index
  · rename_i t x i hop
    simp only [Option.map_eq_some_iff, Prod.mk.injEq] at h
    obtain ⟨u, hu, rfl, rfl⟩ := h
    obtain ⟨v', h1, h2⟩ := run_index' (rel x (by simp [hop, Op.operands])) (rel i (by simp [hop, Op.operands])) hu w
    exact .pure (s := Instr.index t (a.eval x) (a.eval i)) (by simp [execOp, hop]) h1 h2 hr
  -- extract
  · rename_i t i hop
    have hxr := rel t (by simp [hop, Op.operands])
    split at h
    · rename_i vs hx
      simp only [Option.map_eq_some_iff, Prod.mk.injEq] at h
      obtain ⟨u, hu, rfl, rfl⟩ := h
      rw [hx] at hxr
      generalize hcv : a.eval t = cv at hxr
      cases hxr with
      | @tuple _ ys h1 h2 =>
        obtain ⟨y, hy, hyr⟩ := VRs.get ⟨h1, h2⟩ hu
        exact .pure (s := Instr.extract (a.eval t) i) (by simp [execOp, hop]) (by simp [hcv, Instr.extract, hy]) hyr hr
    · cases h
  -- call
  · rename_i c hop
    have cops : ∀ x ∈ c.args.toList, operandOk x = true := fun x hx => hops x (by
      simp only [hop, Op.operands, Call.operands]
      cases c.callee <;> simp <;> first | exact .inr (by simpa using hx) | simpa using hx)
    have crel : VRl m (c.args.toList.map (evalT tm)) (c.args.toList.map a.eval) := mapA_rel ht _ (List.all_eq_true.2 cops)
    split at h
    · rename_i hcal
      split at h
      · rename_i x t hargs0 htypes0
        have hargs : c.args = #[x] := Array.ext' hargs0
        have htypes : c.argTypes = #[t] := Array.ext' htypes0
        simp only [Option.map_eq_some_iff, Prod.mk.injEq] at h
        obtain ⟨u, hu, rfl, rfl⟩ := h
        have hx : VR m (evalT tm x) (a.eval x) := evalT_rel ht (cops x (by simp [hargs]))
        obtain ⟨h1, h2⟩ := run_len' (P := P) (ty := o.type) hx hu w
        refine .pure (s := Builtin.len_ #[t] o.type #[a.eval x]) ?_ h1 h2 hr
        simp [execOp, hop, resolve, hcal, invoke, builtin, hargs, htypes]
      · cases h
    · rename_i hcal
      split at h
      · rename_i s x t t2 hargs0 htypes0
        have hargs : c.args = #[s, x] := Array.ext' hargs0
        have htypes : c.argTypes = #[t, t2] := Array.ext' htypes0
        have hs : VR m (evalT tm s) (a.eval s) := evalT_rel ht (cops s (by simp [hargs]))
        have hx : VR m (evalT tm x) (a.eval x) := evalT_rel ht (cops x (by simp [hargs]))
        obtain ⟨v', m', w', h1, h2, h3, h4⟩ := run_append' (P := P) (ty := o.type) hr hs hx h
        refine .value (s := Builtin.append_ #[t, t2] o.type #[a.eval s, a.eval x]) ?_ h1 h2 h3 h4
        simp [execOp, hop, resolve, hcal, invoke, builtin, hargs, htypes]
      · cases h
    · rename_i hcal
      split at h
      · rename_i hex
        simp only [Option.map_eq_some_iff, Prod.mk.injEq] at h
        obtain ⟨u, hu, rfl, rfl⟩ := h
        have hp := pureV_sound hu m
        have e : (mapA (evalT tm) c.args) = c.args.map a.eval := by
          rw [toArray_map_eval]
          unfold mapA at hex ⊢
          refine array_eq_of crel.arr.1 fun i h1 h2 => ?_
          refine (crel.arr.2 i h1 h2).exact 1 _ _ ?_
          exact (List.all_eq_true.1 hex) _ (Array.mem_toList_iff.2 (Array.getElem_mem h1))
        rw [e] at hp
        refine .pure (s := Builtin.min_ c.argTypes o.type (c.args.map a.eval)) ?_ (hp.1 w) hp.2 hr
        simp [execOp, hop, resolve, hcal, invoke, builtin]
      · cases h
    · rename_i hcal
      split at h
      · rename_i hex
        simp only [Option.map_eq_some_iff, Prod.mk.injEq] at h
        obtain ⟨u, hu, rfl, rfl⟩ := h
        have hp := pureV_sound hu m
        have e : (mapA (evalT tm) c.args) = c.args.map a.eval := by
          rw [toArray_map_eval]
          unfold mapA at hex ⊢
          refine array_eq_of crel.arr.1 fun i h1 h2 => ?_
          refine (crel.arr.2 i h1 h2).exact 1 _ _ ?_
          exact (List.all_eq_true.1 hex) _ (Array.mem_toList_iff.2 (Array.getElem_mem h1))
        rw [e] at hp
        refine .pure (s := Builtin.max_ c.argTypes o.type (c.args.map a.eval)) ?_ (hp.1 w) hp.2 hr
        simp [execOp, hop, resolve, hcal, invoke, builtin]
      · cases h
    · rename_i f hcal
      have hf : VR m (evalT tm f) (a.eval f) := evalT_rel ht (hops f (by simp [hop, Op.operands, Call.operands, hcal]))
      split at h
      · rename_i g us vs hx
        rw [hx] at hf
        generalize hcv : a.eval f = cv at hf
        cases hf with
        | @func _ _ ys _ ws h1 h2 h3 h4 =>
          have hus : VRs m us ys := ⟨h1, h2⟩
          have hvs : VRs m vs ws := ⟨h3, h4⟩
          have h : callV O q g (us.toList ++ c.args.toList.map (evalT tm) ++ vs.toList).toArray H = some (v, H') := by
            split at h
            · exact h
            · split at h
              · exact h
              · cases h
          refine call_sound hO hr ((hus.list.append crel).append hvs.list).arr h ?_
          simp [execOp, hop, resolve, hcal, hcv, Deferred.ofValue, invoke]
          congr 2
          apply Array.ext'
          simp
      · cases h
    · cases h
  · cases h

theorem exR_sound {O : Orc} (hO : BaseOK P O) {q : FuncId → Nat} {o : Oper} (hok : opOk o = true) {tm : List Value} {a : Act} {H H' : AHeap} {m : Mp} {w : World} (hr : HR H m w) (ht : VRl m tm a.tmps.toList) {v : Value}
    (h : exR P (Runs P) O q (evalT tm) H o v H') : OpOK P o a H m w v H' := by
  have other : exec1 P (noCall O) q (evalT tm) H o = some (v, H') → OpOK P o a H m w v H' := exec1_sound hO.none hok hr ht
  unfold exR at h
  split at h
  · rename_i c hop
    have hops : ∀ x ∈ o.op.operands.toList, operandOk x = true := List.all_eq_true.1 hok
    split at h
    · rename_i f hcal
      have hf : VR m (evalT tm f) (a.eval f) := evalT_rel ht (hops f (by simp [hop, Op.operands, Call.operands, hcal]))
      have cops : ∀ x ∈ c.args.toList, operandOk x = true := fun x hx => hops x (by
        simp only [hop, Op.operands, Call.operands]
        cases c.callee <;> simp <;> first | exact .inr (by simpa using hx) | simpa using hx)
      have crel : VRl m (c.args.toList.map (evalT tm)) (c.args.toList.map a.eval) := mapA_rel ht _ (List.all_eq_true.2 cops)
      split at h
      · rename_i g us vs hx
        rw [hx] at hf
        generalize hcv : a.eval f = cv at hf
        cases hf with
        | @func _ _ ys _ ws h1 h2 h3 h4 =>
          have hus : VRs m us ys := ⟨h1, h2⟩
          have hvs : VRs m vs ws := ⟨h3, h4⟩
          refine callR_sound hO hr ((hus.list.append crel).append hvs.list).arr h.2 ?_
          simp [execOp, hop, resolve, hcal, hcv, Deferred.ofValue, invoke]
          congr 2
          apply Array.ext'
          simp
      · exact h.elim
    · exact other h
  · exact other h

end
end Go.Proofs.Ytclphdmaedpipaa
