/- Code, functions, and functions one in the other: what the interpreter gives, the model's run gives. -/
import Derived.Test.YtclphdmaedpipaaAbsR
import Derived.LoopN
namespace Go.Proofs.Ytclphdmaedpipaa
open Go
set_option linter.unusedVariables false

section
variable {P : Program}

def exitOf : AExit → Exit
  | .normal => .normal
  | .exit id => .exit id
  | .ret => .ret

theorem wpAny_run {O : Orc} (hO : BaseOK P O) (hm : P.follows .mixedOrders = true) {q : FuncId → Nat} {id : Nat} {ops : Array Oper} (hok : ops.toList.all opOk = true) (hR : regionOk q ops = true) {Q : Exit → Act → World → Prop}
    {tm tm' : List Value} {H H' : AHeap} {a : Act} {m : Mp} {w : World} (hr : HR H m w) (ht : VRl m tm a.tmps.toList) (h : evOpsR P (Runs P) O q ops ops.toList tm H tm' H')
    (hQ : ∀ a' m' w', VRl m' tm' a'.tmps.toList → a'.defers = a.defers → HR H' m' w' → Step H m w H' m' w' → Q .normal a' w') : (Code.region id ops true).wp P Q a w := by
  refine wp_region_any hm ?_
  refine any_order hO hok (regOK_of hR) ops.size _ (List.range ops.size) tm H a m _ (by simp) ⟨?_, ?_⟩ (by simp) ?_ (hr.drawn _) ht ?_ (fun a' m' w' h1 h2 h3 h4 => hQ a' m' w' h1 h2 h3 ((Step.drawn H m w _).trans h4))
  · rw [List.range_eq_range']; exact List.pairwise_lt_range'
  · intro i
    rw [List.mem_range]
    constructor
    · intro hi; exact ⟨hi, by rw [Array.getD_eq_getD_getElem?, Array.getElem?_replicate]; simp [hi]⟩
    · exact fun h => h.1
  · intro k j hk hlk
    rw [Array.getD_eq_getD_getElem?, Array.getElem?_replicate] at hlk
    simp [hk] at hlk
  · have := evIx_range (P := P) (C := Runs P) (O := O) (q := q) (ops := ops) ops.toList 0 tm H tm' H' (by simp) h
    rw [List.range_eq_range']
    simpa using this

/-- What a piece of code comes to here, it comes to there. -/
def CodeOK (P : Program) (c : Code) (tm : List Value) (H : AHeap) (r : St) : Prop :=
  ∀ (a : Act) (m : Mp) (w : World), HR H m w → VRl m tm a.tmps.toList →
    c.wp P (fun e a' w' => e = exitOf r.1 ∧ a'.defers = a.defers ∧ ∃ m', VRl m' r.2.1 a'.tmps.toList ∧ HR r.2.2 m' w' ∧ Step H m w r.2.2 m' w') a w

theorem CodeOK.weaken {c : Code} {tm : List Value} {H : AHeap} {r : St} (h : CodeOK P c tm H r) {a : Act} {m : Mp} {w : World} (hr : HR H m w) (ht : VRl m tm a.tmps.toList) {Q : Exit → Act → World → Prop}
    (hQ : ∀ a' m' w', VRl m' r.2.1 a'.tmps.toList → a'.defers = a.defers → HR r.2.2 m' w' → Step H m w r.2.2 m' w' → Q (exitOf r.1) a' w') : c.wp P Q a w :=
  wp_mono (h a m w hr ht) fun e a' w' ⟨he, hd, m', h1, h2, h3⟩ => by subst he; exact hQ a' m' w' h1 hd h2 h3

theorem CodeOK.of {c : Code} {tm : List Value} {H : AHeap} {r : St} (h : ∀ (a : Act) (m : Mp) (w : World), HR H m w → VRl m tm a.tmps.toList → ∀ Q : Exit → Act → World → Prop,
    (∀ a' m' w', VRl m' r.2.1 a'.tmps.toList → a'.defers = a.defers → HR r.2.2 m' w' → Step H m w r.2.2 m' w' → Q (exitOf r.1) a' w') → c.wp P Q a w) : CodeOK P c tm H r :=
  fun a m w hr ht => h a m w hr ht _ fun a' m' w' h1 h2 h3 h4 => ⟨rfl, h2, m', h1, h3, h4⟩

theorem rds_sound {f : List Value → AHeap → St → Prop} {c : Code} (hf : ∀ tm H r, f tm H r → CodeOK P c tm H r) {tm : List Value} {H : AHeap} {r : St} (h : Rds f tm H r) : ∃ n, ∀ (a : Act) (m : Mp) (w : World), HR H m w → VRl m tm a.tmps.toList → ∀ Q : Exit → Act → World → Prop,
    (∀ a' m' w', VRl m' r.2.1 a'.tmps.toList → a'.defers = a.defers → HR r.2.2 m' w' → Step H m w r.2.2 m' w' → Q (exitOf r.1) a' w') → Code.rounds P c Q n a w := by
  induction h with
  | @next tm H tm1 H1 r h t ih =>
    obtain ⟨n, hn⟩ := ih
    refine ⟨n + 1, fun a m w hr ht Q hQ => ?_⟩
    rw [rounds_succ]
    refine (hf tm H _ h).weaken hr ht fun a' m' w' h1 h2 h3 h4 => ?_
    exact hn a' m' w' h3 h1 Q (fun a2 m2 w2 g1 g2 g3 g4 => hQ a2 m2 w2 g1 (g2.trans h2) g3 (h4.trans g4))
  | @last tm H r h hne =>
    refine ⟨1, fun a m w hr ht Q hQ => ?_⟩
    rw [rounds_succ]
    refine (hf tm H _ h).weaken hr ht fun a' m' w' h1 h2 h3 h4 => ?_
    have := hQ a' m' w' h1 h2 h3 h4
    cases he : r.1 with
    | normal => exact absurd he hne
    | exit id => rw [he] at this; exact this
    | ret => rw [he] at this; exact this

theorem evR_sound {O : Orc} (hO : BaseOK P O) (hm : P.follows .mixedOrders = true) {q : FuncId → Nat} : ∀ (c : Code) (tm : List Value) (H : AHeap) (r : St), codeOk q c = true → evR P (Runs P) O q c tm H r → CodeOK P c tm H r := by
  intro c
  induction c with
  | skip => intro tm H r _ h; simp only [evR] at h; subst h; exact .of fun a m w hr ht Q hQ => wp_skip (hQ a m w ht rfl hr (.refl _ _ _))
  | label l => intro tm H r _ h; simp only [evR] at h; subst h; exact .of fun a m w hr ht Q hQ => wp_label (hQ a m w ht rfl hr (.refl _ _ _))
  | exit id => intro tm H r _ h; simp only [evR] at h; subst h; exact .of fun a m w hr ht Q hQ => wp_exit (hQ a m w ht rfl hr (.refl _ _ _))
  | ret => intro tm H r _ h; simp only [evR] at h; subst h; exact .of fun a m w hr ht Q hQ => wp_ret (hQ a m w ht rfl hr (.refl _ _ _))
  | region id ops draw =>
    intro tm H r hok h
    simp only [codeOk, Bool.and_eq_true, Bool.or_eq_true, Bool.not_eq_true'] at hok
    obtain ⟨tm', H', hops, rfl⟩ := h
    refine .of fun a m w hr ht Q hQ => ?_
    unfold regR at hops
    cases draw with
    | false =>
      simp only [Bool.false_and, Bool.false_eq_true, if_false] at hops
      exact wp_region_list (evOpsR_sound hO ops.toList tm H a m w hok.1 hr ht hops hQ)
    | true =>
      have hreg := hok.2.resolve_left (by simp)
      simp only [Bool.true_and] at hops
      cases hsp : special q ops with
      | false =>
        rw [hsp] at hops hreg
        exact wpAny_run hO hm hok.1 hreg hr ht hops hQ
      | true =>
        rw [hsp] at hops hreg
        exact wpAny_runF hO hm hok.1 hreg hsp hr ht hops.1 hops.2 hQ
  | seq x y ihx ihy =>
    intro tm H r hok h
    simp only [codeOk, Bool.and_eq_true] at hok
    obtain ⟨⟨e, tm1, H1⟩, hx, h⟩ := h
    refine .of fun a m w hr ht Q hQ => wp_seq ?_
    refine (ihx tm H _ hok.1 hx).weaken hr ht fun a' m' w' h1 h2 h3 h4 => ?_
    cases e with
    | normal => exact (ihy tm1 H1 r hok.2 h).weaken h3 h1 (fun a2 m2 w2 g1 g2 g3 g4 => hQ a2 m2 w2 g1 (g2.trans h2) g3 (h4.trans g4))
    | exit id => simp only at h; subst h; exact hQ a' m' w' h1 h2 h3 h4
    | ret => simp only at h; subst h; exact hQ a' m' w' h1 h2 h3 h4
  | cond c x y ihx ihy =>
    intro tm H r hok h
    simp only [codeOk, Bool.and_eq_true] at hok
    simp only [evR] at h
    refine .of fun a m w hr ht Q hQ => ?_
    split at h
    · rename_i b hb
      have hc := evalT_rel ht hok.1.1
      rw [hb] at hc
      generalize hcv : a.eval c = cv at hc
      cases hc
      refine wp_cond hcv ?_
      cases b with
      | true => simp only [if_true] at h ⊢; exact (ihx tm H r hok.1.2 h).weaken hr ht hQ
      | false => simp only [Bool.false_eq_true, if_false] at h ⊢; exact (ihy tm H r hok.2 h).weaken hr ht hQ
    · exact h.elim
  | block id body ih =>
    intro tm H r hok h
    simp only [codeOk] at hok
    obtain ⟨⟨e, tm1, H1⟩, hx, h⟩ := h
    refine .of fun a m w hr ht Q hQ => wp_block ?_
    refine (ih tm H _ hok hx).weaken hr ht fun a' m' w' h1 h2 h3 h4 => ?_
    cases e with
    | normal => simp only at h; subst h; exact hQ a' m' w' h1 h2 h3 h4
    | exit id' =>
      simp only at h
      simp only [exitOf, Exit.inBlock]
      split at h
      · rename_i e; rw [if_pos e]; subst h; exact hQ a' m' w' h1 h2 h3 h4
      · rename_i e; rw [if_neg e]; subst h; exact hQ a' m' w' h1 h2 h3 h4
    | ret => simp only at h; subst h; exact hQ a' m' w' h1 h2 h3 h4
  | loop body ih =>
    intro tm H r hok h
    simp only [codeOk] at hok
    refine .of fun a m w hr ht Q hQ => ?_
    obtain ⟨n, hn⟩ := rds_sound (fun tm1 H1 r1 h1 => ih tm1 H1 r1 hok h1) h
    exact wp_loop_rounds n (hn a m w hr ht Q hQ)
  | _ => intro tm H r _ h; simp [evR] at h

theorem res_sound {H : AHeap} {m : Mp} {w : World} (hr : HR H m w) {tm : List Value} {a : Act} (ht : VRl m tm a.tmps.toList) : ∀ (rs : List ResultVar) (vs : List Value), resList P H tm rs = some vs →
    ∃ vs', (rs.mapM (fun | .tmp t => pure (a.tmps.getD t undef) | .cell x t => do loadVar t (← asAddr (a.tmps.getD x undef)) : ResultVar → Sem Value)).run P w = .ok vs' w ∧ VRl m vs vs'
  | [], vs, h => by simp only [resList] at h; injection h with h; subst h; exact ⟨[], rfl, .nil⟩
  | r :: rs, vs, h => by
    simp only [resList] at h
    split at h
    · rename_i v hv
      split at h
      · rename_i us hus
        injection h with h; subst h
        obtain ⟨us', h1, h2⟩ := res_sound hr ht rs us hus
        cases r with
        | tmp t =>
          simp only [resOne] at hv
          injection hv with hv; subst hv
          have := evalT_rel ht (x := .tmp t) rfl
          refine ⟨a.tmps.getD t undef :: us', ?_, .cons this h2⟩
          simp only [List.mapM_cons, Sem.run_bind, Sem.run_pure, Result.andThen_ok, h1]
        | cell x t =>
          simp only [resOne] at hv
          split at hv
          · rename_i ad had
            have := evalT_rel ht (x := .tmp x) rfl
            simp only [evalT, Act.eval] at this
            rw [had] at this
            generalize hcv : a.tmps.getD x undef = cv at this
            cases this with
            | @ptr _ a' ha =>
              obtain ⟨v', h3, h4⟩ := run_loadVar (P := P) hr ha hv
              refine ⟨v' :: us', ?_, .cons h4 h2⟩
              have had' : (asAddr (.pointer (some a'))).run P w = .ok a' w := rfl
              simp only [List.mapM_cons, Sem.run_bind, hcv, had', Sem.run_pure, Result.andThen_ok, h3, h1]
          · cases hv
      · cases h
    · cases h

theorem resV_sound {fn : Func} {H : AHeap} {m : Mp} {w : World} (hr : HR H m w) {tm : List Value} {a : Act} (ht : VRl m tm a.tmps.toList) {v : Value} (h : resV P H tm fn.results.toList = some v) :
    ∃ v', (results fn a.tmps).run P w = .ok v' w ∧ VR m v v' := by
  unfold resV at h
  have hm : ∀ vs', (fn.results.toList.mapM (fun | .tmp t => pure (a.tmps.getD t undef) | .cell x t => do loadVar t (← asAddr (a.tmps.getD x undef)) : ResultVar → Sem Value)).run P w = .ok vs' w →
      (results fn a.tmps).run P w = .ok (if h : vs'.toArray.size = 1 then vs'.toArray[0] else .tuple vs'.toArray) w := by
    intro vs' hvs
    unfold results
    rw [Array.mapM_eq_mapM_toList, Sem.run_bind, Sem.run_map]
    erw [hvs]
    rfl
  split at h
  · rename_i u hu
    injection h with h; subst h
    obtain ⟨vs', h1, h2⟩ := res_sound hr ht _ _ hu
    cases h2 with
    | @cons _ y _ ys hxy htl =>
      cases htl
      exact ⟨y, by rw [hm _ h1]; rfl, hxy⟩
  · rename_i us hne hus
    injection h with h; subst h
    obtain ⟨vs', h1, h2⟩ := res_sound hr ht _ _ hus
    have hlen : vs'.length ≠ 1 := by
      intro hl
      rw [← h2.length] at hl
      match us, hl with
      | [u], _ => exact hne u rfl
    refine ⟨.tuple vs'.toArray, by rw [hm _ h1, dif_neg (by simpa using hlen)], .tuple' h2.arr⟩
  · cases h

theorem run_callFunc {f : FuncId} {fn : Func} (hf : P.funcs[f]? = some fn) (hb : fn.body.isSome = true) (hn : fn.name ≠ "runtime.NumGoroutine") (args : Array Value) (w : World) : (callFunc f args).run P w = .ok (.enter f args) w := by
  obtain ⟨c, hc⟩ := Option.isSome_iff_exists.1 hb
  simp [callFunc, hf, hn, hc]

/-- A FUNCTION, by its code's relation. -/
theorem runs_of {O : Orc} (hO : BaseOK P O) (hm : P.follows .mixedOrders = true) {q : FuncId → Nat} {f : FuncId} {fn : Func} {c : Code} (hf : P.funcs[f]? = some fn) (hb : fn.body = some c) (hn : fn.name ≠ "runtime.NumGoroutine")
    (hc : codeOk q c = true) {args : Array Value} {H H' : AHeap} {v : Value} {e : AExit} {tm : List Value} (h : evR P (Runs P) O q c (args.toList ++ List.replicate (fn.ntmps - args.size) undef) H (e, tm, H'))
    (he : ∀ id, e ≠ .exit id) (hv : resV P H' tm fn.results.toList = some v) : Runs P f args H v H' := by
  intro m w args' hr hargs
  refine ⟨fun w => run_callFunc hf (by simp [hb]) hn args' w, ?_⟩
  refine calls_of_wp hf hb ?_
  have ht : VRl m (args.toList ++ List.replicate (fn.ntmps - args.size) undef) (args' ++ Array.replicate (fn.ntmps - args'.size) undef).toList := by
    simp only [Array.toList_append, Array.toList_replicate, ← hargs.1]
    refine hargs.list.append ?_
    induction (fn.ntmps - args.size) with
    | zero => exact .nil
    | succ k ih => exact .cons (.undef m) ih
  refine (evR_sound hO hm c _ H _ hc h).weaken hr (a := { tmps := args' ++ Array.replicate (fn.ntmps - args'.size) undef, defers := [] }) ht fun a' m' w' h1 h2 h3 h4 => ?_
  have fin : a'.defers = [] ∧ ∃ u, (results fn a'.tmps).run P w' = .ok u w' ∧ ∃ v' m', Ending.returned u = .returned v' ∧ VR m' v v' ∧ HR H' m' w' ∧ Step H m w H' m' w' := by
    obtain ⟨v', g1, g2⟩ := resV_sound h3 h1 hv
    exact ⟨h2, v', g1, v', m', rfl, g2, h3, h4⟩
  cases e with
  | normal => exact fin
  | exit id => exact absurd rfl (he id)
  | ret => exact fin

/-! ### the interpreter as a function gives the relation -/

theorem callV_rel {O : Orc} (hO : OrcOK P O) {q : FuncId → Nat} {g : FuncId} {args : Array Value} {H H' : AHeap} {v : Value} (h : callV O q g args H = some (v, H')) : callR (Runs P) O q g args H v H' := by
  unfold callV at h
  unfold callR
  cases hrow : O.row g args with
  | some u =>
    rw [hrow] at h
    injection h with h; simp only [Prod.mk.injEq] at h; exact ⟨h.1.symm, h.2.symm⟩
  | none =>
    rw [hrow] at h
    simp only at h ⊢
    by_cases q1 : q g = 1
    · rw [q1] at h ⊢
      simp only at h ⊢
      split at h
      · rename_i hcl
        split at h
        · rename_i v1 H2 hc
          split at h
          · rename_i hv
            injection h with h; simp only [Prod.mk.injEq] at h; obtain ⟨rfl, rfl⟩ := h
            exact ⟨hcl, hv, rfl, H2, hO.call _ _ _ _ _ hc⟩
          · cases h
        · cases h
      · cases h
    by_cases q2 : q g = 2
    · rw [q2] at h ⊢
      simp only at h ⊢
      split at h
      · rename_i v1 H1 hc
        split at h
        · rename_i hcond
          simp only [Bool.and_eq_true, decide_eq_true_eq] at hcond
          injection h with h; simp only [Prod.mk.injEq] at h; obtain ⟨rfl, rfl⟩ := h
          exact ⟨H1, hO.call _ _ _ _ _ hc, hcond.1, hcond.2, rfl⟩
        · cases h
      · cases h
    by_cases q3 : q g = 3
    · rw [q3] at h ⊢
      simp only at h ⊢
      split at h
      · rename_i v1 H1 hc
        split at h
        · rename_i hv
          injection h with h; simp only [Prod.mk.injEq] at h; obtain ⟨rfl, rfl⟩ := h
          exact ⟨hv, rfl, H1, hO.call _ _ _ _ _ hc⟩
        · cases h
      · cases h
    · generalize q g = k at *
      match k, q1, q2, q3 with
      | 0, _, _, _ => exact hO.call _ _ _ _ _ h
      | 1, q1, _, _ => exact absurd rfl q1
      | 2, _, q2, _ => exact absurd rfl q2
      | 3, _, _, q3 => exact absurd rfl q3
      | n + 4, _, _, _ => exact hO.call _ _ _ _ _ h

theorem exec1_rel {O : Orc} (hO : OrcOK P O) {q : FuncId → Nat} {o : Oper} {ρ : Operand → Value} {H H' : AHeap} {v : Value} (h : exec1 P O q ρ H o = some (v, H')) : exR P (Runs P) O q ρ H o v H' := by
  rcases valueCall o with ⟨c, f, hop, hcal⟩ | hno
  · unfold exR
    simp only [exec1, hop, hcal] at h
    simp only [hop, hcal]
    split at h
    · rename_i g us vs hx
      split at h
      · exact ⟨.inl rfl, callV_rel hO h⟩
      · split at h
        · rename_i hq; exact ⟨.inr hq, callV_rel hO h⟩
        · cases h
    · cases h
  · rw [exR_other hno]
    have : exec1 P (noCall O) q ρ H o = exec1 P O q ρ H o := by
      unfold exec1
      cases hop : o.op with
      | call c =>
        simp only
        cases hc : c.callee with
        | value f => exact absurd hc (hno c f hop)
        | invoke r n => rfl
        | builtin b => cases b <;> rfl
      | _ => rfl
    rw [this]; exact h

theorem evOps_rel {O : Orc} (hO : OrcOK P O) {q : FuncId → Nat} {ops : Array Oper} : ∀ (l : List Oper) (tm : List Value) (H : AHeap) {tm' H'}, evOps P O q ops l tm H = some (tm', H') → evOpsR P (Runs P) O q ops l tm H tm' H'
  | [], tm, H, tm', H', h => by
    simp only [evOps] at h
    injection h with h; simp only [Prod.mk.injEq] at h; exact ⟨h.1.symm, h.2.symm⟩
  | o :: rest, tm, H, tm', H', h => by
    simp only [evOps] at h
    unfold evOpsR
    by_cases hw : wantedL ops o tm = true
    · rw [if_pos hw] at h
      cases hx : exec1 P O q (evalT tm) H o with
      | none => rw [hx] at h; cases h
      | some r =>
        obtain ⟨v, H1⟩ := r
        rw [hx] at h
        exact ⟨v, H1, by unfold outR; rw [if_pos hw]; exact exec1_rel hO hx, evOps_rel hO rest _ _ h⟩
    · rw [if_neg hw] at h
      exact ⟨undef, H, by unfold outR; rw [if_neg hw]; exact ⟨rfl, rfl⟩, evOps_rel hO rest _ _ h⟩

theorem kept_eq (H : AHeap) (ops : Array Oper) : kept H ops = (H.toList ++ List.replicate (countB isAl ops.toList) none).toArray := by
  unfold kept
  apply Array.ext'
  simp

theorem allocV_rel {e : TypeId} {k : Nat} {H H' : AHeap} {v : Value} (h : allocV P e k H = some (v, H')) : allocF P e k H v H' := by
  unfold allocV at h
  split at h
  · rename_i i hi
    split at h
    · rename_i z hz
      split at h
      · rename_i hc
        split at h
        · rename_i hk
          injection h with h
          simp only [Prod.mk.injEq] at h
          exact ⟨i, z, hi, hz, hc, hk, h.1.symm, h.2.symm⟩
        · cases h
      · cases h
    · cases h
  · cases h

theorem execF_rel {O : Orc} {q : FuncId → Nat} {ops : Array Oper} {k : Nat} {o : Oper} {tm : List Value} {H H' : AHeap} {v : Value} (hw : wantedL ops o tm = true)
    {f : Option (Value × AHeap)} (hf : f = some (v, H') → exR P (Runs P) O q (evalT tm) H o v H') (h : (match o.op with | .alloc e => allocV P e k H | _ => f) = some (v, H')) : outF P (Runs P) O q ops k o tm H v H' := by
  unfold outF
  rw [if_pos hw]
  cases hop : o.op with
  | alloc e =>
    rw [hop] at h
    exact allocV_rel h
  | _ =>
    rw [hop] at h
    exact hf h

theorem evOpsF_rel {O : Orc} (hO : OrcOK P O) {q : FuncId → Nat} {ops : Array Oper} : ∀ (l : List Oper) (k : Nat) (tm : List Value) (H : AHeap) {tm' H'}, evOpsF P O q ops l k tm H = some (tm', H') → evOpsFR P (Runs P) O q ops l k tm H tm' H'
  | [], k, tm, H, tm', H', h => by
    simp only [evOpsF] at h
    injection h with h; simp only [Prod.mk.injEq] at h; exact ⟨h.1.symm, h.2.symm⟩
  | o :: rest, k, tm, H, tm', H', h => by
    simp only [evOpsF] at h
    unfold evOpsFR
    by_cases hw : wantedL ops o tm = true
    · rw [if_pos hw] at h
      cases hx : execF P O q k (evalT tm) H o with
      | none => rw [hx] at h; cases h
      | some r =>
        obtain ⟨v, H1⟩ := r
        rw [hx] at h
        exact ⟨v, H1, execF_rel hw (exec1_rel hO) hx, evOpsF_rel hO rest _ _ _ h⟩
    · rw [if_neg hw] at h
      refine ⟨undef, H, ?_, evOpsF_rel hO rest _ _ _ h⟩
      unfold outF
      rw [if_neg hw]
      exact ⟨rfl, rfl⟩

theorem ev_rel {O : Orc} (hO : OrcOK P O) {q : FuncId → Nat} (n : Nat) : ∀ (c : Code) (tm : List Value) (H : AHeap) (r : St), ev P O q n c tm H = some r → evR P (Runs P) O q c tm H r := by
  intro c
  induction c with
  | skip => intro tm H r h; simp only [ev] at h; injection h with h; exact h.symm
  | label l => intro tm H r h; simp only [ev] at h; injection h with h; exact h.symm
  | exit id => intro tm H r h; simp only [ev] at h; injection h with h; exact h.symm
  | ret => intro tm H r h; simp only [ev] at h; injection h with h; exact h.symm
  | region id ops draw =>
    intro tm H r h
    simp only [ev] at h
    split at h
    · rename_i hc
      split at h
      · rename_i tm' H' hops
        split at h
        · rename_i hd
          injection h with h
          refine ⟨tm', H', ?_, h.symm⟩
          unfold regR
          rw [if_pos hc]
          rw [← kept_eq] at hops
          exact ⟨evOpsF_rel hO _ _ _ _ hops, hd⟩
        · cases h
      · cases h
    · rename_i hc
      cases hops : evOps P O q ops ops.toList tm H with
      | none => rw [hops] at h; cases h
      | some x =>
        obtain ⟨tm', H'⟩ := x
        rw [hops] at h
        simp only at h
        injection h with h
        refine ⟨tm', H', ?_, h.symm⟩
        unfold regR
        rw [if_neg hc]
        exact evOps_rel hO _ _ _ hops
  | seq x y ihx ihy =>
    intro tm H r h
    simp only [ev] at h
    cases hx : ev P O q n x tm H with
    | none => rw [hx] at h; cases h
    | some r1 =>
      rw [hx] at h
      obtain ⟨e, tm1, H1⟩ := r1
      refine ⟨_, ihx tm H _ hx, ?_⟩
      cases e with
      | normal => exact ihy tm1 H1 r h
      | exit id => simp only at h; injection h with h; exact h.symm
      | ret => simp only at h; injection h with h; exact h.symm
  | cond c x y ihx ihy =>
    intro tm H r h
    simp only [ev] at h
    unfold evR
    split at h
    · rename_i b hb
      cases b with
      | true => simp only [if_true] at h ⊢; exact ihx tm H r h
      | false => simp only [Bool.false_eq_true, if_false] at h ⊢; exact ihy tm H r h
    · cases h
  | block id body ih =>
    intro tm H r h
    simp only [ev] at h
    cases hx : ev P O q n body tm H with
    | none => rw [hx] at h; cases h
    | some r1 =>
      rw [hx] at h
      obtain ⟨e, tm1, H1⟩ := r1
      refine ⟨_, ih tm H _ hx, ?_⟩
      cases e with
      | normal => simp only at h; injection h with h; exact h.symm
      | exit id' =>
        simp only at h ⊢
        split at h
        · rename_i e; rw [if_pos e]; injection h with h; exact h.symm
        · rename_i e; rw [if_neg e]; injection h with h; exact h.symm
      | ret => simp only at h; injection h with h; exact h.symm
  | loop body ih =>
    intro tm H r h
    simp only [ev] at h
    unfold evR
    generalize hf : ev P O q n body = f at h
    have ih' : ∀ tm H r, f tm H = some r → evR P (Runs P) O q body tm H r := fun tm H r hh => ih tm H r (by rw [hf]; exact hh)
    clear hf ih
    induction n generalizing tm H with
    | zero => cases h
    | succ k ihk =>
      simp only [loopN] at h
      split at h
      · rename_i tm1 H1 hb; exact .next (ih' tm H _ hb) (ihk tm1 H1 h)
      · rename_i hne
        refine .last (ih' tm H r h) fun he => ?_
        obtain ⟨e, tm1, H1⟩ := r
        simp only at he
        subst he
        exact hne tm1 H1 h
  | _ => intro tm H r h; simp [ev] at h

theorem evFunc_sound {O : Orc} (hO : OrcOK P O) (hm : P.follows .mixedOrders = true) {q : FuncId → Nat} {n : Nat} {f : FuncId} {fn : Func} {c : Code} (hf : P.funcs[f]? = some fn) (hb : fn.body = some c) (hn : fn.name ≠ "runtime.NumGoroutine")
    (hc : codeOk q c = true) {args : Array Value} {H H' : AHeap} {v : Value} (h : evFunc P O q n f args H = some (v, H')) : Runs P f args H v H' := by
  unfold evFunc at h
  simp only [hf, hb] at h
  cases hev : ev P O q n c (args.toList ++ List.replicate (fn.ntmps - args.size) undef) H with
  | none => rw [hev] at h; cases h
  | some r =>
    rw [hev] at h
    obtain ⟨e, tm, H1⟩ := r
    have hrel := ev_rel hO n c _ H _ hev
    cases e with
    | exit id => cases h
    | normal =>
      obtain ⟨rfl, e2⟩ := map_fst h
      exact runs_of hO.base hm hf hb hn hc hrel (fun _ => by simp) e2
    | ret =>
      obtain ⟨rfl, e2⟩ := map_fst h
      exact runs_of hO.base hm hf hb hn hc hrel (fun _ => by simp) e2

/-- The functions that were looked at. -/
def FsOK (P : Program) (q : FuncId → Nat) (fs : FuncId → Bool) : Prop := ∀ f, fs f = true → ∃ fn c, P.funcs[f]? = some fn ∧ fn.body = some c ∧ codeOk q c = true ∧ fn.name ≠ "runtime.NumGoroutine"

theorem callN_sound {prim : Orc} (hO : OrcOK P prim) (hm : P.follows .mixedOrders = true) {q : FuncId → Nat} {fs : FuncId → Bool} (hfs : FsOK P q fs) (n : Nat) : ∀ (d : Nat) (f : FuncId) (args : Array Value) (H : AHeap) (v : Value) (H' : AHeap),
    callN P prim q fs n d f args H = some (v, H') → Runs P f args H v H'
  | 0, f, args, H, v, H', h => hO.call f args H v H' h
  | d + 1, f, args, H, v, H', h => by
    simp only [callN] at h
    split at h
    · rename_i r hr
      injection h with h; subst h
      exact hO.call f args H v H' hr
    · split at h
      · rename_i hf
        obtain ⟨fn, c, h1, h2, h3, h4⟩ := hfs f hf
        exact evFunc_sound (O := { prim with call := callN P prim q fs n d }) ⟨fun f args H v H' hh => callN_sound hO hm hfs n d f args H v H' hh, hO.row, hO.bin⟩ hm h1 h2 h4 h3 h
      · cases h

end
end Go.Proofs.Ytclphdmaedpipaa
