/- AbsL / AbsM / AbsN: several texts in one. -/
import Derived.Test.YtameamgamdaibaaDoorAbsI
import Derived.LoopN
import Derived.ScopeJumps
/-!  Code, functions, and functions one in the other: what the interpreter gives, the model's run gives. -/
namespace Go.Proofs.YtameamgamdaibaaDoor
open Go
set_option linter.unusedVariables false

section
variable {P : Program}

def exitOf : AExit → Exit
  | .normal => .normal
  | .exit id => .exit id
  | .ret => .ret
  | .goto l => .goto l

theorem wpAny_run {O : Orc} (hO : BaseOK P O) (hm : P.follows .mixedOrders = true) {q : FuncId → Nat} {id : Nat} {ops : Array Oper} (hok : ops.toList.all opOk = true) (hR : regionOk q ops = true) {Q : Exit → Act → World → Prop}
    {tm tm' : List Value} {H H' : AHeap} {a : Act} {m : Mp} {w : World} (hr : HR H m w) (ht : VRl m tm a.tmps.toList) (h : evOpsR P (Runs P) O q ops ops.toList tm H tm' H')
    (hQ : ∀ a' m' w', VRl m' tm' a'.tmps.toList → a'.defers = a.defers → HR H' m' w' → Step H m w H' m' w' → Q .normal a' w') : (Code.region id ops true).wp P Q a w := by
  refine wp_region_any hm ?_
  refine any_order hO hok (regOK_of hR) ops.size _ (List.range ops.size) tm H a m _ (by simp) ⟨?_, ?_⟩ (by simp) ?_ (hr.drawn _) ht ?_ (fun a' m' w' h1 h2 h3 h4 => hQ a' m' w' h1 h2 h3 ((Step.drawn H m w _).trans h4))
  · rw [List.range_eq_range']; exact List.pairwise_lt_range'
  · intro i
    rw [List.mem_range]
    constructor
    · intro hi; exact ⟨hi, by rw [Array.getD_eq_getD_getElem?, Array.getElem?_replicate]; simp [hi]⟩
    · exact fun h => h.1
  · intro k j hk hlk
    rw [Array.getD_eq_getD_getElem?, Array.getElem?_replicate] at hlk
    simp [hk] at hlk
  · have := evIx_range (P := P) (C := Runs P) (O := O) (q := q) (ops := ops) ops.toList 0 tm H tm' H' (by simp) h
    rw [List.range_eq_range']
    simpa using this

/-- What a piece of code comes to here, it comes to there. -/
def CodeOK (P : Program) (c : Code) (tm : List Value) (H : AHeap) (r : St) : Prop :=
  ∀ (a : Act) (m : Mp) (w : World), HR H m w → VRl m tm a.tmps.toList →
    c.wp P (fun e a' w' => e = exitOf r.1 ∧ a'.defers = a.defers ∧ ∃ m', VRl m' r.2.1 a'.tmps.toList ∧ HR r.2.2 m' w' ∧ Step H m w r.2.2 m' w') a w

theorem CodeOK.weaken {c : Code} {tm : List Value} {H : AHeap} {r : St} (h : CodeOK P c tm H r) {a : Act} {m : Mp} {w : World} (hr : HR H m w) (ht : VRl m tm a.tmps.toList) {Q : Exit → Act → World → Prop}
    (hQ : ∀ a' m' w', VRl m' r.2.1 a'.tmps.toList → a'.defers = a.defers → HR r.2.2 m' w' → Step H m w r.2.2 m' w' → Q (exitOf r.1) a' w') : c.wp P Q a w :=
  wp_mono (h a m w hr ht) fun e a' w' ⟨he, hd, m', h1, h2, h3⟩ => by subst he; exact hQ a' m' w' h1 hd h2 h3

theorem CodeOK.of {c : Code} {tm : List Value} {H : AHeap} {r : St} (h : ∀ (a : Act) (m : Mp) (w : World), HR H m w → VRl m tm a.tmps.toList → ∀ Q : Exit → Act → World → Prop,
    (∀ a' m' w', VRl m' r.2.1 a'.tmps.toList → a'.defers = a.defers → HR r.2.2 m' w' → Step H m w r.2.2 m' w' → Q (exitOf r.1) a' w') → c.wp P Q a w) : CodeOK P c tm H r :=
  fun a m w hr ht => h a m w hr ht _ fun a' m' w' h1 h2 h3 h4 => ⟨rfl, h2, m', h1, h3, h4⟩

theorem rds_sound {f : List Value → AHeap → St → Prop} {c : Code} (hf : ∀ tm H r, f tm H r → CodeOK P c tm H r) {tm : List Value} {H : AHeap} {r : St} (h : Rds f tm H r) : ∃ n, ∀ (a : Act) (m : Mp) (w : World), HR H m w → VRl m tm a.tmps.toList → ∀ Q : Exit → Act → World → Prop,
    (∀ a' m' w', VRl m' r.2.1 a'.tmps.toList → a'.defers = a.defers → HR r.2.2 m' w' → Step H m w r.2.2 m' w' → Q (exitOf r.1) a' w') → Code.rounds P c Q n a w := by
  induction h with
  | @next tm H tm1 H1 r h t ih =>
    obtain ⟨n, hn⟩ := ih
    refine ⟨n + 1, fun a m w hr ht Q hQ => ?_⟩
    rw [rounds_succ]
    refine (hf tm H _ h).weaken hr ht fun a' m' w' h1 h2 h3 h4 => ?_
    exact hn a' m' w' h3 h1 Q (fun a2 m2 w2 g1 g2 g3 g4 => hQ a2 m2 w2 g1 (g2.trans h2) g3 (h4.trans g4))
  | @last tm H r h hne =>
    refine ⟨1, fun a m w hr ht Q hQ => ?_⟩
    rw [rounds_succ]
    refine (hf tm H _ h).weaken hr ht fun a' m' w' h1 h2 h3 h4 => ?_
    have := hQ a' m' w' h1 h2 h3 h4
    cases he : r.1 with
    | normal => exact absurd he hne
    | exit id => rw [he] at this; exact this
    | ret => rw [he] at this; exact this
    | goto l => rw [he] at this; exact this

theorem CodeOK.seq {x y : Code} {tm tm1 : List Value} {H H1 : AHeap} {e : AExit} {r : St} (hx : CodeOK P x tm H (e, tm1, H1)) (h : match e with | .normal => CodeOK P y tm1 H1 r | _ => r = (e, tm1, H1)) : CodeOK P (.seq x y) tm H r := by
  refine .of fun a m w hr ht Q hQ => wp_seq ?_
  refine hx.weaken hr ht fun a' m' w' h1 h2 h3 h4 => ?_
  cases e with
  | normal =>
    exact CodeOK.weaken h h3 h1 (fun a2 m2 w2 g1 g2 g3 g4 => hQ a2 m2 w2 g1 (g2.trans h2) g3 (h4.trans g4))
  | exit id =>
    simp only at h; subst h; exact hQ a' m' w' h1 h2 h3 h4
  | ret =>
    simp only at h; subst h; exact hQ a' m' w' h1 h2 h3 h4
  | goto l =>
    simp only at h; subst h; exact hQ a' m' w' h1 h2 h3 h4

theorem evR_both {O : Orc} (hO : BaseOK P O) (hm : P.follows .mixedOrders = true) {q : FuncId → Nat} : ∀ (c : Code), (∀ (tm : List Value) (H : AHeap) (r : St), codeOk q c = true → evR P (Runs P) O q c tm H r → CodeOK P c tm H r) ∧
    ∀ (l : Nat) (tm : List Value) (H : AHeap) (r : St), codeOk q c = true → evJR P (Runs P) O q c l tm H r → ∃ rest, findLabel c l = some rest ∧ CodeOK P rest tm H r := by
  intro c
  induction c with
  | skip =>
    refine ⟨?_, fun l tm H r _ h => (by simp [evJR] at h)⟩
    intro tm H r _ h; simp only [evR] at h; subst h; exact .of fun a m w hr ht Q hQ => wp_skip (hQ a m w ht rfl hr (.refl _ _ _))
  | label l =>
    refine ⟨?_, ?_⟩
    · intro tm H r _ h; simp only [evR] at h; subst h; exact .of fun a m w hr ht Q hQ => wp_label (hQ a m w ht rfl hr (.refl _ _ _))
    · intro l' tm H r _ h
      unfold evJR at h
      obtain ⟨h1, rfl⟩ := h
      exact ⟨.skip, by simp only [findLabel, h1, if_true], .of fun a m w hr ht Q hQ => wp_skip (hQ a m w ht rfl hr (.refl _ _ _))⟩
  | exit id =>
    refine ⟨?_, fun l tm H r _ h => (by simp [evJR] at h)⟩
    intro tm H r _ h; simp only [evR] at h; subst h; exact .of fun a m w hr ht Q hQ => wp_exit (hQ a m w ht rfl hr (.refl _ _ _))
  | ret =>
    refine ⟨?_, fun l tm H r _ h => (by simp [evJR] at h)⟩
    intro tm H r _ h; simp only [evR] at h; subst h; exact .of fun a m w hr ht Q hQ => wp_ret (hQ a m w ht rfl hr (.refl _ _ _))
  | region id ops draw =>
    refine ⟨?_, fun l tm H r _ h => (by simp [evJR] at h)⟩
    intro tm H r hok h
    simp only [codeOk, Bool.and_eq_true, Bool.or_eq_true, Bool.not_eq_true'] at hok
    obtain ⟨tm', H', hops, rfl⟩ := h
    refine .of fun a m w hr ht Q hQ => ?_
    unfold regR at hops
    cases draw with
    | false =>
      simp only [Bool.false_and, Bool.false_eq_true, if_false] at hops
      exact wp_region_list (evOpsR_sound hO ops.toList tm H a m w hok.1 hr ht hops hQ)
    | true =>
      have hreg := hok.2.resolve_left (by simp)
      simp only [Bool.true_and] at hops
      cases hsp : special q ops with
      | false =>
        rw [hsp] at hops hreg
        exact wpAny_run hO hm hok.1 hreg hr ht hops hQ
      | true =>
        rw [hsp] at hops hreg
        exact wpAny_runF hO hm hok.1 hreg hsp hr ht hops.1 hops.2 hQ
  | seq x y ihx ihy =>
    refine ⟨?_, ?_⟩
    · intro tm H r hok h
      simp only [codeOk, Bool.and_eq_true] at hok
      unfold evR at h
      obtain ⟨⟨e, tm1, H1⟩, hx, h⟩ := h
      refine CodeOK.seq (ihx.1 tm H _ hok.1 hx) ?_
      cases e with
      | normal => exact ihy.1 tm1 H1 r hok.2 h
      | exit id => exact h
      | ret => exact h
      | goto l => exact h
    · intro l tm H r hok h
      simp only [codeOk, Bool.and_eq_true] at hok
      unfold evJR at h
      cases hf : findLabel x l with
      | some rest0 =>
        rw [hf] at h
        obtain ⟨⟨e, tm1, H1⟩, hx, h⟩ := h
        obtain ⟨rest, hr1, hr2⟩ := ihx.2 l tm H _ hok.1 hx
        refine ⟨.seq rest y, by simp only [findLabel, hr1], CodeOK.seq hr2 ?_⟩
        cases e with
        | normal => exact ihy.1 tm1 H1 r hok.2 h
        | exit id => exact h
        | ret => exact h
        | goto l => exact h
      | none =>
        rw [hf] at h
        obtain ⟨rest, hr1, hr2⟩ := ihy.2 l tm H r hok.2 h
        exact ⟨rest, by simp only [findLabel, hf, hr1], hr2⟩
  | cond c x y ihx ihy =>
    refine ⟨?_, fun l tm H r _ h => (by simp [evJR] at h)⟩
    intro tm H r hok h
    simp only [codeOk, Bool.and_eq_true] at hok
    simp only [evR] at h
    refine .of fun a m w hr ht Q hQ => ?_
    split at h
    · rename_i b hb
      have hc := evalT_rel ht hok.1.1
      rw [hb] at hc
      generalize hcv : a.eval c = cv at hc
      cases hc
      refine wp_cond hcv ?_
      cases b with
      | true => simp only [if_true] at h ⊢; exact (ihx.1 tm H r hok.1.2 h).weaken hr ht hQ
      | false => simp only [Bool.false_eq_true, if_false] at h ⊢; exact (ihy.1 tm H r hok.2 h).weaken hr ht hQ
    · exact h.elim
  | block id body ih =>
    refine ⟨?_, fun l tm H r _ h => (by simp [evJR] at h)⟩
    intro tm H r hok h
    simp only [codeOk] at hok
    obtain ⟨⟨e, tm1, H1⟩, hx, h⟩ := h
    refine .of fun a m w hr ht Q hQ => wp_block ?_
    refine (ih.1 tm H _ hok hx).weaken hr ht fun a' m' w' h1 h2 h3 h4 => ?_
    cases e with
    | normal => simp only at h; subst h; exact hQ a' m' w' h1 h2 h3 h4
    | exit id' =>
      simp only at h
      simp only [exitOf, Exit.inBlock]
      split at h
      · rename_i e; rw [if_pos e]; subst h; exact hQ a' m' w' h1 h2 h3 h4
      · rename_i e; rw [if_neg e]; subst h; exact hQ a' m' w' h1 h2 h3 h4
    | ret => simp only at h; subst h; exact hQ a' m' w' h1 h2 h3 h4
    | goto l => simp only at h; subst h; exact hQ a' m' w' h1 h2 h3 h4
  | loop body ih =>
    refine ⟨?_, fun l tm H r _ h => (by simp [evJR] at h)⟩
    intro tm H r hok h
    simp only [codeOk] at hok
    refine .of fun a m w hr ht Q hQ => ?_
    obtain ⟨n, hn⟩ := rds_sound (fun tm1 H1 r1 h1 => ih.1 tm1 H1 r1 hok h1) h
    exact wp_loop_rounds n (hn a m w hr ht Q hQ)
  | goto l =>
    refine ⟨?_, fun l tm H r _ h => (by simp [evJR] at h)⟩
    intro tm H r _ h; simp only [evR] at h; subst h; exact .of fun a m w hr ht Q hQ => wp_goto (hQ a m w ht rfl hr (.refl _ _ _))
  | scope c ih =>
    refine ⟨?_, fun l tm H r _ h => (by simp [evJR] at h)⟩
    intro tm H r hok h
    simp only [codeOk] at hok
    unfold evR at h
    obtain ⟨⟨e, tm1, H1⟩, hx, h⟩ := h
    refine .of fun a m w hr ht Q hQ => ?_
    cases e with
    | normal => simp only at h; subst h; exact wp_scope_straight ((ih.1 tm H _ hok hx).weaken hr ht hQ)
    | exit id => simp only at h; subst h; exact wp_scope_straight ((ih.1 tm H _ hok hx).weaken hr ht hQ)
    | ret => simp only at h; subst h; exact wp_scope_straight ((ih.1 tm H _ hok hx).weaken hr ht hQ)
    | goto l =>
      simp only at h
      obtain ⟨hj, hng⟩ := h
      obtain ⟨rest, hf, hrest⟩ := ih.2 l tm1 H1 r hok hj
      refine wp_scope_jumps l (fun a' w' => a'.defers = a.defers ∧ ∃ m', VRl m' tm1 a'.tmps.toList ∧ HR H1 m' w' ∧ Step H m w H1 m' w') (fun _ _ => 0) hf ?_ ?_
      · exact (ih.1 tm H _ hok hx).weaken hr ht fun a' m' w' h1 h2 h3 h4 => ⟨rfl, h2, m', h1, h3, h4⟩
      · rintro a1 w1 ⟨g1, m1, g2, g3, g4⟩
        refine hrest.weaken g3 g2 fun a' m' w' h1 h2 h3 h4 => ?_
        have := hQ a' m' w' h1 (h2.trans g1) h3 (g4.trans h4)
        cases he : r.1 with
        | normal => rw [he] at this; exact this
        | exit id => rw [he] at this; exact this
        | ret => rw [he] at this; exact this
        | goto l' => exact absurd he (hng l')
  | _ =>
    refine ⟨fun tm H r _ h => (by simp [evR] at h), fun l tm H r _ h => (by simp [evJR] at h)⟩


theorem evR_sound {O : Orc} (hO : BaseOK P O) (hm : P.follows .mixedOrders = true) {q : FuncId → Nat} (c : Code) (tm : List Value) (H : AHeap) (r : St) (hok : codeOk q c = true) (h : evR P (Runs P) O q c tm H r) : CodeOK P c tm H r := (evR_both hO hm c).1 tm H r hok h

theorem res_sound {H : AHeap} {m : Mp} {w : World} (hr : HR H m w) {tm : List Value} {a : Act} (ht : VRl m tm a.tmps.toList) : ∀ (rs : List ResultVar) (vs : List Value), resList P H tm rs = some vs →
    ∃ vs', (rs.mapM (fun | .tmp t => pure (a.tmps.getD t undef) | .cell x t => do loadVar t (← asAddr (a.tmps.getD x undef)) : ResultVar → Sem Value)).run P w = .ok vs' w ∧ VRl m vs vs'
  | [], vs, h => by simp only [resList] at h; injection h with h; subst h; exact ⟨[], rfl, .nil⟩
  | r :: rs, vs, h => by
    simp only [resList] at h
    split at h
    · rename_i v hv
      split at h
      · rename_i us hus
        injection h with h; subst h
        obtain ⟨us', h1, h2⟩ := res_sound hr ht rs us hus
        cases r with
        | tmp t =>
          simp only [resOne] at hv
          injection hv with hv; subst hv
          have := evalT_rel ht (x := .tmp t) rfl
          refine ⟨a.tmps.getD t undef :: us', ?_, .cons this h2⟩
          simp only [List.mapM_cons, Sem.run_bind, Sem.run_pure, Result.andThen_ok, h1]
        | cell x t =>
          simp only [resOne] at hv
          split at hv
          · rename_i ad had
            have := evalT_rel ht (x := .tmp x) rfl
            simp only [evalT, Act.eval] at this
            rw [had] at this
            generalize hcv : a.tmps.getD x undef = cv at this
            cases this with
            | @ptr _ a' ha =>
              obtain ⟨v', h3, h4⟩ := run_loadVar (P := P) hr ha hv
              refine ⟨v' :: us', ?_, .cons h4 h2⟩
              have had' : (asAddr (.pointer (some a'))).run P w = .ok a' w := rfl
              simp only [List.mapM_cons, Sem.run_bind, hcv, had', Sem.run_pure, Result.andThen_ok, h3, h1]
          · cases hv
      · cases h
    · cases h

theorem resV_sound {fn : Func} {H : AHeap} {m : Mp} {w : World} (hr : HR H m w) {tm : List Value} {a : Act} (ht : VRl m tm a.tmps.toList) {v : Value} (h : resV P H tm fn.results.toList = some v) :
    ∃ v', (results fn a.tmps).run P w = .ok v' w ∧ VR m v v' := by
  unfold resV at h
  have hm : ∀ vs', (fn.results.toList.mapM (fun | .tmp t => pure (a.tmps.getD t undef) | .cell x t => do loadVar t (← asAddr (a.tmps.getD x undef)) : ResultVar → Sem Value)).run P w = .ok vs' w →
      (results fn a.tmps).run P w = .ok (if h : vs'.toArray.size = 1 then vs'.toArray[0] else .tuple vs'.toArray) w := by
    intro vs' hvs
    unfold results
    rw [Array.mapM_eq_mapM_toList, Sem.run_bind, Sem.run_map]
    erw [hvs]
    rfl
  split at h
  · rename_i u hu
    injection h with h; subst h
    obtain ⟨vs', h1, h2⟩ := res_sound hr ht _ _ hu
    cases h2 with
    | @cons _ y _ ys hxy htl =>
      cases htl
      exact ⟨y, by rw [hm _ h1]; rfl, hxy⟩
  · rename_i us hne hus
    injection h with h; subst h
    obtain ⟨vs', h1, h2⟩ := res_sound hr ht _ _ hus
    have hlen : vs'.length ≠ 1 := by
      intro hl
      rw [← h2.length] at hl
      match us, hl with
      | [u], _ => exact hne u rfl
    refine ⟨.tuple vs'.toArray, by rw [hm _ h1, dif_neg (by simpa using hlen)], .tuple' h2.arr⟩
  · cases h

theorem run_callFunc {f : FuncId} {fn : Func} (hf : P.funcs[f]? = some fn) (hb : fn.body.isSome = true) (hn : fn.name ≠ "runtime.NumGoroutine") (args : Array Value) (w : World) : (callFunc f args).run P w = .ok (.enter f args) w := by
  obtain ⟨c, hc⟩ := Option.isSome_iff_exists.1 hb
  simp [callFunc, hf, hn, hc]

/-- A FUNCTION, by its code's relation. -/
theorem runs_of {O : Orc} (hO : BaseOK P O) (hm : P.follows .mixedOrders = true) {q : FuncId → Nat} {f : FuncId} {fn : Func} {c : Code} (hf : P.funcs[f]? = some fn) (hb : fn.body = some c) (hn : fn.name ≠ "runtime.NumGoroutine")
    (hc : codeOk q c = true) {args : Array Value} {H H' : AHeap} {v : Value} {e : AExit} {tm : List Value} (h : evR P (Runs P) O q c (args.toList ++ List.replicate (fn.ntmps - args.size) undef) H (e, tm, H'))
    (he : ∀ id, e ≠ .exit id) (hg : ∀ l, e ≠ .goto l) (hv : resV P H' tm fn.results.toList = some v) : Runs P f args H v H' := by
  intro m w args' hr hargs
  refine ⟨fun w => run_callFunc hf (by simp [hb]) hn args' w, ?_⟩
  refine calls_of_wp hf hb ?_
  have ht : VRl m (args.toList ++ List.replicate (fn.ntmps - args.size) undef) (args' ++ Array.replicate (fn.ntmps - args'.size) undef).toList := by
    simp only [Array.toList_append, Array.toList_replicate, ← hargs.1]
    refine hargs.list.append ?_
    induction (fn.ntmps - args.size) with
    | zero => exact .nil
    | succ k ih => exact .cons (.undef m) ih
  refine (evR_sound hO hm c _ H _ hc h).weaken hr (a := { tmps := args' ++ Array.replicate (fn.ntmps - args'.size) undef, defers := [] }) ht fun a' m' w' h1 h2 h3 h4 => ?_
  have fin : a'.defers = [] ∧ ∃ u, (results fn a'.tmps).run P w' = .ok u w' ∧ ∃ v' m', Ending.returned u = .returned v' ∧ VR m' v v' ∧ HR H' m' w' ∧ Step H m w H' m' w' := by
    obtain ⟨v', g1, g2⟩ := resV_sound h3 h1 hv
    exact ⟨h2, v', g1, v', m', rfl, g2, h3, h4⟩
  cases e with
  | normal => exact fin
  | exit id => exact absurd rfl (he id)
  | goto l => exact absurd rfl (hg l)
  | ret => exact fin

/-! ### the interpreter as a function gives the relation -/

theorem callV_rel {O : Orc} (hO : OrcOK P O) {q : FuncId → Nat} {g : FuncId} {args : Array Value} {H H' : AHeap} {v : Value} (h : callV O q g args H = some (v, H')) : callR (Runs P) O q g args H v H' := by
  unfold callV at h
  unfold callR
  cases hrow : O.row g args with
  | some u =>
    rw [hrow] at h
    injection h with h; simp only [Prod.mk.injEq] at h; exact ⟨h.1.symm, h.2.symm⟩
  | none =>
    rw [hrow] at h
    simp only at h ⊢
    by_cases q1 : q g = 1
    · rw [q1] at h ⊢
      simp only at h ⊢
      split at h
      · rename_i hcl
        split at h
        · rename_i v1 H2 hc
          split at h
          · rename_i hv
            injection h with h; simp only [Prod.mk.injEq] at h; obtain ⟨rfl, rfl⟩ := h
            exact ⟨hcl, hv, rfl, H2, hO.call _ _ _ _ _ hc⟩
          · cases h
        · cases h
      · cases h
    by_cases q2 : q g = 2
    · rw [q2] at h ⊢
      simp only at h ⊢
      split at h
      · rename_i v1 H1 hc
        split at h
        · rename_i hcond
          simp only [Bool.and_eq_true, decide_eq_true_eq] at hcond
          injection h with h; simp only [Prod.mk.injEq] at h; obtain ⟨rfl, rfl⟩ := h
          exact ⟨H1, hO.call _ _ _ _ _ hc, hcond.1, hcond.2, rfl⟩
        · cases h
      · cases h
    by_cases q3 : q g = 3
    · rw [q3] at h ⊢
      simp only at h ⊢
      split at h
      · rename_i v1 H1 hc
        split at h
        · rename_i hv
          injection h with h; simp only [Prod.mk.injEq] at h; obtain ⟨rfl, rfl⟩ := h
          exact ⟨hv, rfl, H1, hO.call _ _ _ _ _ hc⟩
        · cases h
      · cases h
    · generalize q g = k at *
      match k, q1, q2, q3 with
      | 0, _, _, _ => exact hO.call _ _ _ _ _ h
      | 1, q1, _, _ => exact absurd rfl q1
      | 2, _, q2, _ => exact absurd rfl q2
      | 3, _, _, q3 => exact absurd rfl q3
      | n + 4, _, _, _ => exact hO.call _ _ _ _ _ h

theorem exec1_rel {O : Orc} (hO : OrcOK P O) {q : FuncId → Nat} {o : Oper} {ρ : Operand → Value} {H H' : AHeap} {v : Value} (h : exec1 P O q ρ H o = some (v, H')) : exR P (Runs P) O q ρ H o v H' := by
  rcases valueCall o with ⟨c, f, hop, hcal⟩ | hno
  · unfold exR
    simp only [exec1, hop, hcal] at h
    simp only [hop, hcal]
    split at h
    · rename_i g us vs hx
      split at h
      · exact ⟨.inl rfl, callV_rel hO h⟩
      · split at h
        · rename_i hq; exact ⟨.inr hq, callV_rel hO h⟩
        · cases h
    · cases h
  · rw [exR_other hno]
    have : exec1 P (noCall O) q ρ H o = exec1 P O q ρ H o := by
      unfold exec1
      cases hop : o.op with
      | call c =>
        simp only
        cases hc : c.callee with
        | value f => exact absurd hc (hno c f hop)
        | invoke r n => rfl
        | builtin b => cases b <;> rfl
      | _ => rfl
    rw [this]; exact h

theorem evOps_rel {O : Orc} (hO : OrcOK P O) {q : FuncId → Nat} {ops : Array Oper} : ∀ (l : List Oper) (tm : List Value) (H : AHeap) {tm' H'}, evOps P O q ops l tm H = some (tm', H') → evOpsR P (Runs P) O q ops l tm H tm' H'
  | [], tm, H, tm', H', h => by
    simp only [evOps] at h
    injection h with h; simp only [Prod.mk.injEq] at h; exact ⟨h.1.symm, h.2.symm⟩
  | o :: rest, tm, H, tm', H', h => by
    simp only [evOps] at h
    unfold evOpsR
    by_cases hw : wantedL ops o tm = true
    · rw [if_pos hw] at h
      cases hx : exec1 P O q (evalT tm) H o with
      | none => rw [hx] at h; cases h
      | some r =>
        obtain ⟨v, H1⟩ := r
        rw [hx] at h
        simp only [forceV_eq] at h
        exact ⟨v, H1, by unfold outR; rw [if_pos hw]; exact exec1_rel hO hx, evOps_rel hO rest _ _ h⟩
    · rw [if_neg hw] at h
      split at h
      · rename_i hg
        exact ⟨undef, H, by unfold outR; rw [if_neg hw]; exact ⟨rfl, rfl, hg⟩, evOps_rel hO rest _ _ h⟩
      · cases h

theorem kept_eq (H : AHeap) (ops : Array Oper) : kept H ops = (H.toList ++ List.replicate (countB isMk ops.toList) none).toArray := by
  unfold kept
  apply Array.ext'
  simp

theorem execF_rel {O : Orc} (hO : OrcOK P O) {q : FuncId → Nat} {ops : Array Oper} {k : Nat} {o : Oper} {tm : List Value} {H H' : AHeap} {v : Value} (hw : wantedL ops o tm = true)
    (h : execF P O q k (evalT tm) H o = some (v, H')) : outF P (Runs P) O q ops k o tm H v H' := by
  unfold outF
  rw [if_pos hw]
  unfold execF at h
  split at h
  · rename_i v0 H0 hx
    split at h
    · rename_i hm
      rw [if_pos hm]
      exact ⟨v0, H0, exec1_rel hO hx, h⟩
    · rename_i hm
      rw [if_neg hm]
      injection h with h
      simp only [Prod.mk.injEq] at h
      obtain ⟨rfl, rfl⟩ := h
      exact exec1_rel hO hx
  · cases h

theorem evOpsF_rel {O : Orc} (hO : OrcOK P O) {q : FuncId → Nat} {ops : Array Oper} : ∀ (l : List Oper) (k : Nat) (tm : List Value) (H : AHeap) {tm' H'}, evOpsF P O q ops l k tm H = some (tm', H') → evOpsFR P (Runs P) O q ops l k tm H tm' H'
  | [], k, tm, H, tm', H', h => by
    simp only [evOpsF] at h
    injection h with h; simp only [Prod.mk.injEq] at h; exact ⟨h.1.symm, h.2.symm⟩
  | o :: rest, k, tm, H, tm', H', h => by
    simp only [evOpsF] at h
    unfold evOpsFR
    by_cases hw : wantedL ops o tm = true
    · rw [if_pos hw] at h
      cases hx : execF P O q k (evalT tm) H o with
      | none => rw [hx] at h; cases h
      | some r =>
        obtain ⟨v, H1⟩ := r
        rw [hx] at h
        exact ⟨v, H1, execF_rel hO hw hx, evOpsF_rel hO rest _ _ _ h⟩
    · rw [if_neg hw] at h
      split at h
      · rename_i hg
        refine ⟨undef, H, ?_, evOpsF_rel hO rest _ _ _ h⟩
        unfold outF
        rw [if_neg hw]
        exact ⟨rfl, rfl, hg⟩
      · cases h

theorem ev_both {O : Orc} (hO : OrcOK P O) {q : FuncId → Nat} (n : Nat) : ∀ (c : Code), (∀ (tm : List Value) (H : AHeap) (r : St), ev P O q n c tm H = some r → evR P (Runs P) O q c tm H r) ∧
    ∀ (l : Nat) (tm : List Value) (H : AHeap) (r : St), evJ P O q n c l tm H = some r → evJR P (Runs P) O q c l tm H r := by
  intro c
  induction c with
  | skip =>
    refine ⟨?_, fun l tm H r h => (by simp [evJ] at h)⟩
    intro tm H r h; simp only [ev] at h; injection h with h; exact h.symm
  | label l =>
    refine ⟨?_, ?_⟩
    · intro tm H r h; simp only [ev] at h; injection h with h; exact h.symm
    · intro l' tm H r h
      simp only [evJ] at h
      unfold evJR
      split at h
      · rename_i hl; injection h with h; exact ⟨hl, h.symm⟩
      · cases h
  | exit id =>
    refine ⟨?_, fun l tm H r h => (by simp [evJ] at h)⟩
    intro tm H r h; simp only [ev] at h; injection h with h; exact h.symm
  | ret =>
    refine ⟨?_, fun l tm H r h => (by simp [evJ] at h)⟩
    intro tm H r h; simp only [ev] at h; injection h with h; exact h.symm
  | region id ops draw =>
    refine ⟨?_, fun l tm H r h => (by simp [evJ] at h)⟩
    intro tm H r h
    simp only [ev] at h
    split at h
    · rename_i hc
      split at h
      · rename_i tm' H' hops
        split at h
        · rename_i hd
          injection h with h
          refine ⟨tm', H', ?_, h.symm⟩
          unfold regR
          rw [if_pos hc]
          rw [← kept_eq] at hops
          exact ⟨evOpsF_rel hO _ _ _ _ hops, hd⟩
        · cases h
      · cases h
    · rename_i hc
      cases hops : evOps P O q ops ops.toList tm H with
      | none => rw [hops] at h; cases h
      | some x =>
        obtain ⟨tm', H'⟩ := x
        rw [hops] at h
        simp only at h
        injection h with h
        refine ⟨tm', H', ?_, h.symm⟩
        unfold regR
        rw [if_neg hc]
        exact evOps_rel hO _ _ _ hops
  | seq x y ihx ihy =>
    refine ⟨?_, ?_⟩
    · intro tm H r h
      simp only [ev] at h
      cases hx : ev P O q n x tm H with
      | none => rw [hx] at h; cases h
      | some r1 =>
        rw [hx] at h
        obtain ⟨e, tm1, H1⟩ := r1
        refine ⟨_, ihx.1 tm H _ hx, ?_⟩
        cases e with
        | normal => exact ihy.1 tm1 H1 r h
        | exit id => simp only at h; injection h with h; exact h.symm
        | ret => simp only at h; injection h with h; exact h.symm
        | goto l => simp only at h; injection h with h; exact h.symm
    · intro l tm H r h
      simp only [evJ] at h
      unfold evJR
      split at h
      · rename_i rest hf
        cases hx : evJ P O q n x l tm H with
        | none => rw [hx] at h; cases h
        | some r1 =>
          rw [hx] at h
          obtain ⟨e, tm1, H1⟩ := r1
          refine ⟨_, ihx.2 l tm H _ hx, ?_⟩
          cases e with
          | normal => exact ihy.1 tm1 H1 r h
          | exit id => simp only at h; injection h with h; exact h.symm
          | ret => simp only at h; injection h with h; exact h.symm
          | goto l => simp only at h; injection h with h; exact h.symm
      · rename_i hf
        exact ihy.2 l tm H r h
  | cond c x y ihx ihy =>
    refine ⟨?_, fun l tm H r h => (by simp [evJ] at h)⟩
    intro tm H r h
    simp only [ev] at h
    unfold evR
    split at h
    · rename_i b hb
      cases b with
      | true => simp only [if_true] at h ⊢; exact ihx.1 tm H r h
      | false => simp only [Bool.false_eq_true, if_false] at h ⊢; exact ihy.1 tm H r h
    · cases h
  | block id body ih =>
    refine ⟨?_, fun l tm H r h => (by simp [evJ] at h)⟩
    intro tm H r h
    simp only [ev] at h
    cases hx : ev P O q n body tm H with
    | none => rw [hx] at h; cases h
    | some r1 =>
      rw [hx] at h
      obtain ⟨e, tm1, H1⟩ := r1
      refine ⟨_, ih.1 tm H _ hx, ?_⟩
      cases e with
      | normal => simp only at h; injection h with h; exact h.symm
      | exit id' =>
        simp only at h ⊢
        split at h
        · rename_i e; rw [if_pos e]; injection h with h; exact h.symm
        · rename_i e; rw [if_neg e]; injection h with h; exact h.symm
      | ret => simp only at h; injection h with h; exact h.symm
      | goto l => simp only at h; injection h with h; exact h.symm
  | loop body ih =>
    refine ⟨?_, fun l tm H r h => (by simp [evJ] at h)⟩
    intro tm H r h
    simp only [ev] at h
    unfold evR
    generalize hf : ev P O q n body = f at h
    have ih' : ∀ tm H r, f tm H = some r → evR P (Runs P) O q body tm H r := fun tm H r hh => ih.1 tm H r (by rw [hf]; exact hh)
    clear hf ih
    induction n generalizing tm H with
    | zero => cases h
    | succ k ihk =>
      simp only [loopN] at h
      split at h
      · rename_i tm1 H1 hb; exact .next (ih' tm H _ hb) (ihk tm1 H1 h)
      · rename_i hne
        refine .last (ih' tm H r h) fun he => ?_
        obtain ⟨e, tm1, H1⟩ := r
        simp only at he
        subst he
        exact hne tm1 H1 h
  | goto l =>
    refine ⟨?_, fun l tm H r h => (by simp [evJ] at h)⟩
    intro tm H r h; simp only [ev] at h; injection h with h; exact h.symm
  | scope c ih =>
    refine ⟨?_, fun l tm H r h => (by simp [evJ] at h)⟩
    intro tm H r h
    simp only [ev] at h
    unfold evR
    cases hx : ev P O q n c tm H with
    | none => rw [hx] at h; cases h
    | some r1 =>
      rw [hx] at h
      obtain ⟨e, tm1, H1⟩ := r1
      refine ⟨_, ih.1 tm H _ hx, ?_⟩
      cases e with
      | normal => simp only at h; injection h with h; exact h.symm
      | exit id => simp only at h; injection h with h; exact h.symm
      | ret => simp only at h; injection h with h; exact h.symm
      | goto l =>
        simp only at h ⊢
        cases hj : evJ P O q n c l tm1 H1 with
        | none => rw [hj] at h; cases h
        | some r2 =>
          rw [hj] at h
          obtain ⟨e2, tm2, H2⟩ := r2
          cases e2 with
          | goto l' => cases h
          | normal => simp only at h; injection h with h; subst h; exact ⟨ih.2 l tm1 H1 _ hj, fun l' => by simp⟩
          | exit id => simp only at h; injection h with h; subst h; exact ⟨ih.2 l tm1 H1 _ hj, fun l' => by simp⟩
          | ret => simp only at h; injection h with h; subst h; exact ⟨ih.2 l tm1 H1 _ hj, fun l' => by simp⟩
  | _ =>
    refine ⟨fun tm H r h => (by simp [ev] at h), fun l tm H r h => (by simp [evJ] at h)⟩


theorem ev_rel {O : Orc} (hO : OrcOK P O) {q : FuncId → Nat} (n : Nat) (c : Code) (tm : List Value) (H : AHeap) (r : St) (h : ev P O q n c tm H = some r) : evR P (Runs P) O q c tm H r := (ev_both hO n c).1 tm H r h

theorem evFunc_sound {O : Orc} (hO : OrcOK P O) (hm : P.follows .mixedOrders = true) {q : FuncId → Nat} {n : Nat} {f : FuncId} {fn : Func} {c : Code} (hf : P.funcs[f]? = some fn) (hb : fn.body = some c) (hn : fn.name ≠ "runtime.NumGoroutine")
    (hc : codeOk q c = true) {args : Array Value} {H H' : AHeap} {v : Value} (h : evFunc P O q n f args H = some (v, H')) : Runs P f args H v H' := by
  unfold evFunc at h
  simp only [hf, hb] at h
  cases hev : ev P O q n c (args.toList ++ List.replicate (fn.ntmps - args.size) undef) H with
  | none => rw [hev] at h; cases h
  | some r =>
    rw [hev] at h
    obtain ⟨e, tm, H1⟩ := r
    have hrel := ev_rel hO n c _ H _ hev
    cases e with
    | exit id => cases h
    | normal =>
      obtain ⟨rfl, e2⟩ := map_fst h
      exact runs_of hO.base hm hf hb hn hc hrel (fun _ => by simp) (fun _ => by simp) e2
    | goto l => cases h
    | ret =>
      obtain ⟨rfl, e2⟩ := map_fst h
      exact runs_of hO.base hm hf hb hn hc hrel (fun _ => by simp) (fun _ => by simp) e2

/-- The functions that were looked at. -/
def FsOK (P : Program) (q : FuncId → Nat) (fs : FuncId → Bool) : Prop := ∀ f, fs f = true → ∃ fn c, P.funcs[f]? = some fn ∧ fn.body = some c ∧ codeOk q c = true ∧ fn.name ≠ "runtime.NumGoroutine"

theorem callN_sound {prim : Orc} (hO : OrcOK P prim) (hm : P.follows .mixedOrders = true) {q : FuncId → Nat} {fs : FuncId → Bool} (hfs : FsOK P q fs) (n : Nat) : ∀ (d : Nat) (f : FuncId) (args : Array Value) (H : AHeap) (v : Value) (H' : AHeap),
    callN P prim q fs n d f args H = some (v, H') → Runs P f args H v H'
  | 0, f, args, H, v, H', h => hO.call f args H v H' h
  | d + 1, f, args, H, v, H', h => by
    simp only [callN] at h
    split at h
    · rename_i r hr
      injection h with h; subst h
      exact hO.call f args H v H' hr
    · split at h
      · rename_i hf
        obtain ⟨fn, c, h1, h2, h3, h4⟩ := hfs f hf
        exact evFunc_sound (O := { prim with call := callN P prim q fs n d }) ⟨fun f args H v H' hh => callN_sound hO hm hfs n d f args H v H' hh, hO.row, hO.bin⟩ hm h1 h2 h4 h3 h
      · cases h

end
end Go.Proofs.YtameamgamdaibaaDoor

/-!  The interpreter with questions: a call of one that is asked for takes its answer from a list, and what must hold of it is written down. -/
namespace Go.Proofs.YtameamgamdaibaaDoor
open Go
set_option linter.unusedVariables false

/-- An answer: the value, by how many blocks there are, and the blocks that are new. -/
structure Ans where
  v : Nat → Value
  bs : List (Option ABlk)

/-- What must hold: this call, in this memory, returns this, and leaves this; or: this comparison comes out so. -/
inductive Obl where
  | run (f : FuncId) (args : Array Value) (H : AHeap) (v : Value) (H' : AHeap)
  | cmp (op : BinOp) (t : TypeId) (a b : Value) (c : Bool)
  | row (r : FuncId → Array Value → Option Value) (f : FuncId) (args : Array Value) (v : Value)
  | bin (r : BinOp → TypeId → Value → Value → Option Value) (op : BinOp) (t : TypeId) (a b : Value) (c : Bool)
  | ex (p : Prop)

def cmpV (P : Program) (op : BinOp) (t : TypeId) (a b : Value) : Option Bool :=
  match a, b with
  | .float k u, .float k' v => if k = k' then (if isArith op then none else fcmp op k u v) else none
  | .int k m, .int k' n => match pureV P (binOp op t (.int k m) (.int k' n)) with
    | some (.bool c) => some c
    | _ => none
  | _, _ => none

def Obl.ok (P : Program) : Obl → Prop
  | .run f args H v H' => Runs P f args H v H'
  | .cmp op t a b c => cmpV P op t a b = some c
  | .row r f args v => r f args = some v
  | .bin r op t a b c => r op t a b = some (.bool c)
  | .ex p => p

/-- All of them. -/
def okAll (P : Program) : List Obl → Prop
  | [] => True
  | o :: l => o.ok P ∧ okAll P l

theorem okAll.all {P : Program} : ∀ {l : List Obl}, okAll P l → ∀ o ∈ l, o.ok P
  | [], _, o, h => by cases h
  | a :: l, h, o, ho => by
    rcases List.mem_cons.1 ho with rfl | ho
    · exact h.1
    · exact okAll.all h.2 o ho

def isCmp : BinOp → Bool
  | .eql | .neq | .lss | .leq | .gtr | .geq => true
  | _ => false

def askV (q : FuncId → Nat) (g : FuncId) (args : Array Value) (H : AHeap) (a : Ans) : Option (Value × AHeap × Obl) :=
  match q g with
  | 1 => if closA args && closN 4 (a.v 0) then some (a.v 0, H, .run g args #[] (a.v 0) #[]) else none
  | 2 =>
    let H1 := (froze H) ++ a.bs.toArray
    if decide (H.size ≤ H1.size) && (H1.toList.drop H.size).all isOwn then some (a.v H.size, thaw H H1, .run g args (froze H) (a.v H.size) H1) else none
  | 3 => if closN 4 (a.v 0) then (if closA args then some (a.v 0, H, .run g args #[] (a.v 0) #[]) else some (a.v 0, H, .run g args (froze H) (a.v 0) (froze H))) else none
  | 0 => some (a.v H.size, a.bs.toArray, .run g args H (a.v H.size) a.bs.toArray)
  | _ => none

/-- A call that is walked with questions. -/
abbrev CallL := FuncId → Array Value → AHeap → List Ans → Option (Value × AHeap × List Ans × List Obl)

def deepV (C : CallL) (q : FuncId → Nat) (g : FuncId) (args : Array Value) (H : AHeap) (s : List Ans) : Option (Value × AHeap × List Ans × List Obl) :=
  match q g with
  | 1 => if closA args then
      match C g args #[] s with
      | some (v, _, s', l) => if closN 4 v then some (v, H, s', l) else none
      | none => none
    else none
  | 2 => match C g args (froze H) s with
    | some (v, H1, s', l) => if decide (H.size ≤ H1.size) && (H1.toList.drop H.size).all isOwn then some (v, thaw H H1, s', l) else none
    | none => none
  | 3 => match C g args (froze H) s with
    | some (v, _, s', l) => if closN 4 v then some (v, H, s', l) else none
    | none => none
  | 0 => C g args H s
  | _ => none

def asked (O : Orc) (q : FuncId → Nat) (ask : FuncId → Nat) (ρ : Operand → Value) (o : Oper) : Option (Nat × FuncId × Array Value) :=
  match o.op with
  | .call c => match c.callee with
    | .value f => match ρ f with
      | .func (.func g) first captured =>
        if ((isFunc f && (ask g != 0)) || ((ask g == 4 || ask g == 5) && (q g == 3))) && (O.row g (first.toList ++ c.args.toList.map ρ ++ captured.toList).toArray).isNone then some (if ask g = 5 then 1 else ask g, g, (first.toList ++ c.args.toList.map ρ ++ captured.toList).toArray) else none
      | _ => none
    | _ => none
  | _ => none

/-- A call of one of the model's own rows, that is asked for (3). -/
def askedR (ask : FuncId → Nat) (ρ : Operand → Value) (o : Oper) : Option (FuncId × Array Value) :=
  match o.op with
  | .call c => match c.callee with
    | .value f => match ρ f with
      | .func (.func g) first captured => if isFunc f && (ask g == 3) then some (g, (first.toList ++ c.args.toList.map ρ ++ captured.toList).toArray) else none
      | _ => none
    | _ => none
  | _ => none

def askedC (askC : BinOp → Value → Value → Bool) (ρ : Operand → Value) (o : Oper) : Option (BinOp × TypeId × Value × Value) :=
  match o.op with
  | .binOp op t x y _ => if isCmp op && askC op (ρ x) (ρ y) then some (op, t, ρ x, ρ y) else none
  | _ => none

/-- A comparison of two that have parts, or are true or false, by the row that the base has for it. -/
def askedB (askC : BinOp → Value → Value → Bool) (ρ : Operand → Value) (o : Oper) : Option (BinOp × TypeId × Value × Value) :=
  match o.op with
  | .binOp op t x y _ => match ρ x, ρ y with
    | .agg u, .agg v => if askC op (.agg u) (.agg v) then some (op, t, .agg u, .agg v) else none
    | .bool u, .bool v => if askC op (.bool u) (.bool v) then some (op, t, .bool u, .bool v) else none
    | .string u, .string v => if isCmp op && askC op (.string u) (.string v) then some (op, t, .string u, .string v) else none
    | _, _ => none
  | _ => none

/-- An operation that is asked for by its slot: that which it writes, or, of a store, that of the place. -/
def askSlot (ask : FuncId → Nat) (o : Oper) : Bool :=
  match o.dst with
  | some d => ask (1000000 + d) == 7
  | none => match o.op with
    | .store _ (.tmp d) _ => ask (1000000 + d) == 7
    | _ => false
/-- Its answer: the value, of one that writes memory the whole memory behind it; and what must hold. -/
def askOp (P : Program) (O : Orc) (ρ : Operand → Value) (H : AHeap) (o : Oper) (a : Ans) : Option (Value × AHeap × Prop) :=
  match o.op with
  | .load t x => match ρ x with
    | .pointer (some ad) => some (a.v 0, H, readVar P H t ad = some (a.v 0))
    | _ => none
  | .store t x y => match ρ x with
    | .pointer (some ad) => some (undef, a.bs.toArray, writeVar P H t ad (ρ y) = some a.bs.toArray)
    | _ => none
  | .indexAddr t x i => some (a.v 0, H, indexAddrV P t (ρ x) (ρ i) = some (a.v 0))
  | .index t x i => some (a.v 0, H, indexV P t (ρ x) (ρ i) = some (a.v 0))
  | .fieldAddr st x f => some (a.v 0, H, fieldAddrV P st (ρ x) f = some (a.v 0))
  | .slice t x lo hi mx => some (a.v 0, H, sliceV P t (ρ x) (lo.map ρ) (hi.map ρ) (mx.map ρ) = some (a.v 0))
  | .binOp op t x y _ => match ρ x, ρ y with
    | .int k m, .int k' n => some (a.v 0, H, pureV P (binOp op t (.int k m) (.int k' n)) = some (a.v 0))
    | .string u, .string v => some (a.v 0, H, O.bin op t (.string u) (.string v) = some (a.v 0))
    | _, _ => none
  | .convert s d x => if d == tBy then some (a.v 0, a.bs.toArray, bytesV P H s d (ρ x) = some (a.v 0, a.bs.toArray)) else if s == tBy then some (a.v 0, H, strV P H s d (ρ x) = some (a.v 0)) else some (a.v 0, H, convV P s d (ρ x) = some (a.v 0))
  | .makeSlice t l c => some (a.v 0, a.bs.toArray, makeSliceV P H t (ρ l) (ρ c) = some (a.v 0, a.bs.toArray))
  | .call c => match c.callee with
    | .builtin .append => match c.args.toList, c.argTypes.toList with
      | [s, x], [t, t2] => some (a.v 0, a.bs.toArray, appendV P H t t2 (ρ s) (ρ x) = some (a.v 0, a.bs.toArray))
      | _, _ => none
    | _ => none
  | _ => none

def exec1L (C : CallL) (P : Program) (O : Orc) (q : FuncId → Nat) (ask : FuncId → Nat) (askC : BinOp → Value → Value → Bool) (ρ : Operand → Value) (H : AHeap) (s : List Ans) (o : Oper) : Option (Value × AHeap × List Ans × List Obl) :=
  match askSlot ask o with
  | true => match s with
    | a :: s' => match askOp P O ρ H o a with
      | some (v, H', p) => some (v, H', s', [.ex p])
      | none => none
    | [] => none
  | false =>
  match askedR ask ρ o with
  | some (g, args) => match s with
    | a :: s' => some (a.v 0, H, s', [.row O.row g args (a.v 0)])
    | [] => none
  | none =>
  match asked O q ask ρ o with
  | some (1, g, args) => match s with
    | a :: s' => match askV q g args H a with
      | some (v, H', ob) => some (v, H', s', [ob])
      | none => none
    | [] => none
  | some (_, g, args) => deepV C q g args H s
  | none => match askedB askC ρ o with
    | some (op, t, a, b) => match s with
      | an :: s' => match an.v 0 with
        | .bool c => some (.bool c, H, s', [.bin O.bin op t a b c])
        | _ => none
      | [] => none
    | none => match askedC askC ρ o with
    | some (op, t, a, b) => match s with
      | an :: s' => match an.v 0 with
        | .bool c => some (.bool c, H, s', [.cmp op t a b c])
        | _ => none
      | [] => none
    | none => match exec1 P O q ρ H o with
      | some (v, H') => some (v, H', s, [])
      | none => none

def evOpsL (C : CallL) (P : Program) (O : Orc) (q : FuncId → Nat) (ask : FuncId → Nat) (askC : BinOp → Value → Value → Bool) (ops : Array Oper) : List Oper → List Value → AHeap → List Ans → Option (List Value × AHeap × List Ans × List Obl)
  | [], tm, H, s => some (tm, H, s, [])
  | o :: rest, tm, H, s =>
    if wantedL ops o tm then
      match exec1L C P O q ask askC (evalT tm) H s o with
      | some (v, H', s', l) => match evOpsL C P O q ask askC ops rest (putT tm o.dst v) H' s' with
        | some (tm2, H2, s2, l2) => some (tm2, H2, s2, l ++ l2)
        | none => none
      | none => none
    else if gOk ops o tm then evOpsL C P O q ask askC ops rest (putT tm o.dst undef) H s else none

def execFL (C : CallL) (P : Program) (O : Orc) (q : FuncId → Nat) (ask : FuncId → Nat) (askC : BinOp → Value → Value → Bool) (k : Nat) (ρ : Operand → Value) (H : AHeap) (s : List Ans) (o : Oper) : Option (Value × AHeap × List Ans × List Obl) :=
  match exec1L C P O q ask askC ρ H s o with
  | some (v, H', s', l) => if isMk o then (match placeV k H v H' with
    | some (v2, H2) => some (v2, H2, s', l)
    | none => none) else some (v, H', s', l)
  | none => none

def evOpsFL (C : CallL) (P : Program) (O : Orc) (q : FuncId → Nat) (ask : FuncId → Nat) (askC : BinOp → Value → Value → Bool) (ops : Array Oper) : List Oper → Nat → List Value → AHeap → List Ans → Option (List Value × AHeap × List Ans × List Obl)
  | [], _, tm, H, s => some (tm, H, s, [])
  | o :: rest, k, tm, H, s =>
    if wantedL ops o tm then
      match execFL C P O q ask askC k (evalT tm) H s o with
      | some (v, H', s', l) => match evOpsFL C P O q ask askC ops rest (if isMk o then k + 1 else k) (putT tm o.dst v) H' s' with
        | some (tm2, H2, s2, l2) => some (tm2, H2, s2, l ++ l2)
        | none => none
      | none => none
    else if gOk ops o tm then evOpsFL C P O q ask askC ops rest (if isMk o then k + 1 else k) (putT tm o.dst undef) H s else none

abbrev StL := AExit × List Value × AHeap × List Ans × List Obl
def StL.st (r : StL) : St := (r.1, r.2.1, r.2.2.1)

def loopL (f : List Value → AHeap → List Ans → Option StL) : Nat → List Value → AHeap → List Ans → Option StL
  | 0, _, _, _ => none
  | n + 1, tm, H, s =>
    match f tm H s with
    | some (.normal, tm', H', s', l) => match loopL f n tm' H' s' with
      | some (e, tm2, H2, s2, l2) => some (e, tm2, H2, s2, l ++ l2)
      | none => none
    | r => r

def evL (C : CallL) (P : Program) (O : Orc) (q : FuncId → Nat) (ask : FuncId → Nat) (askC : BinOp → Value → Value → Bool) (n : Nat) : Code → List Value → AHeap → List Ans → Option StL
  | .skip, tm, H, s => some (.normal, tm, H, s, [])
  | .label _, tm, H, s => some (.normal, tm, H, s, [])
  | .region _ ops draw, tm, H, s =>
    if draw && special q ops then
      match evOpsFL C P O q ask askC ops ops.toList H.size tm (H.toList ++ List.replicate (countB isMk ops.toList) none).toArray s with
      | some (tm', H', s', l) => if dynOk q ops tm' then some (.normal, tm', H', s', l) else none
      | none => none
    else
    match evOpsL C P O q ask askC ops ops.toList tm H s with
    | some (tm', H', s', l) => some (.normal, tm', H', s', l)
    | none => none
  | .seq a b, tm, H, s =>
    match evL C P O q ask askC n a tm H s with
    | some (.normal, tm', H', s', l) => match evL C P O q ask askC n b tm' H' s' with
      | some (e, tm2, H2, s2, l2) => some (e, tm2, H2, s2, l ++ l2)
      | none => none
    | r => r
  | .cond c x y, tm, H, s =>
    match evalT tm c with
    | .bool b => if b then evL C P O q ask askC n x tm H s else evL C P O q ask askC n y tm H s
    | _ => none
  | .block id body, tm, H, s =>
    match evL C P O q ask askC n body tm H s with
    | some (.exit id', tm', H', s', l) => if id' = id then some (.normal, tm', H', s', l) else some (.exit id', tm', H', s', l)
    | r => r
  | .loop body, tm, H, s => loopL (evL C P O q ask askC n body) n tm H s
  | .exit id, tm, H, s => some (.exit id, tm, H, s, [])
  | .ret, tm, H, s => some (.ret, tm, H, s, [])
  | .goto l, tm, H, s => some (.goto l, tm, H, s, [])
  | _, _, _, _ => none

/-- A function, with questions, to a depth: its value, what it leaves, the answers that were not taken, and what must hold. -/
def evFuncL (P : Program) (O : Orc) (q : FuncId → Nat) (fs : FuncId → Bool) (ask : FuncId → Nat) (askC : BinOp → Value → Value → Bool) (n : Nat) : Nat → CallL
  | 0 => fun _ _ _ _ => none
  | d + 1 => fun f args H s =>
    if fs f then
      match P.funcs[f]? with
      | some fn => match fn.body with
        | some c =>
          match evL (evFuncL P O q fs ask askC n d) P O q ask askC n c (args.toList ++ List.replicate (fn.ntmps - args.size) undef) H s with
          | some (.exit _, _, _, _, _) => none
          | some (.goto _, _, _, _, _) => none
          | some (_, tm, H', s', l) => match resV P H' tm fn.results.toList with
            | some v => some (v, H', s', l)
            | none => none
          | none => none
        | none => none
      | none => none
    else none

def CallOK (P : Program) (C : CallL) : Prop := ∀ g args H s v H' s' l, C g args H s = some (v, H', s', l) → (∀ ob ∈ l, ob.ok P) → Runs P g args H v H'

section
variable {P : Program}

theorem askV_rel {O : Orc} {q : FuncId → Nat} {g : FuncId} {args : Array Value} {H H' : AHeap} {a : Ans} {v : Value} {ob : Obl} (hrow : O.row g args = none) (h : askV q g args H a = some (v, H', ob)) (hob : ob.ok P) : callR (Runs P) O q g args H v H' := by
  unfold askV at h
  unfold callR
  rw [hrow]
  split at h
  · rename_i hq
    rw [hq]
    split at h
    · rename_i hc
      simp only [Bool.and_eq_true] at hc
      simp only [Option.some.injEq, Prod.mk.injEq] at h
      obtain ⟨rfl, rfl, rfl⟩ := h
      exact ⟨hc.1, hc.2, rfl, #[], hob⟩
    · cases h
  · rename_i hq
    rw [hq]
    simp only at h
    split at h
    · rename_i hc
      simp only [Bool.and_eq_true, decide_eq_true_eq] at hc
      simp only [Option.some.injEq, Prod.mk.injEq] at h
      obtain ⟨rfl, rfl, rfl⟩ := h
      exact ⟨_, hob, hc.1, hc.2, rfl⟩
    · cases h
  · rename_i hq
    rw [hq]
    split at h
    · rename_i hc
      split at h
      · rename_i ha
        simp only [Option.some.injEq, Prod.mk.injEq] at h
        obtain ⟨rfl, rfl, rfl⟩ := h
        exact ⟨hc, rfl, _, Runs.quiet hob ha hc _⟩
      · simp only [Option.some.injEq, Prod.mk.injEq] at h
        obtain ⟨rfl, rfl, rfl⟩ := h
        exact ⟨hc, rfl, _, hob⟩
    · cases h
  · rename_i hq
    rw [hq]
    simp only [Option.some.injEq, Prod.mk.injEq] at h
    obtain ⟨rfl, rfl, rfl⟩ := h
    exact hob
  · cases h

theorem binV_cmp {O : Orc} {op : BinOp} {t : TypeId} {x y : Operand} {a b : Value} {c : Bool} (h : cmpV P op t a b = some c) : binV P O op t x y a b = some (.bool c) := by
  unfold cmpV at h
  unfold binV
  split at h
  · split at h
    · rename_i hk
      split at h
      · cases h
      · rename_i har
        simp only [if_pos hk, if_neg har, h, Option.map_some]
    · cases h
  · split at h
    · rename_i c' hc
      injection h with h; subst h
      exact hc
    · cases h
  · cases h

theorem deepV_rel {O : Orc} {C : CallL} (hC : CallOK P C) {q : FuncId → Nat} {g : FuncId} {args : Array Value} {H H' : AHeap} {s s' : List Ans} {v : Value} {l : List Obl} (hrow : O.row g args = none) (h : deepV C q g args H s = some (v, H', s', l)) (hl : ∀ ob ∈ l, ob.ok P) : callR (Runs P) O q g args H v H' := by
  unfold deepV at h
  unfold callR
  rw [hrow]
  split at h
  · rename_i hq
    rw [hq]
    split at h
    · rename_i hca
      split at h
      · rename_i v1 H1 s1 l1 hc
        split at h
        · rename_i hv
          simp only [Option.some.injEq, Prod.mk.injEq] at h
          obtain ⟨rfl, rfl, rfl, rfl⟩ := h
          exact ⟨hca, hv, rfl, H1, hC _ _ _ _ _ _ _ _ hc hl⟩
        · cases h
      · cases h
    · cases h
  · rename_i hq
    rw [hq]
    split at h
    · rename_i v1 H1 s1 l1 hc
      split at h
      · rename_i hv
        simp only [Bool.and_eq_true, decide_eq_true_eq] at hv
        simp only [Option.some.injEq, Prod.mk.injEq] at h
        obtain ⟨rfl, rfl, rfl, rfl⟩ := h
        exact ⟨H1, hC _ _ _ _ _ _ _ _ hc hl, hv.1, hv.2, rfl⟩
      · cases h
    · cases h
  · rename_i hq
    rw [hq]
    split at h
    · rename_i v1 H1 s1 l1 hc
      split at h
      · rename_i hv
        simp only [Option.some.injEq, Prod.mk.injEq] at h
        obtain ⟨rfl, rfl, rfl, rfl⟩ := h
        exact ⟨hv, rfl, H1, hC _ _ _ _ _ _ _ _ hc hl⟩
      · cases h
    · cases h
  · rename_i hq
    rw [hq]
    exact hC _ _ _ _ _ _ _ _ h hl
  · cases h

theorem asked_rel {O : Orc} {q : FuncId → Nat} {ask : FuncId → Nat} {o : Oper} {ρ : Operand → Value} {H H' : AHeap} {v : Value} {k : Nat} {g : FuncId} {args : Array Value} (hg : asked O q ask ρ o = some (k, g, args)) (h : O.row g args = none → callR (Runs P) O q g args H v H') : exR P (Runs P) O q ρ H o v H' := by
  unfold asked at hg
  unfold exR
  split at hg
  · rename_i c hop
    rw [hop]
    split at hg
    · rename_i f hf
      simp only [hf]
      split at hg
      · rename_i g1 us vs hρ
        simp only [hρ]
        split at hg
        · rename_i hc
          simp only [Bool.and_eq_true, Bool.or_eq_true, Option.isNone_iff_eq_none] at hc
          simp only [Option.some.injEq, Prod.mk.injEq] at hg
          obtain ⟨rfl, rfl, rfl⟩ := hg
          exact ⟨hc.1.elim (fun h => .inl h.1) (fun h => .inr (eq_of_beq h.2)), h hc.2⟩
        · cases hg
      · cases hg
    · cases hg
  · cases hg

theorem askOp_rel {O : Orc} {q : FuncId → Nat} {o : Oper} {ρ : Operand → Value} {H H' : AHeap} {a : Ans} {v : Value} {p : Prop} (h : askOp P O ρ H o a = some (v, H', p)) (hp : p) : exR P (Runs P) O q ρ H o v H' := by
  unfold askOp at h
  unfold exR
  split at h
  · rename_i t x hop
    split at h
    · rename_i ad had
      simp only [Option.some.injEq, Prod.mk.injEq] at h
      obtain ⟨rfl, rfl, rfl⟩ := h
      simp only [exec1, hop, had, hp, Option.map_some]
    · cases h
  · rename_i t x y hop
    split at h
    · rename_i ad had
      simp only [Option.some.injEq, Prod.mk.injEq] at h
      obtain ⟨rfl, rfl, rfl⟩ := h
      simp only [exec1, hop, had, hp, Option.map_some]
    · cases h
  · rename_i t x i hop
    simp only [Option.some.injEq, Prod.mk.injEq] at h
    obtain ⟨rfl, rfl, rfl⟩ := h
    simp only [exec1, hop, hp, Option.map_some]
  · rename_i t x i hop
    simp only [Option.some.injEq, Prod.mk.injEq] at h
    obtain ⟨rfl, rfl, rfl⟩ := h
    simp only [exec1, hop, hp, Option.map_some]
  · rename_i st x f hop
    simp only [Option.some.injEq, Prod.mk.injEq] at h
    obtain ⟨rfl, rfl, rfl⟩ := h
    simp only [exec1, hop, hp, Option.map_some]
  · rename_i t x lo hi mx hop
    simp only [Option.some.injEq, Prod.mk.injEq] at h
    obtain ⟨rfl, rfl, rfl⟩ := h
    simp only [exec1, hop, hp, Option.map_some]
  · rename_i op t x y z hop
    split at h
    · rename_i k m k' n h1 h2
      simp only [Option.some.injEq, Prod.mk.injEq] at h
      obtain ⟨rfl, rfl, rfl⟩ := h
      simp only [exec1, hop, h1, h2, binV, hp, Option.map_some]
    · rename_i u v' h1 h2
      simp only [Option.some.injEq, Prod.mk.injEq] at h
      obtain ⟨rfl, rfl, rfl⟩ := h
      have hp' : (noCall O).bin op t (.string u) (.string v') = some (a.v 0) := hp
      simp only [exec1, hop, h1, h2, binV, hp', Option.map_some]
    · cases h
  · rename_i s d x hop
    split at h
    · rename_i hd
      simp only [Option.some.injEq, Prod.mk.injEq] at h
      obtain ⟨rfl, rfl, rfl⟩ := h
      simp only [exec1, hop, hd, hp, if_true]
    · rename_i hd
      split at h
      · rename_i hs
        simp only [Option.some.injEq, Prod.mk.injEq] at h
        obtain ⟨rfl, rfl, rfl⟩ := h
        simp only [exec1, hop, hs, hp, if_true, Option.map_some, if_neg hd]
      · rename_i hs
        simp only [Option.some.injEq, Prod.mk.injEq] at h
        obtain ⟨rfl, rfl, rfl⟩ := h
        simp only [exec1, hop, hp, Option.map_some, if_neg hd, if_neg hs]
  · rename_i t l c hop
    simp only [Option.some.injEq, Prod.mk.injEq] at h
    obtain ⟨rfl, rfl, rfl⟩ := h
    simp only [exec1, hop, hp]
  · rename_i c hop
    rw [hop]
    split at h
    · rename_i hc
      split at h
      · rename_i s x t t2 h1 h2
        simp only [Option.some.injEq, Prod.mk.injEq] at h
        obtain ⟨rfl, rfl, rfl⟩ := h
        simp only [exec1, hop, hc, h1, h2, hp]
      · cases h
    · cases h
  · cases h

theorem exec1L_rel {O : Orc} (hO : OrcOK P O) {C : CallL} (hC : CallOK P C) {q : FuncId → Nat} {ask : FuncId → Nat} {askC : BinOp → Value → Value → Bool} {o : Oper} {ρ : Operand → Value} {H H' : AHeap} {s s' : List Ans} {v : Value} {l : List Obl} (h : exec1L C P O q ask askC ρ H s o = some (v, H', s', l)) (hl : ∀ ob ∈ l, ob.ok P) : exR P (Runs P) O q ρ H o v H' := by
  unfold exec1L at h
  split at h
  · split at h
    · split at h
      · rename_i ha
        simp only [Option.some.injEq, Prod.mk.injEq] at h
        obtain ⟨rfl, rfl, rfl, rfl⟩ := h
        exact askOp_rel ha (hl _ (List.mem_singleton.2 rfl))
      · cases h
    · cases h
  split at h
  · rename_i g args hg
    split at h
    · simp only [Option.some.injEq, Prod.mk.injEq] at h
      obtain ⟨rfl, rfl, rfl, rfl⟩ := h
      have hrow := hl _ (List.mem_singleton.2 rfl)
      unfold askedR at hg
      unfold exR
      split at hg
      · rename_i c hop
        rw [hop]
        split at hg
        · rename_i f hf
          simp only [hf]
          split at hg
          · rename_i g1 us vs hρ
            simp only [hρ]
            split at hg
            · rename_i hc
              simp only [Bool.and_eq_true] at hc
              simp only [Option.some.injEq, Prod.mk.injEq] at hg
              obtain ⟨rfl, rfl⟩ := hg
              refine ⟨.inl hc.1, ?_⟩
              unfold callR
              rw [show O.row _ _ = some _ from hrow]
              exact ⟨rfl, rfl⟩
            · cases hg
          · cases hg
        · cases hg
      · cases hg
    · cases h
  split at h
  · rename_i g args hg
    split at h
    · split at h
      · rename_i hav
        simp only [Option.some.injEq, Prod.mk.injEq] at h
        obtain ⟨rfl, rfl, rfl, rfl⟩ := h
        exact asked_rel hg fun hrow => askV_rel hrow hav (hl _ (by simp))
      · cases h
    · cases h
  · rename_i hg
    exact asked_rel hg fun hrow => deepV_rel hC hrow h hl
  split at h
  · rename_i op t a b hc
    split at h
    · split at h
      · rename_i c hv
        simp only [Option.some.injEq, Prod.mk.injEq] at h
        obtain ⟨rfl, rfl, rfl, rfl⟩ := h
        unfold askedB at hc
        split at hc
        · rename_i op' t' x y z hop
          have fin : ∀ a1 b1, ρ x = a1 → ρ y = b1 → (binV P (noCall O) op' t' x y a1 b1 = some (.bool c)) → exR P (Runs P) O q ρ H o (.bool c) H := by
            intro a1 b1 hx hy hb
            unfold exR
            rw [hop]
            simp only [exec1, hop]
            rw [hx, hy, hb]
            rfl
          split at hc
          · rename_i u1 u2 hx hy
            split at hc
            · simp only [Option.some.injEq, Prod.mk.injEq] at hc
              obtain ⟨rfl, rfl, rfl, rfl⟩ := hc
              have hbin : (noCall O).bin op' t' (.agg u1) (.agg u2) = some (.bool c) := hl _ (List.mem_singleton.2 rfl)
              exact fin _ _ hx hy (by unfold binV; simp only [hbin])
            · cases hc
          · rename_i u1 u2 hx hy
            split at hc
            · simp only [Option.some.injEq, Prod.mk.injEq] at hc
              obtain ⟨rfl, rfl, rfl, rfl⟩ := hc
              have hbin : (noCall O).bin op' t' (.bool u1) (.bool u2) = some (.bool c) := hl _ (List.mem_singleton.2 rfl)
              exact fin _ _ hx hy (by unfold binV; simp only [hbin])
            · cases hc
          · rename_i u1 u2 hx hy
            split at hc
            · simp only [Option.some.injEq, Prod.mk.injEq] at hc
              obtain ⟨rfl, rfl, rfl, rfl⟩ := hc
              have hbin : (noCall O).bin op' t' (.string u1) (.string u2) = some (.bool c) := hl _ (List.mem_singleton.2 rfl)
              exact fin _ _ hx hy (by unfold binV; simp only [hbin])
            · cases hc
          · cases hc
        · cases hc
      · cases h
    · cases h
  · split at h
    · rename_i op t a b hc
      split at h
      · split at h
        · rename_i c hv
          simp only [Option.some.injEq, Prod.mk.injEq] at h
          obtain ⟨rfl, rfl, rfl, rfl⟩ := h
          unfold askedC at hc
          split at hc
          · rename_i op' t' x y z hop
            split at hc
            · simp only [Option.some.injEq, Prod.mk.injEq] at hc
              obtain ⟨rfl, rfl, rfl, rfl⟩ := hc
              unfold exR
              rw [hop]
              simp only [exec1, hop]
              rw [binV_cmp (show cmpV P op' t' (ρ x) (ρ y) = some c from hl _ (List.mem_singleton.2 rfl))]
              rfl
            · cases hc
          · cases hc
        · cases h
      · cases h
    · split at h
      · rename_i hx
        simp only [Option.some.injEq, Prod.mk.injEq] at h
        obtain ⟨rfl, rfl, rfl, rfl⟩ := h
        exact exec1_rel hO hx
      · cases h

theorem evOpsL_rel {O : Orc} (hO : OrcOK P O) {C : CallL} (hC : CallOK P C) {q : FuncId → Nat} {ask : FuncId → Nat} {askC : BinOp → Value → Value → Bool} {ops : Array Oper} : ∀ (l : List Oper) (tm : List Value) (H : AHeap) (s : List Ans) {tm' H' s' lg}, evOpsL C P O q ask askC ops l tm H s = some (tm', H', s', lg) → (∀ ob ∈ lg, ob.ok P) → evOpsR P (Runs P) O q ops l tm H tm' H'
  | [], tm, H, s, tm', H', s', lg, h, hl => by
    simp only [evOpsL, Option.some.injEq, Prod.mk.injEq] at h
    exact ⟨h.1.symm, h.2.1.symm⟩
  | o :: rest, tm, H, s, tm', H', s', lg, h, hl => by
    simp only [evOpsL] at h
    unfold evOpsR
    by_cases hw : wantedL ops o tm = true
    · rw [if_pos hw] at h
      split at h
      · rename_i v H1 s1 l1 hx
        split at h
        · rename_i hy
          simp only [Option.some.injEq, Prod.mk.injEq] at h
          obtain ⟨rfl, rfl, rfl, rfl⟩ := h
          exact ⟨v, H1, by unfold outR; rw [if_pos hw]; exact exec1L_rel hO hC hx fun ob h => hl ob (List.mem_append_left _ h), evOpsL_rel hO hC rest _ _ _ hy fun ob h => hl ob (List.mem_append_right _ h)⟩
        · cases h
      · cases h
    · rw [if_neg hw] at h
      split at h
      · rename_i hg
        exact ⟨undef, H, by unfold outR; rw [if_neg hw]; exact ⟨rfl, rfl, hg⟩, evOpsL_rel hO hC rest _ _ _ h hl⟩
      · cases h

theorem evOpsFL_rel {O : Orc} (hO : OrcOK P O) {C : CallL} (hC : CallOK P C) {q : FuncId → Nat} {ask : FuncId → Nat} {askC : BinOp → Value → Value → Bool} {ops : Array Oper} : ∀ (l : List Oper) (k : Nat) (tm : List Value) (H : AHeap) (s : List Ans) {tm' H' s' lg}, evOpsFL C P O q ask askC ops l k tm H s = some (tm', H', s', lg) → (∀ ob ∈ lg, ob.ok P) → evOpsFR P (Runs P) O q ops l k tm H tm' H'
  | [], k, tm, H, s, tm', H', s', lg, h, hl => by
    simp only [evOpsFL, Option.some.injEq, Prod.mk.injEq] at h
    exact ⟨h.1.symm, h.2.1.symm⟩
  | o :: rest, k, tm, H, s, tm', H', s', lg, h, hl => by
    simp only [evOpsFL] at h
    unfold evOpsFR
    by_cases hw : wantedL ops o tm = true
    · rw [if_pos hw] at h
      split at h
      · rename_i v H1 s1 l1 hx
        split at h
        · rename_i hy
          simp only [Option.some.injEq, Prod.mk.injEq] at h
          obtain ⟨rfl, rfl, rfl, rfl⟩ := h
          refine ⟨v, H1, ?_, evOpsFL_rel hO hC rest _ _ _ _ hy fun ob h => hl ob (List.mem_append_right _ h)⟩
          unfold outF
          rw [if_pos hw]
          unfold execFL at hx
          split at hx
          · rename_i v0 H0 s0 l0 hy0
            split at hx
            · rename_i hm
              rw [if_pos hm]
              split at hx
              · rename_i v2 H2 hp
                simp only [Option.some.injEq, Prod.mk.injEq] at hx
                obtain ⟨rfl, rfl, rfl, rfl⟩ := hx
                exact ⟨v0, H0, exec1L_rel hO hC hy0 fun ob h => hl ob (List.mem_append_left _ h), hp⟩
              · cases hx
            · rename_i hm
              rw [if_neg hm]
              simp only [Option.some.injEq, Prod.mk.injEq] at hx
              obtain ⟨rfl, rfl, rfl, rfl⟩ := hx
              exact exec1L_rel hO hC hy0 fun ob h => hl ob (List.mem_append_left _ h)
          · cases hx
        · cases h
      · cases h
    · rw [if_neg hw] at h
      split at h
      · rename_i hg
        refine ⟨undef, H, ?_, evOpsFL_rel hO hC rest _ _ _ _ h hl⟩
        unfold outF
        rw [if_neg hw]
        exact ⟨rfl, rfl, hg⟩
      · cases h

theorem evL_rel {O : Orc} (hO : OrcOK P O) {C : CallL} (hC : CallOK P C) {q : FuncId → Nat} {ask : FuncId → Nat} {askC : BinOp → Value → Value → Bool} (n : Nat) : ∀ (c : Code) (tm : List Value) (H : AHeap) (s : List Ans) (r : StL), evL C P O q ask askC n c tm H s = some r → (∀ ob ∈ r.2.2.2.2, ob.ok P) → evR P (Runs P) O q c tm H r.st := by
  intro c
  induction c with
  | skip => intro tm H s r h _; simp only [evL] at h; injection h with h; subst h; rfl
  | label l => intro tm H s r h _; simp only [evL] at h; injection h with h; subst h; rfl
  | exit id => intro tm H s r h _; simp only [evL] at h; injection h with h; subst h; rfl
  | ret => intro tm H s r h _; simp only [evL] at h; injection h with h; subst h; rfl
  | goto l => intro tm H s r h _; simp only [evL] at h; injection h with h; subst h; rfl
  | region id ops draw =>
    intro tm H s r h hl
    simp only [evL] at h
    split at h
    · rename_i hc
      split at h
      · rename_i tm' H' s' l hops
        split at h
        · rename_i hd
          injection h with h
          subst h
          refine ⟨tm', H', ?_, rfl⟩
          unfold regR
          rw [if_pos hc]
          rw [← kept_eq] at hops
          exact ⟨evOpsFL_rel hO hC _ _ _ _ _ hops hl, hd⟩
        · cases h
      · cases h
    · rename_i hc
      split at h
      · rename_i tm' H' s' l hops
        injection h with h
        subst h
        refine ⟨tm', H', ?_, rfl⟩
        unfold regR
        rw [if_neg hc]
        exact evOpsL_rel hO hC _ _ _ _ hops hl
      · cases h
  | seq x y ihx ihy =>
    intro tm H s r h hl
    simp only [evL] at h
    cases hx : evL C P O q ask askC n x tm H s with
    | none => rw [hx] at h; cases h
    | some r1 =>
      rw [hx] at h
      obtain ⟨e, tm1, H1, s1, l1⟩ := r1
      cases e with
      | normal =>
        simp only at h
        split at h
        · rename_i e2 tm2 H2 s2 l2 hy
          injection h with h
          subst h
          exact ⟨_, ihx tm H s _ hx fun ob h => hl ob (List.mem_append_left _ h), ihy tm1 H1 s1 (e2, tm2, H2, s2, l2) hy fun ob h => hl ob (List.mem_append_right _ h)⟩
        · cases h
      | exit id => simp only at h; injection h with h; subst h; exact ⟨_, ihx tm H s _ hx hl, rfl⟩
      | ret => simp only at h; injection h with h; subst h; exact ⟨_, ihx tm H s _ hx hl, rfl⟩
      | goto l => simp only at h; injection h with h; subst h; exact ⟨_, ihx tm H s _ hx hl, rfl⟩
  | cond c x y ihx ihy =>
    intro tm H s r h hl
    simp only [evL] at h
    unfold evR
    split at h
    · rename_i b hb
      rw [hb]
      cases b with
      | true => simp only [if_true] at h ⊢; exact ihx tm H s r h hl
      | false => simp only [Bool.false_eq_true, if_false] at h ⊢; exact ihy tm H s r h hl
    · cases h
  | block id body ih =>
    intro tm H s r h hl
    simp only [evL] at h
    cases hx : evL C P O q ask askC n body tm H s with
    | none => rw [hx] at h; cases h
    | some r1 =>
      rw [hx] at h
      obtain ⟨e, tm1, H1, s1, l1⟩ := r1
      cases e with
      | normal => simp only at h; injection h with h; subst h; exact ⟨_, ih tm H s _ hx hl, rfl⟩
      | exit id' =>
        simp only at h
        split at h
        · rename_i e; injection h with h; subst h; exact ⟨_, ih tm H s _ hx hl, by simp only [StL.st, if_pos e]⟩
        · rename_i e; injection h with h; subst h; exact ⟨_, ih tm H s _ hx hl, by simp only [StL.st, if_neg e]⟩
      | ret => simp only at h; injection h with h; subst h; exact ⟨_, ih tm H s _ hx hl, rfl⟩
      | goto l => simp only at h; injection h with h; subst h; exact ⟨_, ih tm H s _ hx hl, rfl⟩
  | loop body ih =>
    intro tm H s r h hl
    simp only [evL] at h
    unfold evR
    generalize hf : evL C P O q ask askC n body = f at h
    have ih' : ∀ tm H s r, f tm H s = some r → (∀ ob ∈ r.2.2.2.2, ob.ok P) → evR P (Runs P) O q body tm H r.st := fun tm H s r hh hl => ih tm H s r (by rw [hf]; exact hh) hl
    clear hf ih
    induction n generalizing tm H s r with
    | zero => cases h
    | succ k ihk =>
      simp only [loopL] at h
      split at h
      · rename_i tm1 H1 s1 l1 hb
        split at h
        · rename_i e2 tm2 H2 s2 l2 hy
          injection h with h
          subst h
          exact .next (ih' tm H s _ hb fun ob h => hl ob (List.mem_append_left _ h)) (ihk tm1 H1 s1 (e2, tm2, H2, s2, l2) (fun ob h => hl ob (List.mem_append_right _ h)) hy)
        · cases h
      · rename_i hne
        refine .last (ih' tm H s r h hl) fun he => ?_
        obtain ⟨e, tm1, H1, s1, l1⟩ := r
        simp only [StL.st] at he
        subst he
        exact hne tm1 H1 s1 l1 h
  | _ => intro tm H s r h; simp [evL] at h

/-- The functions that may be walked, with questions, to a depth. -/
theorem evFuncL_sound {O : Orc} (hO : OrcOK P O) (hm : P.follows .mixedOrders = true) {q : FuncId → Nat} {fs : FuncId → Bool} (hfs : FsOK P q fs) {ask : FuncId → Nat} {askC : BinOp → Value → Value → Bool} {n : Nat} : ∀ d, CallOK P (evFuncL P O q fs ask askC n d)
  | 0 => fun _ _ _ _ _ _ _ _ h => by cases h
  | d + 1 => fun f args H s v H' s' l h hl => by
    simp only [evFuncL] at h
    split at h
    · rename_i hf
      obtain ⟨fn, c, h1, h2, h3, h4⟩ := hfs f hf
      simp only [h1, h2] at h
      split at h
      · cases h
      · cases h
      · rename_i e tm H1 s1 l1 hne hng hev
        split at h
        · rename_i u hu
          simp only [Option.some.injEq, Prod.mk.injEq] at h
          obtain ⟨rfl, rfl, rfl, rfl⟩ := h
          have hrel := evL_rel hO (evFuncL_sound hO hm hfs d) n c _ H s _ hev hl
          exact runs_of hO.base hm h1 h2 h4 h3 hrel (fun id he => by subst he; simp at hne hng) (fun id he => by subst he; simp at hne hng) hu
        · cases h
      · cases h
    · cases h

/-- One that may be walked, with questions; callees that are not asked for are looked through to a depth. -/
theorem evN_sound {prim : Orc} (hO : OrcOK P prim) (hm : P.follows .mixedOrders = true) {q : FuncId → Nat} {fs : FuncId → Bool} (hfs : FsOK P q fs) {ask : FuncId → Nat} {askC : BinOp → Value → Value → Bool} {n d e : Nat} {f : FuncId} {args : Array Value} {H H' : AHeap} {s s' : List Ans} {v : Value} {l : List Obl}
    (h : evFuncL P { prim with call := callN P prim q fs n d } q fs ask askC n e f args H s = some (v, H', s', l)) (hl : okAll P l) : Runs P f args H v H' :=
  evFuncL_sound (O := { prim with call := callN P prim q fs n d }) ⟨fun f args H v H' hh => callN_sound hO hm hfs n d f args H v H' hh, hO.row, hO.bin⟩ hm hfs e _ _ _ _ _ _ _ _ h hl.all

end
end Go.Proofs.YtameamgamdaibaaDoor

/-!  The interpreter with questions, and loops that are answered: what a loop leaves is taken from a list, and what must hold of it is written down, to be proved round by round. -/
namespace Go.Proofs.YtameamgamdaibaaDoor
open Go
set_option linter.unusedVariables false

/-- What a loop leaves. -/
structure LpA where
  e : AExit
  tm : List Value
  H : AHeap
/-- A loop that was answered: its body, the state before, the state behind. -/
abbrev LpO := Code × List Value × AHeap × St
abbrev StT := AExit × List Value × AHeap × List Ans × List (Option LpA) × List Obl × List LpO
def StT.st (r : StT) : St := (r.1, r.2.1, r.2.2.1)
def StT.of (r : StL) (ls : List (Option LpA)) : StT := (r.1, r.2.1, r.2.2.1, r.2.2.2.1, ls, r.2.2.2.2, [])
def LpO.ok (P : Program) (O : Orc) (q : FuncId → Nat) (x : LpO) : Prop := Rds (evR P (Runs P) O q x.1) x.2.1 x.2.2.1 x.2.2.2

mutual
def evT (C : CallL) (P : Program) (O : Orc) (q : FuncId → Nat) (ask : FuncId → Nat) (askC : BinOp → Value → Value → Bool) (n : Nat) : Code → List Value → AHeap → List Ans → List (Option LpA) → Option StT
  | .seq a b, tm, H, s, ls =>
    match evT C P O q ask askC n a tm H s ls with
    | some (.normal, tm', H', s', ls', l, lo) => match evT C P O q ask askC n b tm' H' s' ls' with
      | some (e, tm2, H2, s2, ls2, l2, lo2) => some (e, tm2, H2, s2, ls2, l ++ l2, lo ++ lo2)
      | none => none
    | r => r
  | .cond c x y, tm, H, s, ls =>
    match evalT tm c with
    | .bool b => if b then evT C P O q ask askC n x tm H s ls else evT C P O q ask askC n y tm H s ls
    | _ => none
  | .block id body, tm, H, s, ls =>
    match evT C P O q ask askC n body tm H s ls with
    | some (.exit id', tm', H', s', ls', l, lo) => if id' = id then some (.normal, tm', H', s', ls', l, lo) else some (.exit id', tm', H', s', ls', l, lo)
    | r => r
  | .loop body, tm, H, s, ls =>
    match ls with
    | some a :: ls' => some (a.e, a.tm, a.H, s, ls', [], [(body, tm, H, (a.e, a.tm, a.H))])
    | none :: ls' => (evL C P O q ask askC n (.loop body) tm H s).map fun r => StT.of r ls'
    | [] => none
  | .scope c, tm, H, s, ls =>
    match evT C P O q ask askC n c tm H s ls with
    | some (.goto l, tm', H', s', ls', lg, lo) => match evTJ C P O q ask askC n c l tm' H' s' ls' with
      | some (.goto _, _, _, _, _, _, _) => none
      | some (e, tm2, H2, s2, ls2, l2, lo2) => some (e, tm2, H2, s2, ls2, lg ++ l2, lo ++ lo2)
      | none => none
    | r => r
  | c, tm, H, s, ls => (evL C P O q ask askC n c tm H s).map fun r => StT.of r ls
/-- Code from a label on. -/
def evTJ (C : CallL) (P : Program) (O : Orc) (q : FuncId → Nat) (ask : FuncId → Nat) (askC : BinOp → Value → Value → Bool) (n : Nat) : Code → Nat → List Value → AHeap → List Ans → List (Option LpA) → Option StT
  | .seq a b, l, tm, H, s, ls =>
    match findLabel a l with
    | some _ => match evTJ C P O q ask askC n a l tm H s ls with
      | some (.normal, tm', H', s', ls', lg, lo) => match evT C P O q ask askC n b tm' H' s' ls' with
        | some (e, tm2, H2, s2, ls2, l2, lo2) => some (e, tm2, H2, s2, ls2, lg ++ l2, lo ++ lo2)
        | none => none
      | r => r
    | none => evTJ C P O q ask askC n b l tm H s ls
  | .label l', l, tm, H, s, ls => if l' == l then some (.normal, tm, H, s, ls, [], []) else none
  | _, _, _, _, _, _ => none
end

section
variable {P : Program}
theorem evL_relT {O : Orc} (hO : OrcOK P O) {C : CallL} (hC : CallOK P C) {q : FuncId → Nat} {ask : FuncId → Nat} {askC : BinOp → Value → Value → Bool} {n : Nat} {c : Code} {tm : List Value} {H : AHeap} {s : List Ans} {ls : List (Option LpA)} {r : StT}
    (h : (evL C P O q ask askC n c tm H s).map (fun r => StT.of r ls) = some r) (hl : ∀ ob ∈ r.2.2.2.2.2.1, ob.ok P) : evR P (Runs P) O q c tm H r.st := by
  simp only [Option.map_eq_some_iff] at h
  obtain ⟨r1, h1, rfl⟩ := h
  exact evL_rel hO hC n c tm H s r1 h1 hl

theorem evT_both {O : Orc} (hO : OrcOK P O) {C : CallL} (hC : CallOK P C) {q : FuncId → Nat} {ask : FuncId → Nat} {askC : BinOp → Value → Value → Bool} (n : Nat) : ∀ (c : Code), (∀ (tm : List Value) (H : AHeap) (s : List Ans) (ls : List (Option LpA)) (r : StT),
    evT C P O q ask askC n c tm H s ls = some r → (∀ ob ∈ r.2.2.2.2.2.1, ob.ok P) → (∀ x ∈ r.2.2.2.2.2.2, LpO.ok P O q x) → evR P (Runs P) O q c tm H r.st) ∧
    ∀ (j : Nat) (tm : List Value) (H : AHeap) (s : List Ans) (ls : List (Option LpA)) (r : StT),
    evTJ C P O q ask askC n c j tm H s ls = some r → (∀ ob ∈ r.2.2.2.2.2.1, ob.ok P) → (∀ x ∈ r.2.2.2.2.2.2, LpO.ok P O q x) → evJR P (Runs P) O q c j tm H r.st := by
  intro c
  induction c with
  | seq x y ihx ihy =>
    refine ⟨?_, ?_⟩
    rotate_left
    · intro j tm H s ls r h hl hlo
      simp only [evTJ] at h
      unfold evJR
      cases hf : findLabel x j with
      | some rest0 =>
        rw [hf] at h
        simp only at h ⊢
        cases hx : evTJ C P O q ask askC n x j tm H s ls with
        | none => rw [hx] at h; cases h
        | some r1 =>
          rw [hx] at h
          obtain ⟨e, tm1, H1, s1, ls1, l1, lo1⟩ := r1
          cases e with
          | normal =>
            simp only at h
            split at h
            · rename_i e2 tm2 H2 s2 ls2 l2 lo2 hy
              injection h with h
              subst h
              exact ⟨_, ihx.2 j tm H s ls _ hx (fun ob h => hl ob (List.mem_append_left _ h)) (fun x h => hlo x (List.mem_append_left _ h)), ihy.1 tm1 H1 s1 ls1 (e2, tm2, H2, s2, ls2, l2, lo2) hy (fun ob h => hl ob (List.mem_append_right _ h)) (fun x h => hlo x (List.mem_append_right _ h))⟩
            · cases h
          | exit id => simp only at h; injection h with h; subst h; exact ⟨_, ihx.2 j tm H s ls _ hx hl hlo, rfl⟩
          | ret => simp only at h; injection h with h; subst h; exact ⟨_, ihx.2 j tm H s ls _ hx hl hlo, rfl⟩
          | goto l => simp only at h; injection h with h; subst h; exact ⟨_, ihx.2 j tm H s ls _ hx hl hlo, rfl⟩
      | none =>
        rw [hf] at h
        exact ihy.2 j tm H s ls r h hl hlo
    intro tm H s ls r h hl hlo
    simp only [evT] at h
    cases hx : evT C P O q ask askC n x tm H s ls with
    | none => rw [hx] at h; cases h
    | some r1 =>
      rw [hx] at h
      obtain ⟨e, tm1, H1, s1, ls1, l1, lo1⟩ := r1
      cases e with
      | normal =>
        simp only at h
        split at h
        · rename_i e2 tm2 H2 s2 ls2 l2 lo2 hy
          injection h with h
          subst h
          exact ⟨_, ihx.1 tm H s ls _ hx (fun ob h => hl ob (List.mem_append_left _ h)) (fun x h => hlo x (List.mem_append_left _ h)), ihy.1 tm1 H1 s1 ls1 (e2, tm2, H2, s2, ls2, l2, lo2) hy (fun ob h => hl ob (List.mem_append_right _ h)) (fun x h => hlo x (List.mem_append_right _ h))⟩
        · cases h
      | exit id => simp only at h; injection h with h; subst h; exact ⟨_, ihx.1 tm H s ls _ hx hl hlo, rfl⟩
      | ret => simp only at h; injection h with h; subst h; exact ⟨_, ihx.1 tm H s ls _ hx hl hlo, rfl⟩
      | goto l => simp only at h; injection h with h; subst h; exact ⟨_, ihx.1 tm H s ls _ hx hl hlo, rfl⟩
  | cond c x y ihx ihy =>
    refine ⟨?_, fun j tm H s ls r h => (by simp [evTJ] at h)⟩
    intro tm H s ls r h hl hlo
    simp only [evT] at h
    unfold evR
    split at h
    · rename_i b hb
      rw [hb]
      cases b with
      | true => simp only [if_true] at h ⊢; exact ihx.1 tm H s ls r h hl hlo
      | false => simp only [Bool.false_eq_true, if_false] at h ⊢; exact ihy.1 tm H s ls r h hl hlo
    · cases h
  | block id body ih =>
    refine ⟨?_, fun j tm H s ls r h => (by simp [evTJ] at h)⟩
    intro tm H s ls r h hl hlo
    simp only [evT] at h
    cases hx : evT C P O q ask askC n body tm H s ls with
    | none => rw [hx] at h; cases h
    | some r1 =>
      rw [hx] at h
      obtain ⟨e, tm1, H1, s1, ls1, l1, lo1⟩ := r1
      cases e with
      | normal => simp only at h; injection h with h; subst h; exact ⟨_, ih.1 tm H s ls _ hx hl hlo, rfl⟩
      | exit id' =>
        simp only at h
        split at h
        · rename_i e; injection h with h; subst h; exact ⟨_, ih.1 tm H s ls _ hx hl hlo, by simp only [StT.st, if_pos e]⟩
        · rename_i e; injection h with h; subst h; exact ⟨_, ih.1 tm H s ls _ hx hl hlo, by simp only [StT.st, if_neg e]⟩
      | ret => simp only at h; injection h with h; subst h; exact ⟨_, ih.1 tm H s ls _ hx hl hlo, rfl⟩
      | goto l => simp only at h; injection h with h; subst h; exact ⟨_, ih.1 tm H s ls _ hx hl hlo, rfl⟩
  | loop body ih =>
    refine ⟨?_, fun j tm H s ls r h => (by simp [evTJ] at h)⟩
    intro tm H s ls r h hl hlo
    simp only [evT] at h
    split at h
    · rename_i a ls'
      injection h with h
      subst h
      unfold evR
      exact hlo _ (List.mem_singleton.2 rfl)
    · exact evL_relT hO hC h hl
    · cases h
  | label l' =>
    refine ⟨fun tm H s ls r h hl hlo => by simp only [evT] at h; exact evL_relT hO hC h hl, fun j tm H s ls r h hl hlo => ?_⟩
    simp only [evTJ] at h
    split at h
    · rename_i e; injection h with h; subst h; exact ⟨e, rfl⟩
    · cases h
  | scope c ih =>
    refine ⟨?_, fun j tm H s ls r h => (by simp [evTJ] at h)⟩
    intro tm H s ls r h hl hlo
    simp only [evT] at h
    cases hx : evT C P O q ask askC n c tm H s ls with
    | none => rw [hx] at h; cases h
    | some r1 =>
      rw [hx] at h
      obtain ⟨e, tm1, H1, s1, ls1, l1, lo1⟩ := r1
      cases e with
      | normal => simp only at h; injection h with h; subst h; exact ⟨_, ih.1 tm H s ls _ hx hl hlo, rfl⟩
      | exit id => simp only at h; injection h with h; subst h; exact ⟨_, ih.1 tm H s ls _ hx hl hlo, rfl⟩
      | ret => simp only at h; injection h with h; subst h; exact ⟨_, ih.1 tm H s ls _ hx hl hlo, rfl⟩
      | goto l =>
        simp only at h
        split at h
        · cases h
        · rename_i e2 tm2 H2 s2 ls2 l2 lo2 hng hy
          injection h with h
          subst h
          refine ⟨_, ih.1 tm H s ls _ hx (fun ob h => hl ob (List.mem_append_left _ h)) (fun x h => hlo x (List.mem_append_left _ h)), ih.2 l tm1 H1 s1 ls1 (e2, tm2, H2, s2, ls2, l2, lo2) hy (fun ob h => hl ob (List.mem_append_right _ h)) (fun x h => hlo x (List.mem_append_right _ h)), ?_⟩
          intro l' he
          simp only [StT.st] at he
          subst he
          exact hng l' rfl
        · cases h
  | _ => exact ⟨fun tm H s ls r h hl hlo => by simp only [evT] at h; exact evL_relT hO hC h hl, fun j tm H s ls r h => by simp [evTJ] at h⟩

theorem evT_rel {O : Orc} (hO : OrcOK P O) {C : CallL} (hC : CallOK P C) {q : FuncId → Nat} {ask : FuncId → Nat} {askC : BinOp → Value → Value → Bool} (n : Nat) (c : Code) (tm : List Value) (H : AHeap) (s : List Ans) (ls : List (Option LpA)) (r : StT)
    (h : evT C P O q ask askC n c tm H s ls = some r) (hl : ∀ ob ∈ r.2.2.2.2.2.1, ob.ok P) (hlo : ∀ x ∈ r.2.2.2.2.2.2, LpO.ok P O q x) : evR P (Runs P) O q c tm H r.st := (evT_both hO hC n c).1 tm H s ls r h hl hlo

/-- A function whose loops are answered. -/
def evFuncT (P : Program) (O : Orc) (q : FuncId → Nat) (fs : FuncId → Bool) (C : CallL) (ask : FuncId → Nat) (askC : BinOp → Value → Value → Bool) (n : Nat) (f : FuncId) (args : Array Value) (H : AHeap) (s : List Ans) (ls : List (Option LpA)) : Option (Value × AHeap × List Obl × List LpO) :=
  if fs f then
    match P.funcs[f]? with
    | some fn => match fn.body with
      | some c =>
        match evT C P O q ask askC n c (args.toList ++ List.replicate (fn.ntmps - args.size) undef) H s ls with
        | some (.exit _, _, _, _, _, _, _) => none
        | some (.goto _, _, _, _, _, _, _) => none
        | some (_, tm, H', _, _, l, lo) => match resV P H' tm fn.results.toList with
          | some v => some (v, H', l, lo)
          | none => none
        | none => none
      | none => none
    | none => none
  else none

theorem evFuncT_sound {O : Orc} (hO : OrcOK P O) (hm : P.follows .mixedOrders = true) {q : FuncId → Nat} {fs : FuncId → Bool} (hfs : FsOK P q fs) {C : CallL} (hC : CallOK P C) {ask : FuncId → Nat} {askC : BinOp → Value → Value → Bool} {n : Nat} {f : FuncId} {args : Array Value} {H H' : AHeap} {s : List Ans} {ls : List (Option LpA)} {v : Value} {l : List Obl} {lo : List LpO}
    (h : evFuncT P O q fs C ask askC n f args H s ls = some (v, H', l, lo)) (hl : okAll P l) (hlo : ∀ x ∈ lo, LpO.ok P O q x) : Runs P f args H v H' := by
  unfold evFuncT at h
  split at h
  · rename_i hf
    obtain ⟨fn, c, h1, h2, h3, h4⟩ := hfs f hf
    simp only [h1, h2] at h
    split at h
    · cases h
    · cases h
    · rename_i e tm H1 s1 ls1 l1 lo1 hne hng hev
      split at h
      · rename_i u hu
        simp only [Option.some.injEq, Prod.mk.injEq] at h
        obtain ⟨rfl, rfl, rfl, rfl⟩ := h
        have hrel := evT_rel hO hC n c _ H s ls _ hev hl.all hlo
        exact runs_of hO.base hm h1 h2 h4 h3 hrel (fun id he => by subst he; simp at hne hng) (fun id he => by subst he; simp at hne hng) hu
      · cases h
    · cases h
  · cases h

/-- A round that ends as rounds do, and the rounds behind it; the last round. -/
theorem rds_next {O : Orc} {q : FuncId → Nat} {body : Code} {tm tm1 : List Value} {H H1 : AHeap} {r : St} (h : evR P (Runs P) O q body tm H (.normal, tm1, H1)) (t : Rds (evR P (Runs P) O q body) tm1 H1 r) : Rds (evR P (Runs P) O q body) tm H r := .next h t
theorem rds_last {O : Orc} {q : FuncId → Nat} {body : Code} {tm tm1 : List Value} {H H1 : AHeap} {e : AExit} (h : evR P (Runs P) O q body tm H (e, tm1, H1)) (hn : e ≠ .normal) : Rds (evR P (Runs P) O q body) tm H (e, tm1, H1) := .last h hn

end
end Go.Proofs.YtameamgamdaibaaDoor
