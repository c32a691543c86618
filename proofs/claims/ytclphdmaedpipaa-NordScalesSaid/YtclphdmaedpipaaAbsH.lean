/- One operation of the interpreter is the model's: whatever it gives here, the model's run gives there. -/
import Derived.Test.YtclphdmaedpipaaAbsG
namespace Go.Proofs.Ytclphdmaedpipaa
open Go
set_option linter.unusedVariables false

/-- A CONTRACT: called with values that stand to these, in a memory that stands to this one, the function returns what stands to 'v', and leaves what stands to 'H''; nothing else that was there has changed. -/
def Runs (P : Program) (f : FuncId) (args : Array Value) (H : AHeap) (v : Value) (H' : AHeap) : Prop :=
  ∀ (m : Mp) (w : World) (args' : Array Value), HR H m w → VRs m args args' →
    (∀ w : World, (callFunc f args').run P w = .ok (.enter f args') w) ∧
    Calls P f args' w fun e w' => ∃ v' m', e = .returned v' ∧ VR m' v v' ∧ HR H' m' w' ∧ Step H m w H' m' w'

structure OrcOK (P : Program) (O : Orc) : Prop where
  call : ∀ f args H v H', O.call f args H = some (v, H') → Runs P f args H v H'
  row : ∀ f args v, O.row f args = some v → ∀ (m : Mp) (args' : Array Value), VRs m args args' → ∀ w : World, ∃ v', (callFunc f args').run P w = .ok (.value v') w ∧ VR m v v'
  bin : ∀ op t a b v, O.bin op t a b = some v → ∀ (m : Mp) (a' b' : Value), VR m a a' → VR m b b' → ∀ (x y : Operand) (w : World),
    ∃ v', (do eqGuard op t x y a' b'; binOp op t a' b').run P w = .ok v' w ∧ VR m v v'

structure BaseOK (P : Program) (O : Orc) : Prop where
  row : ∀ f args v, O.row f args = some v → ∀ (m : Mp) (args' : Array Value), VRs m args args' → ∀ w : World, ∃ v', (callFunc f args').run P w = .ok (.value v') w ∧ VR m v v'
  bin : ∀ op t a b v, O.bin op t a b = some v → ∀ (m : Mp) (a' b' : Value), VR m a a' → VR m b b' → ∀ (x y : Operand) (w : World),
    ∃ v', (do eqGuard op t x y a' b'; binOp op t a' b').run P w = .ok v' w ∧ VR m v v'
theorem BaseOK.none {P : Program} {O : Orc} (h : BaseOK P O) : OrcOK P (noCall O) := ⟨(fun _ _ _ _ _ hh => by cases hh), h.row, h.bin⟩
theorem OrcOK.base {P : Program} {O : Orc} (h : OrcOK P O) : BaseOK P O := ⟨h.row, h.bin⟩

theorem HR.empty (w : World) : HR #[] #[] w :=
  ⟨rfl, fun _ _ h => by simp at h, fun _ _ h => by simp at h, fun _ _ _ _ _ _ h => by simp at h⟩

theorem HR.same {H : AHeap} {m : Mp} {w w' : World} (h : HR H m w) (hs : w.heap.size ≤ w'.heap.size) (hk : ∀ g, g < w.heap.size → w'.heap[g]? = w.heap[g]?) : HR H m w' :=
  ⟨h.size, fun b l hl hv => Nat.lt_of_lt_of_le (h.old b l hl hv) hs,
   fun b B hb => let ⟨l, cs, fr, hl, r⟩ := h.blk b B hb; ⟨l, cs, fr, hl, r.mono (.refl m) (hk _ (h.old b l hl r.live))⟩, h.inj⟩

theorem closA_any {m m2 : Mp} {xs ys : Array Value} (h : closA xs = true) (hv : VRs m xs ys) : VRs m2 xs ys :=
  ⟨hv.1, fun i h1 h2 => (hv.2 i h1 h2).clos_any 4 _ _ ((List.all_eq_true.1 h) _ (by simp))⟩

/-- A quiet function leaves memory as it is. -/
theorem Runs.quiet {P : Program} {f : FuncId} {args : Array Value} {v : Value} {H2 : AHeap} (h : Runs P f args #[] v H2) (ha : closA args = true) (hv : closN 4 v = true) (H : AHeap) : Runs P f args H v H := by
  intro m w args' hr hargs
  obtain ⟨h1, h2⟩ := h #[] w args' (.empty w) (closA_any ha hargs)
  refine ⟨h1, h2.mono ?_⟩
  rintro e w' ⟨v', m', he, hvr, hr', hst⟩
  have hk : ∀ g, g < w.heap.size → w'.heap[g]? = w.heap[g]? := fun g hg => hst.keep g hg (by rintro ⟨b, B, l, hb, _⟩; simp at hb)
  exact ⟨v', m, he, hvr.clos_any 4 _ _ hv, hr.same hst.size hk, ⟨.refl m, hst.os, hst.tape, hst.output, hst.size, fun g hg _ => hk g hg, fun g hg => .inl hg⟩⟩

/-- A function that reads alone. -/
theorem Runs.reads {P : Program} {f : FuncId} {args : Array Value} {v : Value} {H H2 : AHeap} (h : Runs P f args (froze H) v H2) (hv : closN 4 v = true) : Runs P f args H v H := by
  intro m w args' hr hargs
  obtain ⟨h1, h2⟩ := h m w args' hr.froze hargs
  refine ⟨h1, h2.mono ?_⟩
  rintro e w' ⟨v', m', he, hvr, hr', hst⟩
  have hk : ∀ g, g < w.heap.size → w'.heap[g]? = w.heap[g]? := fun g hg => hst.keep g hg FP_froze
  exact ⟨v', m, he, hvr.clos_any 4 _ _ hv, hr.same hst.size hk, ⟨.refl m, hst.os, hst.tape, hst.output, hst.size, fun g hg _ => hk g hg, fun g hg => .inl hg⟩⟩

/-- A function that makes new memory, and writes none that was there. -/
theorem Runs.makes {P : Program} {f : FuncId} {args : Array Value} {v : Value} {H H1 : AHeap} (h : Runs P f args (froze H) v H1) (hs : H.size ≤ H1.size) (ho : (H1.toList.drop H.size).all isOwn = true) : Runs P f args H v (thaw H H1) := by
  intro m w args' hr hargs
  obtain ⟨h1, h2⟩ := h m w args' hr.froze hargs
  refine ⟨h1, h2.mono ?_⟩
  rintro e w' ⟨v', m', he, hvr, hr', hst⟩
  obtain ⟨g1, g2⟩ := hr.thaw hr' hst hs ho
  exact ⟨v', m', he, hvr, g1, g2⟩

section
variable {P : Program}

theorem eqGuard_float (op : BinOp) (t : TypeId) (x y : Operand) (k : FloatKind) (n : Nat) (b : Value) : eqGuard op t x y (.float k n) b = pure () := by cases op <;> rfl
theorem eqGuard_int (op : BinOp) (t : TypeId) (x y : Operand) (k : IntKind) (n : Int) (b : Value) : eqGuard op t x y (.int k n) b = pure () := by cases op <;> rfl

theorem run_binV {O : Orc} (hO : OrcOK P O) {op : BinOp} {t : TypeId} {x y : Operand} {m : Mp} {a b a' b' : Value} (ha : VR m a a') (hb : VR m b b') {v : Value} (h : binV P O op t x y a b = some v) (w : World) :
    ∃ v' n, (do eqGuard op t x y a' b'; binOp op t a' b').run P w = .ok v' { w with drawn := n } ∧ VR m v v' := by
  unfold binV at h
  split at h
  · rename_i k u k' u2
    cases ha with
    | @float _ _ u' hu =>
      cases hb with
      | @float _ _ u2' hu2 =>
        rw [eqGuard_float]
        split at h
        · rename_i hk
          subst hk
          split at h
          · rename_i har
            injection h with h; subst h
            have hop : op = .add ∨ op = .sub ∨ op = .mul ∨ op = .quo := by cases op <;> simp [isArith] at har <;> simp
            obtain ⟨r, n, h1, h2⟩ := run_floatArith (P := P) op t k u u' u2 u2' hop hu hu2 w
            exact ⟨.float k r, n, by simpa using h1, .float k h2⟩
          · simp only [Option.map_eq_some_iff] at h
            obtain ⟨c, hc, rfl⟩ := h
            refine ⟨.bool c, w.drawn, ?_, .bool c⟩
            have ho := order_alike (k := k) hu hu2
            unfold fcmp at hc
            cases op <;> simp only at hc <;> first
              | (cases hc; done)
              | (injection hc with hc; subst hc; simp [binOp, Op.floatCmp, ho]; done)
        · cases h
  · rename_i k i k' j
    cases ha
    cases hb
    rw [eqGuard_int]
    have hp := pureV_sound h m
    exact ⟨v, w.drawn, by simpa using hp.1 w, hp.2⟩
  · split at h
    · rename_i u hob
      injection h with h; subst h
      obtain ⟨v', h1, h2⟩ := hO.bin op t _ _ u hob m a' b' ha hb x y w
      exact ⟨v', w.drawn, h1, h2⟩
    · split at h
      · rename_i hc
        simp only [Bool.and_eq_true] at hc
        have e1 := ha.exact 3 _ _ hc.1
        have e2 := hb.exact 3 _ _ hc.2
        subst e1 e2
        have hp := pureV_sound h m
        exact ⟨v, w.drawn, hp.1 w, hp.2⟩
      · cases h

theorem run_convV {s d : TypeId} {m : Mp} {x x' : Value} (hx : VR m x x') {v : Value} (h : convV P s d x = some v) (w : World) :
    ∃ v', (convert s d x').run P w = .ok v' w ∧ VR m v v' := by
  unfold convV at h
  split at h
  · rename_i k b
    cases hx with
    | @float _ _ b' hb =>
      split at h
      · rename_i q q' hs hd
        split at h
        · rename_i hk
          subst hk
          injection h with h; subst h
          refine ⟨.float k b', ?_, .float k hb⟩
          simp [convert, run_underlying hs, run_underlying hd, Conv.floatToFloat]
        · cases h
      · split at h
        · cases h
        · rename_i hnan
          have : b = b' := by
            rcases hb with rfl | ⟨h1, _⟩
            · rfl
            · exact absurd h1 hnan
          subst this
          have hp := pureV_sound h m
          exact ⟨v, hp.1 w, hp.2⟩
  · split at h
    · rename_i hc
      have e := hx.exact 3 _ _ hc
      subst e
      have hp := pureV_sound h m
      exact ⟨v, hp.1 w, hp.2⟩
    · cases h

theorem getT_get : ∀ (tm : List Value) (t : Nat), getT tm t = tm[t]?.getD undef
  | [], _ => rfl
  | _ :: _, 0 => rfl
  | _ :: l, t + 1 => by simp [getT, getT_get l t]

theorem VR.undef (m : Mp) : VR m Go.undef Go.undef := .tuple rfl fun i h _ => by simp at h

theorem evalT_rel {m : Mp} {tm : List Value} {a : Act} (h : VRl m tm a.tmps.toList) {x : Operand} (hx : operandOk x = true) : VR m (evalT tm x) (a.eval x) := by
  cases x with
  | tmp t =>
    simp only [evalT, Act.eval, getT_get]
    rw [Array.getD_eq_getD_getElem?]
    cases hg : tm[t]? with
    | none =>
      have hl : tm.length ≤ t := by
        rcases Nat.lt_or_ge t tm.length with hlt | hge
        · rw [List.getElem?_eq_getElem hlt] at hg; cases hg
        · exact hge
      rw [h.length] at hl
      rw [Array.getElem?_eq_none (by simpa using hl)]
      exact .undef m
    | some v =>
      obtain ⟨v', h1, h2⟩ := h.get hg
      simp at h1
      rw [h1]
      exact h2
  | const v => exact .of_clos m 4 v hx
  | global g => cases hx
  | func f => exact .func _ rfl (fun i h _ => by simp at h) rfl (fun i h _ => by simp at h)

end
end Go.Proofs.Ytclphdmaedpipaa
