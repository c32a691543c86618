/- Regions: in the text's order, and in any that their edges allow. -/
import Derived.Test.YtclphdmaedpipaaAbsI
namespace Go.Proofs.Ytclphdmaedpipaa
open Go
set_option linter.unusedVariables false

section
variable {P : Program}

theorem put_tmps (a : Act) (dst : Option Tmp) (v : Value) : (a.put dst v).tmps.toList = (match dst with | some d => a.tmps.toList.set d v | none => a.tmps.toList) := by
  cases dst <;> simp [Act.put]
theorem put_defers (a : Act) (dst : Option Tmp) (v : Value) : (a.put dst v).defers = a.defers := by
  cases dst <;> simp [Act.put]
theorem putT_rel {m : Mp} {tm : List Value} {a : Act} (h : VRl m tm a.tmps.toList) {v v' : Value} (hv : VR m v v') (dst : Option Tmp) : VRl m (putT tm dst v) (a.put dst v').tmps.toList := by
  rw [put_tmps]
  cases dst with
  | none => exact h
  | some d => exact h.set hv d

theorem wantedL_eq {m : Mp} {tm : List Value} {a : Act} (h : VRl m tm a.tmps.toList) (ops : Array Oper) (o : Oper) : wantedL ops o tm = Region.wanted o (yielded ops a.tmps) := by
  unfold wantedL Region.wanted yielded
  cases o.guard with
  | none => rfl
  | some g =>
    obtain ⟨j, want⟩ := g
    cases hj : ops[j]? with
    | none => simp [hj]
    | some p =>
      cases hd : p.dst with
      | none => simp [hj, hd]
      | some d =>
        simp only [hj, hd, Option.bind_some]
        cases ht : tm[d]? with
        | none =>
          have hl : tm.length ≤ d := by
            rcases Nat.lt_or_ge d tm.length with hlt | hge
            · rw [List.getElem?_eq_getElem hlt] at ht; cases ht
            · exact hge
          rw [h.length] at hl
          rw [Array.getElem?_eq_none (by simpa using hl)]
          rfl
        | some v =>
          obtain ⟨v', h1, h2⟩ := h.get ht
          simp at h1
          rw [h1]
          cases h2 <;> simp

theorem outR_sound {O : Orc} (hO : BaseOK P O) {q : FuncId → Nat} {ops : Array Oper} {o : Oper} (hok : opOk o = true) {tm : List Value} {a : Act} {H H' : AHeap} {m : Mp} {w : World} (hr : HR H m w) (ht : VRl m tm a.tmps.toList)
    {v : Value} (h : outR P (Runs P) O q ops o tm H v H') {K : Act → World → Prop} {Q : Exit → Act → World → Prop}
    (hK : ∀ a' m' w', VRl m' (putT tm o.dst v) a'.tmps.toList → a'.defers = a.defers → HR H' m' w' → Step H m w H' m' w' → K a' w') :
    if Region.wanted o (yielded ops a.tmps) then o.wp P a w K Q else K (a.put o.dst undef) w := by
  rw [← wantedL_eq ht ops o]
  unfold outR at h
  split at h
  · rename_i hw
    rw [if_pos hw]
    refine exR_sound hO hok hr ht h K Q fun v' m' w' hv hh hs => ?_
    exact hK _ m' w' (putT_rel (ht.mono hs.ext) hv o.dst) (put_defers _ _ _) hh hs
  · rename_i hw
    rw [if_neg hw]
    obtain ⟨rfl, rfl⟩ := h
    exact hK _ m w (putT_rel ht (.undef m) o.dst) (put_defers _ _ _) hr (.refl _ _ _)

theorem evOpsR_sound {O : Orc} (hO : BaseOK P O) {q : FuncId → Nat} {ops : Array Oper} {Q : Exit → Act → World → Prop} : ∀ (l : List Oper) (tm : List Value) (H : AHeap) (a : Act) (m : Mp) (w : World), l.all opOk = true → HR H m w → VRl m tm a.tmps.toList →
    ∀ {tm' H'}, evOpsR P (Runs P) O q ops l tm H tm' H' →
    (∀ a' m' w', VRl m' tm' a'.tmps.toList → a'.defers = a.defers → HR H' m' w' → Step H m w H' m' w' → Q .normal a' w') → wpList P ops Q l a w
  | [], tm, H, a, m, w, _, hr, ht, tm', H', h, hQ => by
    obtain ⟨rfl, rfl⟩ := h
    exact hQ a m w ht rfl hr (.refl _ _ _)
  | o :: rest, tm, H, a, m, w, hok, hr, ht, tm', H', h, hQ => by
    simp only [List.all_cons, Bool.and_eq_true] at hok
    obtain ⟨v, H1, ho, hrest⟩ := h
    refine wpList_step fun K hK => ?_
    refine outR_sound hO hok.1 hr ht ho fun a' m' w' h1 h2 h3 h4 => ?_
    refine hK _ _ (evOpsR_sound hO rest _ _ a' m' w' hok.2 h3 h1 hrest fun a2 m2 w2 g1 g2 g3 g4 => ?_)
    exact hQ a2 m2 w2 g1 (g2.trans h2) g3 (h4.trans g4)

/-! ### operations that may change places -/

theorem mapP_congr {ρ ρ' : Operand → Value} {xs : Array (Nat × Operand)} (h : ∀ x ∈ (xs.toList.map (·.2)), ρ x = ρ' x) : mapP ρ xs = mapP ρ' xs := by
  unfold mapP
  refine List.map_congr_left fun p hp => ?_
  rw [h p.2 (List.mem_map.2 ⟨p, hp, rfl⟩)]
theorem mapA_congr {ρ ρ' : Operand → Value} {xs : Array Operand} (h : ∀ x ∈ xs.toList, ρ x = ρ' x) : mapA ρ xs = mapA ρ' xs := by
  unfold mapA
  rw [List.map_congr_left h]
theorem map_congr' {ρ ρ' : Operand → Value} {xs : Array Operand} (h : ∀ x ∈ xs.toList, ρ x = ρ' x) : xs.toList.map ρ = xs.toList.map ρ' := List.map_congr_left h
theorem opt_congr {ρ ρ' : Operand → Value} {x : Option Operand} (h : ∀ y, x = some y → ρ y = ρ' y) : x.map ρ = x.map ρ' := by
  cases x with
  | none => rfl
  | some y => simp [h y rfl]

theorem exec1_congr {O : Orc} {q : FuncId → Nat} {o : Oper} {ρ ρ' : Operand → Value} (H : AHeap) (h : ∀ x ∈ o.op.operands.toList, ρ x = ρ' x) : exec1 P O q ρ H o = exec1 P O q ρ' H o := by
  unfold exec1
  cases hop : o.op <;> rw [hop] at h <;> simp only [Op.operands] at h ⊢
  case move x => rw [h x (by simp)]
  case assign x => rw [h x (by simp)]
  case pick c a b => rw [h c (by simp), h a (by simp), h b (by simp)]
  case box e x => rw [h x (by simp)]
  case build t ps => rw [mapP_congr (fun x hx => h x (by simpa using hx))]
  case buildSlice t len ps => rw [mapP_congr (fun x hx => h x (by simpa using hx))]
  case load t x => rw [h x (by simp)]
  case store t x y => rw [h x (by simp), h y (by simp)]
  case nilCheck x => rw [h x (by simp)]
  case binOp op t x y yt => rw [h x (by simp), h y (by simp)]
  case unOp op t x => rw [h x (by simp)]
  case convert s d x => rw [h x (by simp)]
  case makeInterface t x => rw [h x (by simp)]
  case makeFunc fn a b => rw [mapA_congr (fun x hx => h x (by simp; exact .inl (by simpa using hx))), mapA_congr (fun x hx => h x (by simp; exact .inr (by simpa using hx)))]
  case makeSlice t x y => rw [h x (by simp), h y (by simp)]
  case slice t x lo hi mx =>
    rw [h x (by simp), opt_congr (fun y hy => h y (by simp [hy])), opt_congr (x := hi) (fun y hy => h y (by simp [hy])), opt_congr (x := mx) (fun y hy => h y (by simp [hy]))]
  case fieldAddr t x f => rw [h x (by simp)]
  case field t x f => rw [h x (by simp)]
  case indexAddr t x i => rw [h x (by simp), h i (by simp)]
  case index t x i => rw [h x (by simp), h i (by simp)]
  case extract t i => rw [h t (by simp)]
  case call c =>
    have hargs : ∀ x ∈ c.args.toList, ρ x = ρ' x := fun x hx => h x (by
      simp only [Call.operands]
      cases c.callee <;> simp <;> first | exact .inr (by simpa using hx) | simpa using hx)
    have e1 := mapA_congr hargs
    have e2 := map_congr' hargs
    have e3 : ∀ f, c.callee = .value f → ρ f = ρ' f := fun f hf => h f (by simp [Call.operands, hf])
    cases hc : c.callee with
    | value f => simp only [e3 f hc, e2]
    | invoke r n => rfl
    | builtin b =>
      cases b <;> simp only [e1]
      · cases ha : c.args.toList with
        | nil => rfl
        | cons s l1 =>
          cases l1 with
          | nil => rfl
          | cons x l2 =>
            cases l2 with
            | cons y l3 => rfl
            | nil =>
              have e1 := hargs s (by simp [ha])
              have e2 := hargs x (by simp [ha])
              rcases c.argTypes.toList with _ | ⟨t, _ | ⟨t2, _ | ⟨t3, l⟩⟩⟩ <;> simp [e1, e2]
      · cases ha : c.args.toList with
        | nil => rfl
        | cons x l1 =>
          cases l1 with
          | nil =>
            have e1 := hargs x (by simp [ha])
            rcases c.argTypes.toList with _ | ⟨t, _ | ⟨t2, l⟩⟩ <;> simp [e1]
          | cons y l2 => rfl

theorem evalT_put {tm : List Value} {dst : Option Tmp} {v : Value} {x : Operand} (h : ∀ d, dst = some d → x ≠ .tmp d) : evalT (putT tm dst v) x = evalT tm x := by
  cases dst with
  | none => rfl
  | some d =>
    cases x with
    | tmp t =>
      have hne : d ≠ t := fun he => h d rfl (by rw [he])
      simp [evalT, getT_get, putT, List.getElem?_set_ne hne]
    | _ => rfl

theorem wantedL_put {ops : Array Oper} {o : Oper} {tm : List Value} {dst : Option Tmp} {v : Value} (h : ∀ d, dst = some d → d ∉ o.looksAt ops) : wantedL ops o (putT tm dst v) = wantedL ops o tm := by
  cases dst with
  | none => rfl
  | some d =>
    have hd := h d rfl
    unfold wantedL
    cases hg : o.guard with
    | none => rfl
    | some g =>
      obtain ⟨j, want⟩ := g
      simp only
      cases hj : ops[j]? with
      | none => rfl
      | some p =>
        simp only
        cases hpd : p.dst with
        | none => rfl
        | some e =>
          simp only
          have hne : d ≠ e := fun he => hd (by simp [Oper.looksAt, hg, hj, hpd, he])
          simp [putT, List.getElem?_set_ne hne]

theorem exR_congr {C : FuncId → Array Value → AHeap → Value → AHeap → Prop} {O : Orc} {q : FuncId → Nat} {o : Oper} {ρ ρ' : Operand → Value} (H : AHeap) (v : Value) (H' : AHeap) (h : ∀ x ∈ o.op.operands.toList, ρ x = ρ' x) : exR P C O q ρ H o v H' ↔ exR P C O q ρ' H o v H' := by
  unfold exR
  have e := exec1_congr (P := P) (O := noCall O) (q := q) H h
  cases hop : o.op with
  | call c =>
    rw [hop] at h
    simp only [Op.operands] at h
    have hargs : ∀ x ∈ c.args.toList, ρ x = ρ' x := fun x hx => h x (by
      simp only [Call.operands]
      cases c.callee <;> simp <;> first | exact .inr (by simpa using hx) | simpa using hx)
    simp only
    cases hc : c.callee with
    | value f => simp only [h f (by simp [Call.operands, hc]), map_congr' hargs]
    | invoke r n => simp only [e]
    | builtin b => simp only [e]
  | _ => simp only [e]

theorem outR_congr {C : FuncId → Array Value → AHeap → Value → AHeap → Prop} {O : Orc} {q : FuncId → Nat} {ops : Array Oper} {o : Oper} {tm : List Value} (H : AHeap) {dst : Option Tmp} (u v : Value) (H' : AHeap) (h : ∀ d, dst = some d → d ∉ o.looksAt ops) :
    outR P C O q ops o (putT tm dst u) H v H' ↔ outR P C O q ops o tm H v H' := by
  unfold outR
  rw [wantedL_put h]
  have := exR_congr (P := P) (C := C) (O := O) (q := q) (o := o) (ρ := evalT (putT tm dst u)) (ρ' := evalT tm) H v H' (fun x hx => evalT_put fun d hd he => h d hd (by
    subst he
    exact List.mem_append_left _ (List.mem_filterMap.2 ⟨.tmp d, hx, rfl⟩)))
  split
  · exact this
  · exact Iff.rfl

theorem putT_comm (tm : List Value) {x y : Option Tmp} (v u : Value) (h : ∀ d, x = some d → y ≠ some d) : putT (putT tm x v) y u = putT (putT tm y u) x v := by
  cases x with
  | none => rfl
  | some d =>
    cases y with
    | none => rfl
    | some e =>
      have hne : d ≠ e := fun he => h d rfl (he ▸ rfl)
      simp [putT, List.set_comm _ _ hne]

theorem map_fst {α β : Type} {x : Option α} {H H' : β} {v : α} (h : x.map (·, H) = some (v, H')) : H' = H ∧ x = some v := by
  cases x with
  | none => cases h
  | some u => simp at h; exact ⟨h.2.symm, by rw [h.1]⟩

theorem class_pure {O : Orc} {q : FuncId → Nat} {o : Oper} (hc : opClass q o = 0) {ρ : Operand → Value} (hρ : ∀ g, ρ (.func g) = .func (.func g) #[] #[]) {H H' : AHeap} {v : Value} (h : exec1 P O q ρ H o = some (v, H')) : H' = H ∧ ∀ H2, exec1 P O q ρ H2 o = some (v, H2) := by
  unfold opClass at hc
  have mp : ∀ {x : Option Value} {F : AHeap → Option (Value × AHeap)}, (∀ H2, F H2 = x.map (·, H2)) → F H = some (v, H') → H' = H ∧ ∀ H2, F H2 = some (v, H2) := by
    intro x F hF hh
    rw [hF] at hh
    obtain ⟨e1, e2⟩ := map_fst hh
    exact ⟨e1, fun H2 => by rw [hF, e2]; rfl⟩
  cases hop : o.op with
  | move x => refine mp (F := fun H => exec1 P O q ρ H o) (x := some (ρ x)) (fun H2 => by simp [exec1, hop]) h
  | assign x => refine mp (F := fun H => exec1 P O q ρ H o) (x := some (ρ x)) (fun H2 => by simp [exec1, hop]) h
  | pick c a b =>
    refine mp (F := fun H => exec1 P O q ρ H o) (x := match ρ c with | .bool t => some (if t then ρ a else ρ b) | _ => none) (fun H2 => ?_) h
    simp only [exec1, hop]; cases ρ c <;> rfl
  | build t ps => exact mp (F := fun H => exec1 P O q ρ H o) (x := buildV P t (mapP ρ ps)) (fun H2 => by simp [exec1, hop]) h
  | nilCheck x =>
    refine mp (F := fun H => exec1 P O q ρ H o) (x := match ρ x with | .pointer (some a) => some (.pointer (some a)) | .func (.func f) us vs => some (.func (.func f) us vs) | _ => none) (fun H2 => ?_) h
    simp only [exec1, hop]; split <;> simp_all
  | binOp op t x y yt => exact mp (F := fun H => exec1 P O q ρ H o) (x := binV P O op t x y (ρ x) (ρ y)) (fun H2 => by simp [exec1, hop]) h
  | unOp op t x =>
    refine mp (F := fun H => exec1 P O q ρ H o) (x := if exactN 1 (ρ x) then pureV P (Op.unary op (ρ x)) else none) (fun H2 => ?_) h
    simp only [exec1, hop]; split <;> rfl
  | convert s d x => exact mp (F := fun H => exec1 P O q ρ H o) (x := convV P s d (ρ x)) (fun H2 => by simp [exec1, hop]) h
  | makeInterface t x =>
    refine mp (F := fun H => exec1 P O q ρ H o) (x := match P.underlying t with | some (.interface _) | none => none | some _ => some (.iface t (ρ x))) (fun H2 => ?_) h
    simp only [exec1, hop]; split <;> simp_all
  | makeFunc fn a b => exact mp (F := fun H => exec1 P O q ρ H o) (x := some (.func fn (mapA ρ a) (mapA ρ b))) (fun H2 => by simp [exec1, hop]) h
  | slice t x lo hi mx => exact mp (F := fun H => exec1 P O q ρ H o) (x := sliceV P t (ρ x) (lo.map ρ) (hi.map ρ) (mx.map ρ)) (fun H2 => by simp [exec1, hop]) h
  | fieldAddr t x f => exact mp (F := fun H => exec1 P O q ρ H o) (x := fieldAddrV P t (ρ x) f) (fun H2 => by simp [exec1, hop]) h
  | field t x f => exact mp (F := fun H => exec1 P O q ρ H o) (x := fieldV P t (ρ x) f) (fun H2 => by simp [exec1, hop]) h
  | indexAddr t x i => exact mp (F := fun H => exec1 P O q ρ H o) (x := indexAddrV P t (ρ x) (ρ i)) (fun H2 => by simp [exec1, hop]) h
  | index t x i => exact mp (F := fun H => exec1 P O q ρ H o) (x := indexV P t (ρ x) (ρ i)) (fun H2 => by simp [exec1, hop]) h
  | extract t i =>
    refine mp (F := fun H => exec1 P O q ρ H o) (x := match ρ t with | .tuple vs => vs[i]? | _ => none) (fun H2 => ?_) h
    simp only [exec1, hop]; split <;> simp_all
  | call c =>
    rw [hop] at hc
    simp only at hc
    cases hcal : c.callee with
    | invoke r n => rw [hcal] at hc; simp at hc
    | builtin b =>
      rw [hcal] at hc
      cases b <;> simp at hc
      · refine mp (F := fun H => exec1 P O q ρ H o) (x := match c.args.toList, c.argTypes.toList with | [x], [t] => lenV P t (ρ x) | _, _ => none) (fun H2 => ?_) h
        simp only [exec1, hop, hcal]; split <;> simp_all
      · refine mp (F := fun H => exec1 P O q ρ H o) (x := if (mapA ρ c.args).toList.all (exactN 1) then pureV P (Builtin.max_ c.argTypes o.type (mapA ρ c.args)) else none) (fun H2 => ?_) h
        simp only [exec1, hop, hcal]; split <;> rfl
      · refine mp (F := fun H => exec1 P O q ρ H o) (x := if (mapA ρ c.args).toList.all (exactN 1) then pureV P (Builtin.min_ c.argTypes o.type (mapA ρ c.args)) else none) (fun H2 => ?_) h
        simp only [exec1, hop, hcal]; split <;> rfl
    | value f =>
      rw [hcal] at hc
      cases f with
      | func g =>
        have hq : q g = 1 := by
          simp only at hc
          split at hc
          · assumption
          all_goals cases hc
        refine mp (F := fun H => exec1 P O q ρ H o) (x := match O.row g (c.args.toList.map ρ).toArray with
            | some v => some v
            | none => if closA (c.args.toList.map ρ).toArray then match O.call g (c.args.toList.map ρ).toArray #[] with
              | some (v, _) => if closN 4 v then some v else none
              | none => none else none) (fun H2 => ?_) h
        simp only [exec1, hop, hcal, hρ, callV, hq, List.nil_append, List.append_nil]
        cases O.row g (c.args.toList.map ρ).toArray with
        | some u => rfl
        | none =>
          simp only
          split
          · cases O.call g (c.args.toList.map ρ).toArray #[] with
            | none => rfl
            | some r =>
              obtain ⟨u, H3⟩ := r
              simp only
              split <;> rfl
          · rfl
      | _ => simp at hc
  | _ => first | (rw [hop] at hc; simp at hc; done) | (simp [exec1, hop] at h; done)

/-- What a call's class says of the mode. -/
theorem class_call {q : FuncId → Nat} {o : Oper} {c : Call} (hop : o.op = .call c) {k : Nat} (hc : opClass q o = k) (hk : k = 1 ∨ k = 2 ∨ k = 4) :
    (k = 2 ∧ ∃ g, c.callee = .value (.func g) ∧ q g = 2) ∨ (k = 4 ∧ ∃ f, c.callee = .value f ∧ ∀ g, f = .func g → q g = 3) := by
  unfold opClass at hc
  rw [hop] at hc
  simp only at hc
  cases hcal : c.callee with
  | invoke r n => rw [hcal] at hc; simp only at hc; omega
  | builtin b => rw [hcal] at hc; cases b <;> simp only at hc <;> omega
  | value f =>
    rw [hcal] at hc
    cases f with
    | func g =>
      simp only at hc
      split at hc
      · omega
      · rename_i hq; exact .inl ⟨hc.symm, g, rfl, hq⟩
      · rename_i hq; exact .inr ⟨hc.symm, .func g, rfl, fun g' e => by injection e with e; subst e; exact hq⟩
      · omega
    | tmp t => simp only at hc; exact .inr ⟨hc.symm, .tmp t, rfl, fun g e => by cases e⟩
    | const v => simp only at hc; exact .inr ⟨hc.symm, .const v, rfl, fun g e => by cases e⟩
    | global g => simp only at hc; exact .inr ⟨hc.symm, .global g, rfl, fun g e => by cases e⟩

theorem class_load {O : Orc} {q : FuncId → Nat} {o : Oper} (hc : opClass q o = 1) {ρ : Operand → Value} : ∃ t x, o.op = .load t x := by
  cases hop : o.op with
  | load t x => exact ⟨t, x, rfl⟩
  | call c => rcases class_call hop hc (.inl rfl) with ⟨h, _⟩ | ⟨h, _⟩ <;> cases h
  | _ => unfold opClass at hc; rw [hop] at hc; simp at hc

theorem callV_read {O : Orc} {q : FuncId → Nat} {g : FuncId} (hq : q g = 3) {args : Array Value} {H H' : AHeap} {v : Value} (h : callV O q g args H = some (v, H')) : H' = H := by
  unfold callV at h
  split at h
  · injection h with h; simp only [Prod.mk.injEq] at h; exact h.2.symm
  · rw [hq] at h
    simp only at h
    split at h
    · split at h
      · injection h with h; simp only [Prod.mk.injEq] at h; exact h.2.symm
      · cases h
    · cases h

theorem callV_make {O : Orc} {q : FuncId → Nat} {g : FuncId} (hq : q g = 2) {args : Array Value} {H H' : AHeap} {v : Value} (h : callV O q g args H = some (v, H')) : ∃ L, H' = (H.toList ++ L).toArray := by
  unfold callV at h
  split at h
  · injection h with h; simp only [Prod.mk.injEq] at h; exact ⟨[], by rw [← h.2]; simp⟩
  · rw [hq] at h
    simp only at h
    split at h
    · split at h
      · injection h with h; simp only [Prod.mk.injEq] at h; exact ⟨_, h.2.symm⟩
      · cases h
    · cases h

theorem class_read {O : Orc} {q : FuncId → Nat} {o : Oper} (hc : opClass q o = 1 ∨ opClass q o = 4) {ρ : Operand → Value} (hρ : ∀ g, ρ (.func g) = .func (.func g) #[] #[]) {H H' : AHeap} {v : Value} (h : exec1 P O q ρ H o = some (v, H')) : H' = H := by
  rcases hc with hc | hc
  · obtain ⟨t, x, hop⟩ := class_load (O := O) (ρ := ρ) hc
    simp only [exec1, hop] at h
    split at h
    · exact (map_fst h).1
    · cases h
  · cases hop : o.op with
    | call c =>
      rcases class_call hop hc (.inr (.inr rfl)) with ⟨h4, _⟩ | ⟨_, f, hcal, hf⟩
      · cases h4
      · simp only [exec1, hop, hcal] at h
        split at h
        · rename_i g us vs hx
          split at h
          · rename_i g'
            have hg := hρ g'
            rw [hx] at hg
            simp only [Value.func.injEq, Fn.func.injEq] at hg
            obtain ⟨rfl, _, _⟩ := hg
            exact callV_read (hf g rfl) h
          · split at h
            · rename_i hq; exact callV_read hq h
            · cases h
        · cases h
    | _ => unfold opClass at hc; rw [hop] at hc; simp at hc

theorem push_toArray (H : AHeap) (x : Option ABlk) : H.push x = (H.toList ++ [x]).toArray := by
  apply Array.ext'; simp

theorem class_alloc {O : Orc} {q : FuncId → Nat} {o : Oper} (hc : opClass q o = 2) {ρ : Operand → Value} (hρ : ∀ g, ρ (.func g) = .func (.func g) #[] #[]) {H H' : AHeap} {v : Value} (h : exec1 P O q ρ H o = some (v, H')) : ∃ L, H' = (H.toList ++ L).toArray := by
  have pu : ∀ {x}, H.push x = H' → ∃ L, H' = (H.toList ++ L).toArray := fun {x} e => ⟨[x], by rw [← e, push_toArray]⟩
  cases hop : o.op with
  | alloc e =>
    simp only [exec1, hop] at h
    split at h
    · split at h
      · split at h
        · injection h with h; simp only [Prod.mk.injEq] at h; exact pu h.2
        · cases h
      · cases h
    · cases h
  | box e x => simp only [exec1, hop] at h; injection h with h; simp only [Prod.mk.injEq] at h; exact pu h.2
  | buildSlice t l ps =>
    simp only [exec1, hop] at h
    split at h
    · injection h with h; simp only [Prod.mk.injEq] at h; exact pu h.2
    · cases h
  | makeSlice t l c =>
    simp only [exec1, hop] at h
    unfold makeSliceV at h
    split at h
    · split at h
      · split at h
        · split at h
          · injection h with h; simp only [Prod.mk.injEq] at h; exact pu h.2
          · cases h
        · cases h
      · cases h
    · cases h
  | call c =>
    rcases class_call hop hc (.inr (.inl rfl)) with ⟨_, g, hcal, hq⟩ | ⟨h4, _⟩
    · simp only [exec1, hop, hcal, hρ] at h
      exact callV_make hq h
    · cases h4
  | _ => unfold opClass at hc; rw [hop] at hc; simp at hc

theorem readVar_push {t : TypeId} {H : AHeap} {a : Addr} (L : List (Option ABlk)) (ha : a.block < H.size) : readVar P (H.toList ++ L).toArray t a = readVar P H t a := by
  have : (H.toList ++ L).toArray[a.block]? = H[a.block]? := by
    simp only [List.getElem?_toArray]
    rw [List.getElem?_append_left (by simpa using ha)]; simp
  unfold readVar
  rw [this]

theorem load_out {O : Orc} {q : FuncId → Nat} {o : Oper} {t : TypeId} {x : Operand} (hop : o.op = .load t x) {ρ : Operand → Value} {H H' : AHeap} {v : Value} :
    exec1 P O q ρ H o = some (v, H') ↔ H' = H ∧ ∃ a, ρ x = .pointer (some a) ∧ readVar P H t a = some v := by
  simp only [exec1, hop]
  constructor
  · intro h
    split at h
    · rename_i a ha
      obtain ⟨e1, e2⟩ := map_fst h
      exact ⟨e1, a, ha, e2⟩
    · cases h
  · rintro ⟨rfl, a, ha, hr⟩
    rw [ha]; simp [hr]

theorem readVar_lt {t : TypeId} {H : AHeap} {a : Addr} {v : Value} (h : readVar P H t a = some v) : a.block < H.size := by
  unfold readVar at h
  split at h
  · rename_i B hb; exact lt_of_get hb
  · cases h

theorem exR_other {C : FuncId → Array Value → AHeap → Value → AHeap → Prop} {O : Orc} {q : FuncId → Nat} {o : Oper} {ρ : Operand → Value} {H H' : AHeap} {v : Value} (h : ∀ c f, o.op = .call c → c.callee ≠ .value f) :
    exR P C O q ρ H o v H' ↔ exec1 P (noCall O) q ρ H o = some (v, H') := by
  unfold exR
  cases hop : o.op with
  | call c =>
    simp only
    cases hc : c.callee with
    | value f => exact absurd hc (h c f hop)
    | _ => exact Iff.rfl
  | _ => exact Iff.rfl

theorem valueCall (o : Oper) : (∃ c f, o.op = .call c ∧ c.callee = .value f) ∨ ∀ c f, o.op = .call c → c.callee ≠ .value f := by
  cases hop : o.op with
  | call c =>
    cases hc : c.callee with
    | value f => exact .inl ⟨c, f, rfl, hc⟩
    | _ => exact .inr fun c' f h e => by injection h with h; subst h; rw [hc] at e; cases e
  | _ => exact .inr fun c' f h => by cases h

section
variable {C : FuncId → Array Value → AHeap → Value → AHeap → Prop} {O : Orc} {q : FuncId → Nat} {o : Oper} {ρ : Operand → Value} {H H' : AHeap} {v : Value}

theorem exR_pure (hc : opClass q o = 0) (hρ : ∀ g, ρ (.func g) = .func (.func g) #[] #[]) (h : exR P C O q ρ H o v H') : H' = H ∧ ∀ H2, exR P C O q ρ H2 o v H2 := by
  rcases valueCall o with ⟨c, f, hop, hcal⟩ | hno
  · have hg : ∃ g, f = .func g ∧ q g = 1 := by
      unfold opClass at hc
      rw [hop] at hc
      simp only [hcal] at hc
      cases f with
      | func g =>
        simp only at hc
        split at hc
        · rename_i hq; exact ⟨g, rfl, hq⟩
        all_goals cases hc
      | _ => simp at hc
    obtain ⟨g, rfl, hq⟩ := hg
    unfold exR at h ⊢
    simp only [hop, hcal, hρ] at h ⊢
    refine ⟨?_, fun H2 => ⟨h.1, ?_⟩⟩
    · have h2 := h.2
      unfold callR at h2
      split at h2
      · exact h2.2
      · rw [hq] at h2; exact h2.2.2.1
    · have h2 := h.2
      unfold callR at h2 ⊢
      split at h2
      · exact ⟨h2.1, rfl⟩
      · rw [hq] at h2 ⊢; exact ⟨h2.1, h2.2.1, rfl, h2.2.2.2⟩
  · rw [exR_other hno] at h
    obtain ⟨e1, e2⟩ := class_pure hc hρ h
    exact ⟨e1, fun H2 => (exR_other hno).2 (e2 H2)⟩

theorem exR_read (hc : opClass q o = 1 ∨ opClass q o = 4) (hρ : ∀ g, ρ (.func g) = .func (.func g) #[] #[]) (h : exR P C O q ρ H o v H') : H' = H := by
  rcases valueCall o with ⟨c, f, hop, hcal⟩ | hno
  · have hf : ∀ g, f = .func g → q g = 3 := by
      rcases hc with hc | hc
      · rcases class_call hop hc (.inl rfl) with ⟨h, _⟩ | ⟨h, _⟩ <;> cases h
      · rcases class_call hop hc (.inr (.inr rfl)) with ⟨h4, _⟩ | ⟨_, f', hcal', hf⟩
        · cases h4
        · rw [hcal] at hcal'; injection hcal' with e; subst e; exact hf
    unfold exR at h
    simp only [hop, hcal] at h
    split at h
    · rename_i g us vs hx
      have hq : q g = 3 := by
        rcases h.1 with h1 | h1
        · cases f with
          | func g' =>
            have hg := hρ g'
            rw [hx] at hg
            simp only [Value.func.injEq, Fn.func.injEq] at hg
            obtain ⟨rfl, _, _⟩ := hg
            exact hf g rfl
          | _ => cases h1
        · exact h1
      have h2 := h.2
      unfold callR at h2
      split at h2
      · exact h2.2
      · rw [hq] at h2; exact h2.2.1
    · exact h.elim
  · rw [exR_other hno] at h
    exact class_read hc hρ h

theorem exR_alloc (hc : opClass q o = 2) (hρ : ∀ g, ρ (.func g) = .func (.func g) #[] #[]) (h : exR P C O q ρ H o v H') : ∃ L, H' = (H.toList ++ L).toArray := by
  rcases valueCall o with ⟨c, f, hop, hcal⟩ | hno
  · rcases class_call hop hc (.inr (.inl rfl)) with ⟨_, g, hcal', hq⟩ | ⟨h4, _⟩
    · rw [hcal] at hcal'; injection hcal' with e; subst e
      unfold exR at h
      simp only [hop, hcal, hρ] at h
      have h2 := h.2
      unfold callR at h2
      split at h2
      · exact ⟨[], by rw [h2.2]; simp⟩
      · rw [hq] at h2
        obtain ⟨H1, _, _, _, e⟩ := h2
        exact ⟨_, e⟩
    · cases h4
  · rw [exR_other hno] at h
    exact class_alloc hc hρ h

theorem exR_load {t : TypeId} {x : Operand} (hop : o.op = .load t x) : exR P C O q ρ H o v H' ↔ H' = H ∧ ∃ a, ρ x = .pointer (some a) ∧ readVar P H t a = some v := by
  rw [exR_other (by intro c f h; rw [hop] at h; cases h)]
  exact load_out hop
end

/-- TWO THAT MAY CHANGE PLACES, DO. -/
theorem swap {C : FuncId → Array Value → AHeap → Value → AHeap → Prop} {O : Orc} {q : FuncId → Nat} {ops : Array Oper} {p o : Oper} (hs : swapOk q ops p o = true) {tm : List Value} {H H1 H2 : AHeap} {vp vo : Value}
    (hwf : opClass q o ≠ 0 → ∀ x ∈ o.op.operands.toList, ∀ a, evalT tm x = .pointer (some a) → a.block < H.size)
    (h1 : outR P C O q ops p tm H vp H1) (h2 : outR P C O q ops o (putT tm p.dst vp) H1 vo H2) :
    ∃ Hm, outR P C O q ops o tm H vo Hm ∧ outR P C O q ops p (putT tm o.dst vo) Hm vp H2 ∧ putT (putT tm p.dst vp) o.dst vo = putT (putT tm o.dst vo) p.dst vp := by
  simp only [swapOk, Bool.and_eq_true] at hs
  obtain ⟨hap, hcl⟩ := hs
  obtain ⟨a1, a2, a3⟩ := Oper.apart_spec hap
  rw [outR_congr H1 vp vo H2 a1] at h2
  have hcomm := putT_comm tm (x := p.dst) (y := o.dst) vp vo a2
  have hcong : ∀ Hx, outR P C O q ops p (putT tm o.dst vo) Hx vp H2 ↔ outR P C O q ops p tm Hx vp H2 := fun Hx => outR_congr Hx vo vp H2 a3
  simp only [hcong]
  have hfun : ∀ g, evalT tm (.func g) = .func (.func g) #[] #[] := fun _ => rfl
  have pureOut : ∀ (r : Oper) (Hx Hy : AHeap) (v : Value), (opClass q r = 0 ∨ wantedL ops r tm = false) → outR P C O q ops r tm Hx v Hy → Hy = Hx ∧ ∀ Hz, outR P C O q ops r tm Hz v Hz := by
    intro r Hx Hy v hr hx
    unfold outR at hx ⊢
    by_cases hw : wantedL ops r tm = true
    · rcases hr with hr | hr
      · simp only [hw, if_true] at hx ⊢
        exact exR_pure hr hfun hx
      · rw [hw] at hr; cases hr
    · simp only [hw] at hx ⊢
      simp only [Bool.false_eq_true, if_false] at hx ⊢
      exact ⟨hx.2, fun Hz => ⟨hx.1, trivial⟩⟩
  by_cases hp : opClass q p = 0 ∨ wantedL ops p tm = false
  · obtain ⟨rfl, hpz⟩ := pureOut p H H1 vp hp h1
    exact ⟨H2, h2, hpz H2, hcomm⟩
  by_cases ho : opClass q o = 0 ∨ wantedL ops o tm = false
  · obtain ⟨rfl, hoz⟩ := pureOut o H1 H2 vo ho h2
    exact ⟨H, hoz H, h1, hcomm⟩
  have wp_ : wantedL ops p tm = true := by cases h : wantedL ops p tm <;> simp_all
  have wo_ : wantedL ops o tm = true := by cases h : wantedL ops o tm <;> simp_all
  have np : opClass q p ≠ 0 := fun h => hp (.inl h)
  have no : opClass q o ≠ 0 := fun h => ho (.inl h)
  have hcases : ((opClass q p = 1 ∨ opClass q p = 4) ∧ (opClass q o = 1 ∨ opClass q o = 4)) ∨ (opClass q p = 1 ∧ opClass q o = 2) ∨ (opClass q p = 2 ∧ opClass q o = 1) := by
    simp only [classOk, Bool.or_eq_true, Bool.and_eq_true, beq_iff_eq] at hcl
    omega
  simp only [outR, wp_, wo_, if_true] at h1 h2 ⊢
  rcases hcases with ⟨cp, co⟩ | ⟨cp, co⟩ | ⟨cp, co⟩
  · have e1 := exR_read cp hfun h1
    subst e1
    have e2 := exR_read co hfun h2
    subst e2
    exact ⟨_, h2, h1, hcomm⟩
  · obtain ⟨t, x, hop⟩ := class_load (O := O) (ρ := evalT tm) cp
    obtain ⟨rfl, a, ha, hrd⟩ := (exR_load hop).1 h1
    obtain ⟨L, rfl⟩ := exR_alloc co hfun h2
    refine ⟨_, h2, (exR_load hop).2 ⟨rfl, a, ha, ?_⟩, hcomm⟩
    rw [readVar_push _ (readVar_lt hrd)]; exact hrd
  · obtain ⟨t, x, hop⟩ := class_load (O := O) (ρ := evalT tm) co
    obtain ⟨L, rfl⟩ := exR_alloc cp hfun h1
    obtain ⟨rfl, a, ha, hrd⟩ := (exR_load hop).1 h2
    have hlt := hwf no x (by simp [hop, Op.operands]) a ha
    rw [readVar_push _ hlt] at hrd
    exact ⟨H, (exR_load hop).2 ⟨rfl, a, ha, hrd⟩, h1, hcomm⟩

end
end Go.Proofs.Ytclphdmaedpipaa
