/- Loops whose state is told by what counts alone: blocks may be forgotten and numbered anew, temporaries forgotten. -/
import Derived.Test.YtameamgamdaibaaDoorAbsL
namespace Go.Proofs.YtameamgamdaibaaDoor
open Go
set_option linter.unusedVariables false

/-- What a piece of code leaves: of the blocks that were there ahead of n0 each stays where it was. -/
structure StepB (n0 : Nat) (H : AHeap) (m : Mp) (w : World) (H' : AHeap) (m' : Mp) (w' : World) : Prop where
  ext : ∀ (b : Nat) (l : Loc), b < n0 → m[b]? = some l → m'[b]? = some l
  os : w'.os = w.os
  tape : w'.tape = w.tape
  output : w'.output = w.output
  size : w.heap.size ≤ w'.heap.size
  keep : ∀ g, g < w.heap.size → ¬ FP H m g → w'.heap[g]? = w.heap[g]?
  fp : ∀ g, FP H' m' g → FP H m g ∨ w.heap.size ≤ g

theorem Step.toB {H H' : AHeap} {m m' : Mp} {w w' : World} (s : Step H m w H' m' w') (n0 : Nat) : StepB n0 H m w H' m' w' :=
  ⟨fun b l _ h => s.ext b l h, s.os, s.tape, s.output, s.size, s.keep, s.fp⟩
theorem StepB.step {n0 : Nat} {H H' : AHeap} {m m' : Mp} {w w' : World} (s : StepB n0 H m w H' m' w') (h : m.size ≤ n0) : Step H m w H' m' w' :=
  ⟨fun b l hb => s.ext b l (Nat.lt_of_lt_of_le (lt_of_get hb) h) hb, s.os, s.tape, s.output, s.size, s.keep, s.fp⟩
theorem StepB.trans {n0 : Nat} {H H1 H2 : AHeap} {m m1 m2 : Mp} {w w1 w2 : World} (a : StepB n0 H m w H1 m1 w1) (b : StepB n0 H1 m1 w1 H2 m2 w2) : StepB n0 H m w H2 m2 w2 where
  ext := fun x l hx h => b.ext x l hx (a.ext x l hx h)
  os := b.os.trans a.os
  tape := b.tape.trans a.tape
  output := b.output.trans a.output
  size := Nat.le_trans a.size b.size
  keep := fun g hg hn => (b.keep g (Nat.lt_of_lt_of_le hg a.size) (fun h => (a.fp g h).elim hn (fun h' => absurd hg (by omega)))).trans (a.keep g hg hn)
  fp := fun g h => (b.fp g h).elim (a.fp g) (fun h' => .inr (Nat.le_trans a.size h'))

section
variable {P : Program}

/-- What a piece of code comes to here, it comes to there. -/
def CodeB (P : Program) (n0 : Nat) (c : Code) (tm : List Value) (H : AHeap) (r : St) : Prop :=
  ∀ (a : Act) (m : Mp) (w : World), HR H m w → VRl m tm a.tmps.toList →
    c.wp P (fun e a' w' => e = exitOf r.1 ∧ a'.defers = a.defers ∧ ∃ m', VRl m' r.2.1 a'.tmps.toList ∧ HR r.2.2 m' w' ∧ StepB n0 H m w r.2.2 m' w') a w

theorem CodeOK.toB {c : Code} {tm : List Value} {H : AHeap} {r : St} (h : CodeOK P c tm H r) (n0 : Nat) : CodeB P n0 c tm H r :=
  fun a m w hr ht => wp_mono (h a m w hr ht) fun e a' w' ⟨he, hd, m', h1, h2, h3⟩ => ⟨he, hd, m', h1, h2, h3.toB n0⟩
theorem CodeB.weaken {n0 : Nat} {c : Code} {tm : List Value} {H : AHeap} {r : St} (h : CodeB P n0 c tm H r) {a : Act} {m : Mp} {w : World} (hr : HR H m w) (ht : VRl m tm a.tmps.toList) {Q : Exit → Act → World → Prop}
    (hQ : ∀ a' m' w', VRl m' r.2.1 a'.tmps.toList → a'.defers = a.defers → HR r.2.2 m' w' → StepB n0 H m w r.2.2 m' w' → Q (exitOf r.1) a' w') : c.wp P Q a w :=
  wp_mono (h a m w hr ht) fun e a' w' ⟨he, hd, m', h1, h2, h3⟩ => by subst he; exact hQ a' m' w' h1 hd h2 h3
theorem CodeB.of {n0 : Nat} {c : Code} {tm : List Value} {H : AHeap} {r : St} (h : ∀ (a : Act) (m : Mp) (w : World), HR H m w → VRl m tm a.tmps.toList → ∀ Q : Exit → Act → World → Prop,
    (∀ a' m' w', VRl m' r.2.1 a'.tmps.toList → a'.defers = a.defers → HR r.2.2 m' w' → StepB n0 H m w r.2.2 m' w' → Q (exitOf r.1) a' w') → c.wp P Q a w) : CodeB P n0 c tm H r :=
  fun a m w hr ht => h a m w hr ht _ fun a' m' w' h1 h2 h3 h4 => ⟨rfl, h2, m', h1, h3, h4⟩

/-! ### values, blocks numbered anew -/

/-- A value of the new numbers (left), of the old ones (right); z: so many numbers are new. -/
inductive RelA (z : Nat) (ρ : Nat → Nat) : Value → Value → Prop
  | any (v : Value) : RelA z ρ (.map none) v
  | clos {v : Value} (h : closN 4 v = true) : RelA z ρ v v
  | loose : RelA z ρ (.slice none 0 1) (.slice none 0 1)
  | nil : RelA z ρ (.slice none 0 1) (.slice none 0 0)
  | ptr (b b' o : Nat) (s : Option Nat) (h : b < z) (e : ρ b = b') : RelA z ρ (.pointer (some ⟨b, o, s⟩)) (.pointer (some ⟨b', o, s⟩))
  | slice (b b' o : Nat) (s : Option Nat) (n c c' : Nat) (h : b < z) (e : ρ b = b') : RelA z ρ (.slice (some ⟨b, o, s⟩) n c) (.slice (some ⟨b', o, s⟩) n c')
  | func (fn : Fn) {xs ys us vs : Array Value} (h1 : xs.size = ys.size) (h2 : ∀ i (h : i < xs.size) (h' : i < ys.size), RelA z ρ xs[i] ys[i])
      (h3 : us.size = vs.size) (h4 : ∀ i (h : i < us.size) (h' : i < vs.size), RelA z ρ us[i] vs[i]) : RelA z ρ (.func fn xs us) (.func fn ys vs)
  | iface (t : TypeId) {x y : Value} (h : RelA z ρ x y) : RelA z ρ (.iface t x) (.iface t y)
  | agg {xs ys : Array Value} (h1 : xs.size = ys.size) (h2 : ∀ i (h : i < xs.size) (h' : i < ys.size), RelA z ρ xs[i] ys[i]) : RelA z ρ (.agg xs) (.agg ys)
  | tuple {xs ys : Array Value} (h1 : xs.size = ys.size) (h2 : ∀ i (h : i < xs.size) (h' : i < ys.size), RelA z ρ xs[i] ys[i]) : RelA z ρ (.tuple xs) (.tuple ys)
  | low {v : Value} (h : ∀ (m m2 : Mp) (x : Value), (∀ b l, b < z → ρ b = b → m[b]? = some l → m2[b]? = some l) → VR m v x → VR m2 v x) : RelA z ρ v v

/-- The new numbers' places. -/
def reM (z : Nat) (ρ : Nat → Nat) (m : Mp) : Mp := ((List.range z).map fun b => (m[ρ b]?).getD deadLoc).toArray
theorem reM_size (z : Nat) (ρ : Nat → Nat) (m : Mp) : (reM z ρ m).size = z := by simp [reM]
theorem reM_get {z : Nat} {ρ : Nat → Nat} {m : Mp} {b : Nat} {l : Loc} (hb : b < z) (h : m[ρ b]? = some l) : (reM z ρ m)[b]? = some l := by
  unfold reM
  simp only [List.getElem?_toArray, List.getElem?_map, List.getElem?_range hb, Option.map_some, h, Option.getD_some]
theorem reM_back {z : Nat} {ρ : Nat → Nat} {m : Mp} {b : Nat} {l : Loc} (h : (reM z ρ m)[b]? = some l) (hl : l.live = true) : b < z ∧ m[ρ b]? = some l := by
  have hb : b < z := by have := lt_of_get h; rwa [reM_size] at this
  refine ⟨hb, ?_⟩
  unfold reM at h
  simp only [List.getElem?_toArray, List.getElem?_map, List.getElem?_range hb, Option.map_some, Option.some.injEq] at h
  cases hm : m[ρ b]? with
  | none => rw [hm] at h; simp only [Option.getD_none] at h; subst h; cases hl
  | some l2 => rw [hm] at h; simp only [Option.getD_some] at h; rw [h]
theorem RelA.tr {z : Nat} {ρ : Nat → Nat} {m : Mp} {b b' o : Nat} {s : Option Nat} {a' : Addr} (hb : b < z) (e : ρ b = b') (h : tr m ⟨b', o, s⟩ = some a') : tr (reM z ρ m) ⟨b, o, s⟩ = some a' := by
  unfold Go.Proofs.YtameamgamdaibaaDoor.tr at h ⊢
  dsimp only at h ⊢
  cases hm : m[b']? with
  | none => rw [hm] at h; cases h
  | some l =>
    rw [reM_get hb (by rw [e]; exact hm)]
    rw [hm] at h
    exact h
theorem RelA.vr {z : Nat} {ρ : Nat → Nat} {m : Mp} {v2 v1 x : Value} (h : RelA z ρ v2 v1) (hx : VR m v1 x) : VR (reM z ρ m) v2 x := by
  induction h generalizing x with
  | any v => exact .any x
  | clos h => exact hx.clos_any 4 _ _ h
  | loose => cases hx; exact .loose _ _
  | nil => cases hx; exact .loose _ _
  | ptr b b' o s h e =>
    cases hx with
    | ptr ht => exact .ptr (RelA.tr h e ht)
  | slice b b' o s n c c' h e =>
    cases hx with
    | slice ht hn hr =>
      refine .slice (RelA.tr h e ht) hn fun l hl ho h0 => ?_
      obtain ⟨l0, g1, g2⟩ := tr_live ht
      dsimp only at g1 hl
      rw [reM_get h (by rw [e]; exact g1)] at hl
      injection hl with hl
      subst hl
      exact hr l0 g1 ho h0
  | func fn h1 _ h3 _ ih2 ih4 =>
    cases hx with
    | func _ g1 g2 g3 g4 => exact .func fn (h1.trans g1) (fun i a b => ih2 i a (by omega) (g2 i (by omega) b)) (h3.trans g3) (fun i a b => ih4 i a (by omega) (g4 i (by omega) b))
  | iface t _ ih =>
    cases hx with
    | iface _ g => exact .iface t (ih g)
  | agg h1 _ ih2 =>
    cases hx with
    | agg g1 g2 => exact .agg (h1.trans g1) (fun i a b => ih2 i a (by omega) (g2 i (by omega) b))
  | tuple h1 _ ih2 =>
    cases hx with
    | tuple g1 g2 => exact .tuple (h1.trans g1) (fun i a b => ih2 i a (by omega) (g2 i (by omega) b))
  | low h => exact h m _ x (fun b l hb e hm => reM_get hb (by rw [e]; exact hm)) hx

/-- A block of the new numbers (left), of the old ones (right). -/
structure RelK (z : Nat) (ρ : Nat → Nat) (B2 B1 : ABlk) : Prop where
  elem : B2.elem = B1.elem
  esz : B2.esz = B1.esz
  own : B2.own = true → B1.own = true
  size : B2.cells.size ≤ B1.cells.size
  cells : ∀ (i : Nat) (v2 v1 : Value), B2.cells[i]? = some v2 → B1.cells[i]? = some v1 → RelA z ρ v2 v1
/-- A state of the new numbers, of the old ones. -/
structure RelS (n0 : Nat) (ρ : Nat → Nat) (tm2 : List Value) (H2 : AHeap) (tm1 : List Value) (H1 : AHeap) : Prop where
  low : ∀ b, b < n0 → b < H2.size ∧ ρ b = b
  len : tm2.length = tm1.length
  tmp : ∀ (i : Nat) (v2 v1 : Value), tm2[i]? = some v2 → tm1[i]? = some v1 → RelA H2.size ρ v2 v1
  blk : ∀ (b : Nat) (B2 : ABlk), H2[b]? = some (some B2) → ∃ B1, H1[ρ b]? = some (some B1) ∧ RelK H2.size ρ B2 B1
  inj : ∀ (b b' : Nat) (B2 B2' : ABlk), H2[b]? = some (some B2) → H2[b']? = some (some B2') → ρ b = ρ b' → b = b'

theorem VRl.of_get {m : Mp} : ∀ {xs ys : List Value}, xs.length = ys.length → (∀ (i : Nat) (x y : Value), xs[i]? = some x → ys[i]? = some y → VR m x y) → VRl m xs ys := fun h1 h2 => .of_forall h1 h2
theorem RelS.vrl {n0 : Nat} {ρ : Nat → Nat} {tm2 tm1 : List Value} {H2 H1 : AHeap} (h : RelS n0 ρ tm2 H2 tm1 H1) {m : Mp} {xs : List Value} (hv : VRl m tm1 xs) : VRl (reM H2.size ρ m) tm2 xs := by
  refine .of_get (h.len.trans hv.length) fun i x y hx hy => ?_
  have hi : i < tm1.length := by rw [← h.len]; exact (List.getElem?_eq_some_iff.1 hx).1
  obtain ⟨y', g1, g2⟩ := hv.get (List.getElem?_eq_getElem hi)
  rw [hy] at g1
  injection g1 with g1
  subst g1
  exact (h.tmp i x _ hx (List.getElem?_eq_getElem hi)).vr g2
theorem RelS.hr {n0 : Nat} {ρ : Nat → Nat} {tm2 tm1 : List Value} {H2 H1 : AHeap} (h : RelS n0 ρ tm2 H2 tm1 H1) {m : Mp} {w : World} (hr : HR H1 m w) : HR H2 (reM H2.size ρ m) w where
  size := reM_size _ _ _
  old := fun b l hb hl => hr.old _ l (reM_back hb hl).2 hl
  blk := fun b B2 hb => by
    obtain ⟨B1, h1, hk⟩ := h.blk b B2 hb
    obtain ⟨l, cs, fr, hl, r⟩ := hr.blk _ B1 h1
    have hbz := lt_of_get hb
    refine ⟨l, cs, fr, reM_get hbz hl, r.real, r.size, fun o => r.own (hk.own o), fun o => ?_, ?_, fun i v hv => ?_, r.live⟩
    · obtain ⟨g1, g2, g3, g4⟩ := r.mine (hk.own o)
      exact ⟨g1, g2, g3.trans hk.elem.symm, g4.trans hk.esz.symm⟩
    · have := r.fits; have := hk.size; omega
    · have hi : i < B1.cells.size := Nat.lt_of_lt_of_le (lt_of_get hv) hk.size
      obtain ⟨v', g1, g2⟩ := r.vals i _ (Array.getElem?_eq_getElem hi)
      exact ⟨v', g1, (hk.cells i v _ hv (Array.getElem?_eq_getElem hi)).vr g2⟩
  inj := fun b b' B2 B2' l l' hb hb' hl hl' ho he => by
    obtain ⟨B1, h1, hk⟩ := h.blk b B2 hb
    obtain ⟨B1', h1', hk'⟩ := h.blk b' B2' hb'
    obtain ⟨l0, cs, fr, hl0, r⟩ := hr.blk _ B1 h1
    obtain ⟨l0', cs', fr', hl0', r'⟩ := hr.blk _ B1' h1'
    rw [reM_get (lt_of_get hb) hl0] at hl
    rw [reM_get (lt_of_get hb') hl0'] at hl'
    injection hl with hl
    injection hl' with hl'
    subst hl hl'
    exact h.inj b b' B2 B2' hb hb' (hr.inj _ _ B1 B1' _ _ h1 h1' hl0 hl0' (hk.own ho) he)
  lay := hr.lay
  far := fun g hg ⟨b, B2, l, hb, ho, hl, he⟩ => by
    obtain ⟨B1, h1, hk⟩ := h.blk b B2 hb
    obtain ⟨l1, cs, fr, hl1, r⟩ := hr.blk _ B1 h1
    rw [reM_get (lt_of_get hb) hl1] at hl
    injection hl with hl
    subst hl
    exact hr.far g hg ⟨_, B1, l1, h1, hk.own ho, hl1, he⟩
theorem RelS.step {n0 : Nat} {ρ : Nat → Nat} {tm2 tm1 : List Value} {H2 H1 : AHeap} (h : RelS n0 ρ tm2 H2 tm1 H1) {m : Mp} {w : World} (hr : HR H1 m w) : StepB n0 H1 m w H2 (reM H2.size ρ m) w where
  ext := fun b l hb hm => by
    obtain ⟨g1, g2⟩ := h.low b hb
    exact reM_get g1 (by rw [g2]; exact hm)
  os := rfl
  tape := rfl
  output := rfl
  size := Nat.le_refl _
  keep := fun _ _ _ => rfl
  fp := fun g ⟨b, B, l, hb, ho, hl, he⟩ => by
    obtain ⟨B1, h1, hk⟩ := h.blk b B hb
    obtain ⟨l0, cs, fr, hl0, r⟩ := hr.blk _ B1 h1
    rw [reM_get (lt_of_get hb) hl0] at hl
    injection hl with hl
    subst hl
    exact .inl ⟨_, B1, _, h1, hk.own ho, hl0, he⟩

/-- Behind a piece of code: the state, told by new numbers. -/
theorem CodeB.ren {n0 : Nat} {c : Code} {tm tm1 tm2 : List Value} {H H1 H2 : AHeap} {e : AExit} {ρ : Nat → Nat} (h : CodeB P n0 c tm H (e, tm1, H1)) (hs : RelS n0 ρ tm2 H2 tm1 H1) : CodeB P n0 c tm H (e, tm2, H2) :=
  .of fun a m w hr ht Q hQ => h.weaken hr ht fun a' m' w' h1 h2 h3 h4 => hQ a' _ w' (hs.vrl h1) h2 (hs.hr h3) (h4.trans (hs.step h3))
/-- Ahead of it. -/
theorem CodeB.ent {n0 : Nat} {c : Code} {tm tm2 : List Value} {H H2 : AHeap} {r : St} {ρ : Nat → Nat} (h : CodeB P n0 c tm2 H2 r) (hs : RelS n0 ρ tm2 H2 tm H) : CodeB P n0 c tm H r :=
  .of fun a m w hr ht Q hQ => h.weaken (hs.hr hr) (hs.vrl ht) fun a' m' w' h1 h2 h3 h4 => hQ a' m' w' h1 h2 h3 ((hs.step hr).trans h4)

/-! ### code -/
theorem CodeB.skip {n0 : Nat} {tm : List Value} {H : AHeap} : CodeB P n0 .skip tm H (.normal, tm, H) :=
  .of fun a m w hr ht Q hQ => wp_skip (hQ a m w ht rfl hr ((Step.refl _ _ _).toB _))
theorem CodeB.seq {n0 : Nat} {x y : Code} {tm tm1 : List Value} {H H1 : AHeap} {r : St} (hx : CodeB P n0 x tm H (.normal, tm1, H1)) (hy : CodeB P n0 y tm1 H1 r) : CodeB P n0 (.seq x y) tm H r :=
  .of fun a m w hr ht Q hQ => wp_seq (hx.weaken hr ht fun a' m' w' h1 h2 h3 h4 => hy.weaken h3 h1 fun a2 m2 w2 g1 g2 g3 g4 => hQ a2 m2 w2 g1 (g2.trans h2) g3 (h4.trans g4))
theorem CodeB.seq_out {n0 : Nat} {x y : Code} {tm tm1 : List Value} {H H1 : AHeap} {e : AExit} (hx : CodeB P n0 x tm H (e, tm1, H1)) (he : e ≠ .normal) : CodeB P n0 (.seq x y) tm H (e, tm1, H1) :=
  .of fun a m w hr ht Q hQ => wp_seq (hx.weaken hr ht fun a' m' w' h1 h2 h3 h4 => by
    have := hQ a' m' w' h1 h2 h3 h4
    cases e with
    | normal => exact absurd rfl he
    | exit id => exact this
    | ret => exact this
    | goto l => exact this)
theorem CodeB.cond {n0 : Nat} {c : Operand} {x y : Code} {tm : List Value} {H : AHeap} {r : St} {b : Bool} (hc : operandOk c = true) (hb : evalT tm c = .bool b) (h : if b then CodeB P n0 x tm H r else CodeB P n0 y tm H r) : CodeB P n0 (.cond c x y) tm H r :=
  .of fun a m w hr ht Q hQ => by
    have hv := evalT_rel ht hc
    rw [hb] at hv
    generalize hcv : a.eval c = cv at hv
    cases hv
    refine wp_cond hcv ?_
    cases b with
    | true => simp only [if_true] at h ⊢; exact h.weaken hr ht hQ
    | false => simp only [Bool.false_eq_true, if_false] at h ⊢; exact h.weaken hr ht hQ
def blkE (id : Nat) : AExit → AExit
  | .exit i => if i = id then .normal else .exit i
  | .normal => .normal
  | .ret => .ret
  | .goto l => .goto l
theorem CodeB.block {n0 : Nat} {id : Nat} {x : Code} {tm tm1 : List Value} {H H1 : AHeap} {e e' : AExit} (hx : CodeB P n0 x tm H (e, tm1, H1)) (he : blkE id e = e') : CodeB P n0 (.block id x) tm H (e', tm1, H1) :=
  .of fun a m w hr ht Q hQ => wp_block (hx.weaken hr ht fun a' m' w' h1 h2 h3 h4 => by
    have := hQ a' m' w' h1 h2 h3 h4
    subst he
    cases e with
    | normal => exact this
    | exit i =>
      simp only [exitOf, Exit.inBlock, blkE] at this ⊢
      by_cases e : i = id
      · simp only [if_pos e] at this ⊢; exact this
      · simp only [if_neg e] at this ⊢; exact this
    | ret => exact this
    | goto l => exact this)
/-- A scope that a jump leaves, and what stands from its label on. -/
theorem CodeB.scope {n0 : Nat} {c rest : Code} {l : Nat} {tm tm1 : List Value} {H H1 : AHeap} {r : St} (hx : CodeB P n0 c tm H (.goto l, tm1, H1)) (hf : findLabel c l = some rest) (hrest : CodeB P n0 rest tm1 H1 r) (hng : ∀ l', r.1 ≠ .goto l') : CodeB P n0 (.scope c) tm H r :=
  .of fun a m w hr ht Q hQ => by
    refine wp_scope_jumps l (fun a' w' => a'.defers = a.defers ∧ ∃ m', VRl m' tm1 a'.tmps.toList ∧ HR H1 m' w' ∧ StepB n0 H m w H1 m' w') (fun _ _ => 0) hf ?_ ?_
    · exact hx.weaken hr ht fun a' m' w' h1 h2 h3 h4 => ⟨rfl, h2, m', h1, h3, h4⟩
    · rintro a1 w1 ⟨g1, m1, g2, g3, g4⟩
      refine hrest.weaken g3 g2 fun a' m' w' h1 h2 h3 h4 => ?_
      have := hQ a' m' w' h1 (h2.trans g1) h3 (g4.trans h4)
      cases he : r.1 with
      | normal => rw [he] at this; exact this
      | exit id => rw [he] at this; exact this
      | ret => rw [he] at this; exact this
      | goto l' => exact absurd he (hng l')
theorem CodeB.scope_out {n0 : Nat} {c : Code} {tm tm1 : List Value} {H H1 : AHeap} {e : AExit} (hx : CodeB P n0 c tm H (e, tm1, H1)) (he : ∀ l, e ≠ .goto l) : CodeB P n0 (.scope c) tm H (e, tm1, H1) :=
  .of fun a m w hr ht Q hQ => by
    cases e with
    | normal => exact wp_scope_straight (hx.weaken hr ht hQ)
    | exit id => exact wp_scope_straight (hx.weaken hr ht hQ)
    | ret => exact wp_scope_straight (hx.weaken hr ht hQ)
    | goto l => exact absurd rfl (he l)

/-- Rounds. -/
inductive RdsB (P : Program) (n0 : Nat) (c : Code) : List Value → AHeap → St → Prop
  | next {tm : List Value} {H : AHeap} {tm1 : List Value} {H1 : AHeap} {r : St} (h : CodeB P n0 c tm H (.normal, tm1, H1)) (t : RdsB P n0 c tm1 H1 r) : RdsB P n0 c tm H r
  | last {tm : List Value} {H : AHeap} {r : St} (h : CodeB P n0 c tm H r) (hn : r.1 ≠ .normal) : RdsB P n0 c tm H r
theorem RdsB.rounds {n0 : Nat} {c : Code} {tm : List Value} {H : AHeap} {r : St} (h : RdsB P n0 c tm H r) : ∃ n, ∀ (a : Act) (m : Mp) (w : World), HR H m w → VRl m tm a.tmps.toList → ∀ Q : Exit → Act → World → Prop,
    (∀ a' m' w', VRl m' r.2.1 a'.tmps.toList → a'.defers = a.defers → HR r.2.2 m' w' → StepB n0 H m w r.2.2 m' w' → Q (exitOf r.1) a' w') → Code.rounds P c Q n a w := by
  induction h with
  | @next tm H tm1 H1 r h t ih =>
    obtain ⟨n, hn⟩ := ih
    refine ⟨n + 1, fun a m w hr ht Q hQ => ?_⟩
    rw [rounds_succ]
    refine h.weaken hr ht fun a' m' w' h1 h2 h3 h4 => ?_
    exact hn a' m' w' h3 h1 Q (fun a2 m2 w2 g1 g2 g3 g4 => hQ a2 m2 w2 g1 (g2.trans h2) g3 (h4.trans g4))
  | @last tm H r h hne =>
    refine ⟨1, fun a m w hr ht Q hQ => ?_⟩
    rw [rounds_succ]
    refine h.weaken hr ht fun a' m' w' h1 h2 h3 h4 => ?_
    have := hQ a' m' w' h1 h2 h3 h4
    cases he : r.1 with
    | normal => exact absurd he hne
    | exit id => rw [he] at this; exact this
    | ret => rw [he] at this; exact this
    | goto l => rw [he] at this; exact this
theorem RdsB.loop {n0 : Nat} {c : Code} {tm : List Value} {H : AHeap} {r : St} (h : RdsB P n0 c tm H r) : CodeB P n0 (.loop c) tm H r :=
  .of fun a m w hr ht Q hQ => by
    obtain ⟨n, hn⟩ := h.rounds
    exact wp_loop_rounds n (hn a m w hr ht Q hQ)
theorem RdsB.ent {n0 : Nat} {c : Code} {tm tm2 : List Value} {H H2 : AHeap} {r : St} {ρ : Nat → Nat} (h : RdsB P n0 c tm2 H2 r) (hs : RelS n0 ρ tm2 H2 tm H) : RdsB P n0 c tm H r := by
  cases h with
  | next h t => exact .next (h.ent hs) t
  | last h hn => exact .last (h.ent hs) hn
theorem rds_toB {O : Orc} (hO : BaseOK P O) (hm : P.follows .mixedOrders = true) {q : FuncId → Nat} {c : Code} (hc : codeOk q c = true) (n0 : Nat) {tm : List Value} {H : AHeap} {r : St} (h : Rds (evR P (Runs P) O q c) tm H r) : RdsB P n0 c tm H r := by
  induction h with
  | next h _ ih => exact .next ((evR_sound hO hm c _ _ _ hc h).toB n0) ih
  | last h hn => exact .last ((evR_sound hO hm c _ _ _ hc h).toB n0) hn

/-! ### the interpreter with loops that are answered so -/
/-- What must hold of a loop that was answered. -/
def LpO.okB (P : Program) (n0 : Nat) (x : LpO) : Prop := CodeB P n0 (.loop x.1) x.2.1 x.2.2.1 x.2.2.2

theorem evL_relB {O : Orc} (hO : OrcOK P O) (hm : P.follows .mixedOrders = true) {C : CallL} (hC : CallOK P C) {q : FuncId → Nat} {ask : FuncId → Nat} {askC : BinOp → Value → Value → Bool} {n n0 : Nat} {c : Code} {tm : List Value} {H : AHeap} {s : List Ans} {ls : List (Option LpA)} {r : StT} (hc : codeOk q c = true)
    (h : (evL C P O q ask askC n c tm H s).map (fun r => StT.of r ls) = some r) (hl : ∀ ob ∈ r.2.2.2.2.2.1, ob.ok P) : CodeB P n0 c tm H r.st :=
  (evR_sound hO.base hm c tm H _ hc (evL_relT hO hC h hl)).toB n0

theorem evT_bothB {O : Orc} (hO : OrcOK P O) (hm : P.follows .mixedOrders = true) {C : CallL} (hC : CallOK P C) {q : FuncId → Nat} {ask : FuncId → Nat} {askC : BinOp → Value → Value → Bool} {n0 : Nat} (n : Nat) : ∀ (c : Code), (∀ (tm : List Value) (H : AHeap) (s : List Ans) (ls : List (Option LpA)) (r : StT),
    codeOk q c = true → evT C P O q ask askC n c tm H s ls = some r → (∀ ob ∈ r.2.2.2.2.2.1, ob.ok P) → (∀ x ∈ r.2.2.2.2.2.2, LpO.okB P n0 x) → CodeB P n0 c tm H r.st) ∧
    ∀ (j : Nat) (tm : List Value) (H : AHeap) (s : List Ans) (ls : List (Option LpA)) (r : StT),
    codeOk q c = true → evTJ C P O q ask askC n c j tm H s ls = some r → (∀ ob ∈ r.2.2.2.2.2.1, ob.ok P) → (∀ x ∈ r.2.2.2.2.2.2, LpO.okB P n0 x) → ∃ rest, findLabel c j = some rest ∧ CodeB P n0 rest tm H r.st := by
  intro c
  induction c with
  | seq x y ihx ihy =>
    refine ⟨?_, ?_⟩
    rotate_left
    · intro j tm H s ls r hok h hl hlo
      simp only [codeOk, Bool.and_eq_true] at hok
      simp only [evTJ] at h
      cases hf : findLabel x j with
      | some rest0 =>
        rw [hf] at h
        simp only at h
        cases hx : evTJ C P O q ask askC n x j tm H s ls with
        | none => rw [hx] at h; cases h
        | some r1 =>
          rw [hx] at h
          obtain ⟨e, tm1, H1, s1, ls1, l1, lo1⟩ := r1
          cases e with
          | normal =>
            simp only at h
            split at h
            · rename_i e2 tm2 H2 s2 ls2 l2 lo2 hy
              injection h with h
              subst h
              obtain ⟨rest, hr1, hr2⟩ := ihx.2 j tm H s ls _ hok.1 hx (fun ob h => hl ob (List.mem_append_left _ h)) (fun x h => hlo x (List.mem_append_left _ h))
              exact ⟨.seq rest y, by simp only [findLabel, hr1], hr2.seq (ihy.1 tm1 H1 s1 ls1 (e2, tm2, H2, s2, ls2, l2, lo2) hok.2 hy (fun ob h => hl ob (List.mem_append_right _ h)) (fun x h => hlo x (List.mem_append_right _ h)))⟩
            · cases h
          | exit id => simp only at h; injection h with h; subst h; obtain ⟨rest, hr1, hr2⟩ := ihx.2 j tm H s ls _ hok.1 hx hl hlo; exact ⟨.seq rest y, by simp only [findLabel, hr1], hr2.seq_out (by simp)⟩
          | ret => simp only at h; injection h with h; subst h; obtain ⟨rest, hr1, hr2⟩ := ihx.2 j tm H s ls _ hok.1 hx hl hlo; exact ⟨.seq rest y, by simp only [findLabel, hr1], hr2.seq_out (by simp)⟩
          | goto l => simp only at h; injection h with h; subst h; obtain ⟨rest, hr1, hr2⟩ := ihx.2 j tm H s ls _ hok.1 hx hl hlo; exact ⟨.seq rest y, by simp only [findLabel, hr1], hr2.seq_out (by simp)⟩
      | none =>
        rw [hf] at h
        obtain ⟨rest, hr1, hr2⟩ := ihy.2 j tm H s ls r hok.2 h hl hlo
        exact ⟨rest, by simp only [findLabel, hf, hr1], hr2⟩
    intro tm H s ls r hok h hl hlo
    simp only [codeOk, Bool.and_eq_true] at hok
    simp only [evT] at h
    cases hx : evT C P O q ask askC n x tm H s ls with
    | none => rw [hx] at h; cases h
    | some r1 =>
      rw [hx] at h
      obtain ⟨e, tm1, H1, s1, ls1, l1, lo1⟩ := r1
      cases e with
      | normal =>
        simp only at h
        split at h
        · rename_i e2 tm2 H2 s2 ls2 l2 lo2 hy
          injection h with h
          subst h
          exact (ihx.1 tm H s ls _ hok.1 hx (fun ob h => hl ob (List.mem_append_left _ h)) (fun x h => hlo x (List.mem_append_left _ h))).seq (ihy.1 tm1 H1 s1 ls1 (e2, tm2, H2, s2, ls2, l2, lo2) hok.2 hy (fun ob h => hl ob (List.mem_append_right _ h)) (fun x h => hlo x (List.mem_append_right _ h)))
        · cases h
      | exit id => simp only at h; injection h with h; subst h; exact (ihx.1 tm H s ls _ hok.1 hx hl hlo).seq_out (by simp)
      | ret => simp only at h; injection h with h; subst h; exact (ihx.1 tm H s ls _ hok.1 hx hl hlo).seq_out (by simp)
      | goto l => simp only at h; injection h with h; subst h; exact (ihx.1 tm H s ls _ hok.1 hx hl hlo).seq_out (by simp)
  | cond c x y ihx ihy =>
    refine ⟨?_, fun j tm H s ls r _ h => (by simp [evTJ] at h)⟩
    intro tm H s ls r hok h hl hlo
    simp only [codeOk, Bool.and_eq_true] at hok
    simp only [evT] at h
    split at h
    · rename_i b hb
      refine .cond hok.1.1 hb ?_
      cases b with
      | true => simp only [if_true] at h ⊢; exact ihx.1 tm H s ls r hok.1.2 h hl hlo
      | false => simp only [Bool.false_eq_true, if_false] at h ⊢; exact ihy.1 tm H s ls r hok.2 h hl hlo
    · cases h
  | block id body ih =>
    refine ⟨?_, fun j tm H s ls r _ h => (by simp [evTJ] at h)⟩
    intro tm H s ls r hok h hl hlo
    simp only [codeOk] at hok
    simp only [evT] at h
    cases hx : evT C P O q ask askC n body tm H s ls with
    | none => rw [hx] at h; cases h
    | some r1 =>
      rw [hx] at h
      obtain ⟨e, tm1, H1, s1, ls1, l1, lo1⟩ := r1
      cases e with
      | normal => simp only at h; injection h with h; subst h; exact (ih.1 tm H s ls _ hok hx hl hlo).block rfl
      | exit id' =>
        simp only at h
        split at h
        · rename_i e; injection h with h; subst h; exact (ih.1 tm H s ls _ hok hx hl hlo).block (by simp [blkE, e])
        · rename_i e; injection h with h; subst h; exact (ih.1 tm H s ls _ hok hx hl hlo).block (by simp [blkE, e])
      | ret => simp only at h; injection h with h; subst h; exact (ih.1 tm H s ls _ hok hx hl hlo).block rfl
      | goto l => simp only at h; injection h with h; subst h; exact (ih.1 tm H s ls _ hok hx hl hlo).block rfl
  | loop body ih =>
    refine ⟨?_, fun j tm H s ls r _ h => (by simp [evTJ] at h)⟩
    intro tm H s ls r hok h hl hlo
    simp only [evT] at h
    split at h
    · rename_i a ls'
      injection h with h
      subst h
      exact hlo _ (List.mem_singleton.2 rfl)
    · exact evL_relB hO hm hC hok h hl
    · cases h
  | label l' =>
    refine ⟨fun tm H s ls r hok h hl hlo => by simp only [evT] at h; exact evL_relB hO hm hC hok h hl, fun j tm H s ls r hok h hl hlo => ?_⟩
    simp only [evTJ] at h
    split at h
    · rename_i e; injection h with h; subst h; exact ⟨.skip, by simp only [findLabel, e, if_true], .skip⟩
    · cases h
  | scope c ih =>
    refine ⟨?_, fun j tm H s ls r _ h => (by simp [evTJ] at h)⟩
    intro tm H s ls r hok h hl hlo
    simp only [codeOk] at hok
    simp only [evT] at h
    cases hx : evT C P O q ask askC n c tm H s ls with
    | none => rw [hx] at h; cases h
    | some r1 =>
      rw [hx] at h
      obtain ⟨e, tm1, H1, s1, ls1, l1, lo1⟩ := r1
      cases e with
      | normal => simp only at h; injection h with h; subst h; exact (ih.1 tm H s ls _ hok hx hl hlo).scope_out (by simp)
      | exit id => simp only at h; injection h with h; subst h; exact (ih.1 tm H s ls _ hok hx hl hlo).scope_out (by simp)
      | ret => simp only at h; injection h with h; subst h; exact (ih.1 tm H s ls _ hok hx hl hlo).scope_out (by simp)
      | goto l =>
        simp only at h
        split at h
        · cases h
        · rename_i e2 tm2 H2 s2 ls2 l2 lo2 hng hy
          injection h with h
          subst h
          obtain ⟨rest, hr1, hr2⟩ := ih.2 l tm1 H1 s1 ls1 (e2, tm2, H2, s2, ls2, l2, lo2) hok hy (fun ob h => hl ob (List.mem_append_right _ h)) (fun x h => hlo x (List.mem_append_right _ h))
          refine (ih.1 tm H s ls _ hok hx (fun ob h => hl ob (List.mem_append_left _ h)) (fun x h => hlo x (List.mem_append_left _ h))).scope hr1 hr2 ?_
          intro l' he
          simp only [StT.st] at he
          subst he
          exact hng l' rfl
        · cases h
  | _ => exact ⟨fun tm H s ls r hok h hl hlo => by simp only [evT] at h; exact evL_relB hO hm hC hok h hl, fun j tm H s ls r _ h => by simp [evTJ] at h⟩
theorem evT_relB {O : Orc} (hO : OrcOK P O) (hm : P.follows .mixedOrders = true) {C : CallL} (hC : CallOK P C) {q : FuncId → Nat} {ask : FuncId → Nat} {askC : BinOp → Value → Value → Bool} {n0 : Nat} (n : Nat) (c : Code) (tm : List Value) (H : AHeap) (s : List Ans) (ls : List (Option LpA)) (r : StT)
    (hok : codeOk q c = true) (h : evT C P O q ask askC n c tm H s ls = some r) (hl : ∀ ob ∈ r.2.2.2.2.2.1, ob.ok P) (hlo : ∀ x ∈ r.2.2.2.2.2.2, LpO.okB P n0 x) : CodeB P n0 c tm H r.st := (evT_bothB hO hm hC n c).1 tm H s ls r hok h hl hlo

/-- A function, by its code. -/
theorem runs_ofB {f : FuncId} {fn : Func} {c : Code} (hf : P.funcs[f]? = some fn) (hb : fn.body = some c) (hn : fn.name ≠ "runtime.NumGoroutine")
    {args : Array Value} {H H' : AHeap} {v : Value} {e : AExit} {tm : List Value} (h : CodeB P H.size c (args.toList ++ List.replicate (fn.ntmps - args.size) undef) H (e, tm, H'))
    (he : ∀ id, e ≠ .exit id) (hg : ∀ l, e ≠ .goto l) (hv : resV P H' tm fn.results.toList = some v) : Runs P f args H v H' := by
  intro m w args' hr hargs
  refine ⟨fun w => run_callFunc hf (by simp [hb]) hn args' w, ?_⟩
  refine calls_of_wp hf hb ?_
  have ht : VRl m (args.toList ++ List.replicate (fn.ntmps - args.size) undef) (args' ++ Array.replicate (fn.ntmps - args'.size) undef).toList := by
    simp only [Array.toList_append, Array.toList_replicate, ← hargs.1]
    refine hargs.list.append ?_
    induction (fn.ntmps - args.size) with
    | zero => exact .nil
    | succ k ih => exact .cons (.undef m) ih
  refine h.weaken hr (a := { tmps := args' ++ Array.replicate (fn.ntmps - args'.size) undef, defers := [] }) ht fun a' m' w' h1 h2 h3 h4 => ?_
  have fin : a'.defers = [] ∧ ∃ u, (results fn a'.tmps).run P w' = .ok u w' ∧ ∃ v' m', Ending.returned u = .returned v' ∧ VR m' v v' ∧ HR H' m' w' ∧ Step H m w H' m' w' := by
    obtain ⟨v', g1, g2⟩ := resV_sound h3 h1 hv
    exact ⟨h2, v', g1, v', m', rfl, g2, h3, h4.step (by rw [hr.size]; exact Nat.le_refl _)⟩
  cases e with
  | normal => exact fin
  | exit id => exact absurd rfl (he id)
  | ret => exact fin
  | goto l => exact absurd rfl (hg l)

theorem evFuncT_soundB {O : Orc} (hO : OrcOK P O) (hm : P.follows .mixedOrders = true) {q : FuncId → Nat} {fs : FuncId → Bool} (hfs : FsOK P q fs) {C : CallL} (hC : CallOK P C) {ask : FuncId → Nat} {askC : BinOp → Value → Value → Bool} {n : Nat} {f : FuncId} {args : Array Value} {H H' : AHeap} {s : List Ans} {ls : List (Option LpA)} {v : Value} {l : List Obl} {lo : List LpO}
    (h : evFuncT P O q fs C ask askC n f args H s ls = some (v, H', l, lo)) (hl : okAll P l) (hlo : ∀ x ∈ lo, LpO.okB P H.size x) : Runs P f args H v H' := by
  unfold evFuncT at h
  split at h
  · rename_i hf
    obtain ⟨fn, c, h1, h2, h3, h4⟩ := hfs f hf
    simp only [h1, h2] at h
    split at h
    · cases h
    · cases h
    · rename_i e tm H1 s1 ls1 l1 lo1 hne hng hev
      split at h
      · rename_i u hu
        simp only [Option.some.injEq, Prod.mk.injEq] at h
        obtain ⟨rfl, rfl, rfl, rfl⟩ := h
        have hrel := evT_relB hO hm hC n c _ H s ls _ h3 hev hl.all hlo
        exact runs_ofB h1 h2 h4 hrel (fun id he => by subst he; simp at hne hng) (fun id he => by subst he; simp at hne hng) hu
      · cases h
    · cases h
  · cases h

theorem okApp' : ∀ {a b : List Obl}, okAll P a → okAll P b → okAll P (a ++ b)
  | [], _, _, hb => hb
  | _ :: _, _, ha, hb => ⟨ha.1, okApp' ha.2 hb⟩
/-! ### states by what counts -/
/-- Temporaries: these, of nothing else anything is known. -/
def lookT : List (Nat × Value) → Nat → Value
  | [], _ => .map none
  | (j, v) :: l, i => if Nat.beq i j then v else lookT l i
def tmA (n : Nat) (L : List (Nat × Value)) : List Value := (List.range n).map (lookT L)
/-- What counts of a state: how many temporaries, those, and these blocks. -/
def slG (L : List Nat) (R : List Nat) (tm : List Value) (H : AHeap) : Nat × List Value × List (Option (Option ABlk)) := (tm.length, L.map (getT tm), R.map fun b => H[b]?)
/-- Blocks of the new numbers, of the old ones. -/
inductive RelBs (z : Nat) (ρ : Nat → Nat) : List (Option ABlk) → List (Option (Option ABlk)) → Prop
  | nil : RelBs z ρ [] []
  | none {l l'} (x) (t : RelBs z ρ l l') : RelBs z ρ (none :: l) (x :: l')
  | some {l l'} {B2 B1} (h : RelK z ρ B2 B1) (t : RelBs z ρ l l') : RelBs z ρ (some B2 :: l) (some (some B1) :: l')
inductive RelAs (z : Nat) (ρ : Nat → Nat) : List Value → List Value → Prop
  | nil : RelAs z ρ [] []
  | cons {l l'} {v2 v1} (h : RelA z ρ v2 v1) (t : RelAs z ρ l l') : RelAs z ρ (v2 :: l) (v1 :: l')
theorem RelBs.get {z : Nat} {ρ : Nat → Nat} {l : List (Option ABlk)} {l' : List (Option (Option ABlk))} (h : RelBs z ρ l l') : l.length = l'.length ∧ ∀ (b : Nat) (B2 : ABlk), l[b]? = Option.some (Option.some B2) → ∃ B1, l'[b]? = Option.some (Option.some (Option.some B1)) ∧ RelK z ρ B2 B1 := by
  induction h with
  | nil => exact ⟨rfl, fun b B2 h => by simp at h⟩
  | none x t ih =>
    refine ⟨by simp [ih.1], fun b B2 h => ?_⟩
    cases b with
    | zero => simp at h
    | succ b => simp only [List.getElem?_cons_succ] at h ⊢; exact ih.2 b B2 h
  | some hk t ih =>
    refine ⟨by simp [ih.1], fun b B2 h => ?_⟩
    cases b with
    | zero => simp only [List.getElem?_cons_zero, Option.some.injEq] at h; subst h; exact ⟨_, rfl, hk⟩
    | succ b => simp only [List.getElem?_cons_succ] at h ⊢; exact ih.2 b B2 h
theorem RelAs.look {z : Nat} {ρ : Nat → Nat} {tm : List Value} : ∀ {L : List (Nat × Value)}, RelAs z ρ (L.map (·.2)) ((L.map (·.1)).map (getT tm)) → ∀ i, RelA z ρ (lookT L i) (getT tm i)
  | [], _, i => .any _
  | (j, v) :: L, h, i => by
    cases h with
    | cons h t =>
      unfold lookT
      split
      · rename_i e
        rw [Nat.eq_of_beq_eq_true e]; exact h
      · exact RelAs.look t i
/-- A state is told by what counts of it: R tells the old number of each new one. -/
theorem relS_of {n0 n : Nat} {tm1 : List Value} {H1 : AHeap} {L : List (Nat × Value)} {R : List Nat} {H2 : List (Option ABlk)} {vs : List Value} {bs : List (Option (Option ABlk))}
    (h : slG (L.map (·.1)) R tm1 H1 = (n, vs, bs)) (hlow : (List.range n0).all (fun b => R[b]? == some b) = true) (hn : R.Nodup) (hv : RelAs H2.length (fun b => R.getD b 0) (L.map (·.2)) vs) (hb : RelBs H2.length (fun b => R.getD b 0) H2 bs) :
    RelS n0 (fun b => R.getD b 0) (tmA n L) H2.toArray tm1 H1 := by
  unfold slG at h
  simp only [Prod.mk.injEq] at h
  obtain ⟨h1, h2, h3⟩ := h
  subst h2 h3
  obtain ⟨g1, g2⟩ := hb.get
  have hR : H2.length = R.length := by rw [g1]; simp
  have hsz : H2.toArray.size = H2.length := by simp
  have at_ : ∀ b B2, H2.toArray[b]? = some (some B2) → b < R.length ∧ H2[b]? = some (some B2) := by
    intro b B2 h
    have h' : H2[b]? = some (some B2) := by simpa using h
    exact ⟨by rw [← hR]; exact (List.getElem?_eq_some_iff.1 h').1, h'⟩
  refine ⟨fun b hb => ?_, ?_, fun i v2 v1 hv2 hv1 => ?_, fun b B2 hB => ?_, fun b b' B2 B2' hB hB' e => ?_⟩
  · have := List.all_eq_true.1 hlow b (List.mem_range.2 hb)
    have e : R[b]? = some b := by simpa using this
    have hlt := (List.getElem?_eq_some_iff.1 e).1
    refine ⟨by rw [hsz, hR]; exact hlt, ?_⟩
    show R.getD b 0 = b
    rw [List.getD_eq_getElem?_getD, e]; rfl
  · unfold tmA; simp [h1]
  · unfold tmA at hv2
    have hi : i < n := by have := (List.getElem?_eq_some_iff.1 hv2).1; simpa using this
    rw [List.getElem?_map, List.getElem?_range hi, Option.map_some] at hv2
    injection hv2 with hv2
    subst hv2
    have e : getT tm1 i = v1 := by rw [getT_get, hv1]; rfl
    rw [hsz, ← e]
    exact hv.look i
  · obtain ⟨hlt, h'⟩ := at_ b B2 hB
    obtain ⟨B1, e1, e2⟩ := g2 b B2 h'
    rw [List.getElem?_map, List.getElem?_eq_getElem hlt, Option.map_some] at e1
    injection e1 with e1
    refine ⟨B1, ?_, by rw [hsz]; exact e2⟩
    show H1[R.getD b 0]? = _
    rw [List.getD_eq_getElem?_getD, List.getElem?_eq_getElem hlt]
    exact e1
  · obtain ⟨hlt, _⟩ := at_ b B2 hB
    obtain ⟨hlt', _⟩ := at_ b' B2' hB'
    simp only [List.getD_eq_getElem?_getD, List.getElem?_eq_getElem hlt, List.getElem?_eq_getElem hlt', Option.getD_some] at e
    exact (List.getElem_inj hn).1 e

/-- Blocks that stay as they are, of plain cells. -/
theorem RelK.refl {z : Nat} {ρ : Nat → Nat} {B : ABlk} (h : ∀ (i : Nat) (v : Value), B.cells[i]? = some v → RelA z ρ v v) : RelK z ρ B B :=
  ⟨rfl, rfl, fun h => h, Nat.le_refl _, fun i v2 v1 h2 h1 => by rw [h2] at h1; injection h1 with h1; subst h1; exact h i _ h2⟩
theorem RelK.plain {z : Nat} {ρ : Nat → Nat} {B : ABlk} (h : ∀ (i : Nat) (v : Value), B.cells[i]? = some v → closN 4 v = true) : RelK z ρ B B := .refl fun i v hv => .clos (h i v hv)
/-- Cells, one by one. -/
theorem RelK.list {z : Nat} {ρ : Nat → Nat} {l2 l1 : List Value} {t : TypeId} {k : Nat} {o : Bool} (h : RelAs z ρ l2 l1) : RelK z ρ ⟨l2.toArray, t, k, o⟩ ⟨l1.toArray, t, k, o⟩ := by
  have key : ∀ {l2 l1 : List Value}, RelAs z ρ l2 l1 → l2.length = l1.length ∧ ∀ (i : Nat) (v2 v1 : Value), l2[i]? = some v2 → l1[i]? = some v1 → RelA z ρ v2 v1 := by
    intro l2 l1 h
    induction h with
    | nil => exact ⟨rfl, fun i v2 v1 h => by simp at h⟩
    | cons h t ih =>
      refine ⟨by simp [ih.1], fun i v2 v1 g2 g1 => ?_⟩
      cases i with
      | zero => simp only [List.getElem?_cons_zero, Option.some.injEq] at g1 g2; subst g1 g2; exact h
      | succ i => simp only [List.getElem?_cons_succ] at g1 g2; exact ih.2 i v2 v1 g2 g1
  obtain ⟨h1, h2⟩ := key h
  exact ⟨rfl, rfl, fun h => h, by simp [h1], fun i v2 v1 g2 g1 => h2 i v2 v1 (by simpa using g2) (by simpa using g1)⟩

/-- Whatever state comes to this, of what counts, is told so by new numbers. -/
def EntOK (n0 : Nat) (K R : List Nat) (sl : Nat × List Value × List (Option (Option ABlk))) (tm2 : List Value) (H2 : AHeap) : Prop := ∀ tm1 H1, slG K R tm1 H1 = sl → ∃ ρ, RelS n0 ρ tm2 H2 tm1 H1
theorem entOK {n0 n : Nat} {L : List (Nat × Value)} {K R : List Nat} {H2 : List (Option ABlk)} {vs : List Value} {bs : List (Option (Option ABlk))}
    (hK : L.map (·.1) = K) (hlow : (List.range n0).all (fun b => R[b]? == some b) = true) (hn : R.Nodup) (hv : RelAs H2.length (fun b => R.getD b 0) (L.map (·.2)) vs) (hb : RelBs H2.length (fun b => R.getD b 0) H2 bs) :
    EntOK n0 K R (n, vs, bs) (tmA n L) H2.toArray := fun tm1 H1 h => by subst hK; exact ⟨_, relS_of h hlow hn hv hb⟩
/-- Loops that were answered, by what counts ahead of each. -/
def slL : List (List Nat × List Nat) → List LpO → List (Code × (Nat × List Value × List (Option (Option ABlk))) × St)
  | _, [] => []
  | k, z :: l => (z.1, slG (k.headD ([], [])).1 (k.headD ([], [])).2 z.2.1 z.2.2.1, z.2.2.2) :: slL k.tail l
def LpsOK (P : Program) (n0 : Nat) : List (List Nat × List Nat) → List (Code × (Nat × List Value × List (Option (Option ABlk))) × St) → Prop
  | _, [] => True
  | k, (c, sl, st) :: l => (∃ tm2 H2, EntOK n0 (k.headD ([], [])).1 (k.headD ([], [])).2 sl tm2 H2 ∧ CodeB P n0 (.loop c) tm2 H2 st) ∧ LpsOK P n0 k.tail l
theorem LpsOK.ok {n0 : Nat} : ∀ {k : List (List Nat × List Nat)} {lo : List LpO}, LpsOK P n0 k (slL k lo) → ∀ x ∈ lo, LpO.okB P n0 x
  | k, [], _, x, h => by cases h
  | k, z :: l, h, x, hx => by
    obtain ⟨⟨tm2, H2, h1, h2⟩, h3⟩ := h
    rcases List.mem_cons.1 hx with rfl | hx
    · obtain ⟨ρ, hρ⟩ := h1 _ _ rfl
      exact h2.ent hρ
    · exact LpsOK.ok h3 x hx
/-- The loops of a piece of code, those that stand in no other. -/
def loopsG : Code → List Code
  | .seq a b => loopsG a ++ loopsG b
  | .cond _ a b => loopsG a ++ loopsG b
  | .block _ b => loopsG b
  | .scope b => loopsG b
  | .loop b => [b]
  | _ => []
def bodyG (P : Program) (f : FuncId) (i : Nat) : Code :=
  match P.funcs[f]? with
  | some fn => match fn.body with
    | some c => (loopsG c).getD i .skip
    | none => .skip
  | none => .skip
def nTmp (P : Program) (f : FuncId) : Nat := match P.funcs[f]? with
  | some fn => fn.ntmps
  | none => 0

end
end Go.Proofs.YtameamgamdaibaaDoor
