/- Abstract heaps: how a heap of here stands to real memory, and what keeps that: a new block, a store, a block given up for a longer one. -/
import Derived.Test.YtclphdmaedpipaaAbsA
namespace Go.Proofs.Ytclphdmaedpipaa
open Go
set_option linter.unusedVariables false

structure ABlk where
  cells : Array Value
  elem : TypeId
  esz : Nat
  own : Bool

abbrev AHeap := Array (Option ABlk)

/-- The blocks that the run may write. -/
def FP (H : AHeap) (m : Mp) (g : Nat) : Prop := ∃ (b : Nat) (B : ABlk) (l : Loc), H[b]? = some (some B) ∧ B.own = true ∧ m[b]? = some l ∧ l.blk = g

/-- A block of here and the real one. -/
structure BR (m : Mp) (w : World) (B : ABlk) (l : Loc) (cs : Array Value) (fr : Nat × Nat) : Prop where
  real : w.heap[l.blk]? = some (.cells cs l.elem fr)
  size : cs.size = l.size
  own : B.own = true → l.own = true
  mine : B.own = true → fr = (0, 0) ∧ l.base = 0 ∧ l.elem = B.elem ∧ l.esz = B.esz
  fits : l.base + B.cells.size ≤ cs.size
  vals : ∀ (i : Nat) (v : Value), B.cells[i]? = some v → ∃ v', cs[l.base + i]? = some v' ∧ VR m v v'
  live : l.live = true

structure HR (H : AHeap) (m : Mp) (w : World) : Prop where
  size : m.size = H.size
  old : ∀ (b : Nat) (l : Loc), m[b]? = some l → l.live = true → l.blk < w.heap.size
  blk : ∀ (b : Nat) (B : ABlk), H[b]? = some (some B) → ∃ l cs fr, m[b]? = some l ∧ BR m w B l cs fr
  inj : ∀ (b b' : Nat) (B B' : ABlk) (l l' : Loc), H[b]? = some (some B) → H[b']? = some (some B') → m[b]? = some l → m[b']? = some l' → B.own = true → l.blk = l'.blk → b = b'

theorem HR.oldB {H : AHeap} {m : Mp} {w : World} (h : HR H m w) {b : Nat} {B : ABlk} {l : Loc} (hb : H[b]? = some (some B)) (hl : m[b]? = some l) : l.blk < w.heap.size := by
  obtain ⟨l', cs, fr, hl', r⟩ := h.blk b B hb
  rw [hl] at hl'
  injection hl' with e
  subst e
  exact h.old b l hl r.live

structure Step (H : AHeap) (m : Mp) (w : World) (H' : AHeap) (m' : Mp) (w' : World) : Prop where
  ext : Ext m m'
  os : w'.os = w.os
  tape : w'.tape = w.tape
  output : w'.output = w.output
  size : w.heap.size ≤ w'.heap.size
  keep : ∀ g, g < w.heap.size → ¬ FP H m g → w'.heap[g]? = w.heap[g]?
  fp : ∀ g, FP H' m' g → FP H m g ∨ w.heap.size ≤ g

theorem Step.refl (H : AHeap) (m : Mp) (w : World) : Step H m w H m w :=
  ⟨.refl m, rfl, rfl, rfl, Nat.le_refl _, fun _ _ _ => rfl, fun _ h => .inl h⟩

theorem Step.trans {H H1 H2 : AHeap} {m m1 m2 : Mp} {w w1 w2 : World} (a : Step H m w H1 m1 w1) (b : Step H1 m1 w1 H2 m2 w2) : Step H m w H2 m2 w2 where
  ext := a.ext.trans b.ext
  os := b.os.trans a.os
  tape := b.tape.trans a.tape
  output := b.output.trans a.output
  size := Nat.le_trans a.size b.size
  keep := fun g hg hn => (b.keep g (Nat.lt_of_lt_of_le hg a.size) (fun h => (a.fp g h).elim hn (fun h' => absurd hg (by omega)))).trans (a.keep g hg hn)
  fp := fun g h => (b.fp g h).elim (a.fp g) (fun h' => .inr (Nat.le_trans a.size h'))

theorem Step.drawn (H : AHeap) (m : Mp) (w : World) (n : Nat) : Step H m w H m { w with drawn := n } :=
  ⟨.refl m, rfl, rfl, rfl, Nat.le_refl _, fun _ _ _ => rfl, fun _ h => .inl h⟩
theorem HR.drawn {H : AHeap} {m : Mp} {w : World} (h : HR H m w) (n : Nat) : HR H m { w with drawn := n } :=
  ⟨h.size, h.old, fun b B hb => let ⟨l, cs, fr, hl, r⟩ := h.blk b B hb; ⟨l, cs, fr, hl, ⟨r.real, r.size, r.own, r.mine, r.fits, r.vals, r.live⟩⟩, h.inj⟩

theorem lt_of_get {α : Type} {a : Array α} {i : Nat} {x : α} (h : a[i]? = some x) : i < a.size := by
  rcases Nat.lt_or_ge i a.size with hl | hl
  · exact hl
  · rw [Array.getElem?_eq_none hl] at h; cases h

theorem get_push {α : Type} (a : Array α) (x : α) (i : Nat) (y : α) (h : (a.push x)[i]? = some y) : a[i]? = some y ∨ (i = a.size ∧ x = y) := by
  rcases Nat.lt_trichotomy i a.size with hl | hl | hl
  · rw [Array.getElem?_push_lt hl, ← Array.getElem?_eq_getElem hl] at h; exact .inl h
  · subst hl; simp at h; exact .inr ⟨rfl, h⟩
  · rw [Array.getElem?_eq_none (by simp; omega)] at h; cases h
theorem push_get {α : Type} {a : Array α} {x : α} {i : Nat} {y : α} (h : a[i]? = some y) : (a.push x)[i]? = some y := by
  have hl := lt_of_get h
  rw [Array.getElem?_push_lt hl, ← Array.getElem?_eq_getElem hl]; exact h
theorem push_new {α : Type} (a : Array α) (x : α) : (a.push x)[a.size]? = some x := by simp

theorem BR.mono {m m' : Mp} {w w' : World} {B : ABlk} {l : Loc} {cs : Array Value} {fr : Nat × Nat} (h : BR m w B l cs fr) (he : Ext m m')
    (hw : w'.heap[l.blk]? = w.heap[l.blk]?) : BR m' w' B l cs fr :=
  ⟨hw.trans h.real, h.size, h.own, h.mine, h.fits, fun i v hv => let ⟨v', a, b⟩ := h.vals i v hv; ⟨v', a, b.mono he⟩, h.live⟩

theorem BR.monoL {m m' : Mp} {w w' : World} {B : ABlk} {l : Loc} {cs : Array Value} {fr : Nat × Nat} (h : BR m w B l cs fr) (he : ExtL m m')
    (hw : w'.heap[l.blk]? = w.heap[l.blk]?) : BR m' w' B l cs fr :=
  ⟨hw.trans h.real, h.size, h.own, h.mine, h.fits, fun i v hv => let ⟨v', a, b⟩ := h.vals i v hv; ⟨v', a, b.monoL he⟩, h.live⟩

theorem alloc_new (w : World) (o : Obj) : (w.alloc o).heap[w.heap.size]? = some o := by
  show (w.heap.push o)[w.heap.size]? = _
  simp
theorem alloc_old (w : World) (o : Obj) {r : Nat} (h : r < w.heap.size) : (w.alloc o).heap[r]? = w.heap[r]? := by
  show (w.heap.push o)[r]? = _
  rw [Array.getElem?_push_lt h, Array.getElem?_eq_getElem h]

/-- A NEW BLOCK. -/
theorem HR.alloc {H : AHeap} {m : Mp} {w : World} (h : HR H m w) (cells cs : Array Value) (elem : TypeId) (esz : Nat) (hle : cells.size ≤ cs.size)
    (hv : ∀ (i : Nat) (v : Value), cells[i]? = some v → ∃ v', cs[i]? = some v' ∧ VR m v v') :
    HR (H.push (some ⟨cells, elem, esz, true⟩)) (m.push ⟨w.heap.size, 0, cs.size, esz, true, elem, true⟩) (w.alloc (.cells cs elem)) ∧
    Step H m w (H.push (some ⟨cells, elem, esz, true⟩)) (m.push ⟨w.heap.size, 0, cs.size, esz, true, elem, true⟩) (w.alloc (.cells cs elem)) := by
  have he : Ext m (m.push ⟨w.heap.size, 0, cs.size, esz, true, elem, true⟩) := .push _ _
  have hnew : (w.alloc (.cells cs elem)).heap[w.heap.size]? = some (.cells cs elem (0, 0)) := alloc_new w _
  refine ⟨⟨by simp [h.size], ?_, ?_, ?_⟩, ⟨he, rfl, rfl, rfl, by simp, fun g hg _ => alloc_old w _ hg, ?_⟩⟩
  · intro b l hl hv2
    rcases get_push _ _ _ _ hl with h1 | ⟨rfl, rfl⟩
    · have := h.old b l h1 hv2; simp; omega
    · simp
  · intro b B hb
    rcases get_push _ _ _ _ hb with h1 | ⟨rfl, hB⟩
    · obtain ⟨l, cs', fr, hl, r⟩ := h.blk b B h1
      exact ⟨l, cs', fr, push_get hl, r.mono he (alloc_old w _ (h.old b l hl r.live))⟩
    · injection hB with hB; subst hB
      refine ⟨⟨w.heap.size, 0, cs.size, esz, true, elem, true⟩, cs, (0, 0), ?_, ⟨hnew, rfl, fun _ => rfl, fun _ => ⟨rfl, rfl, rfl, rfl⟩, by simpa using hle, ?_, rfl⟩⟩
      · rw [← h.size]; exact push_new _ _
      · intro i v hi
        obtain ⟨v', h1, h2⟩ := hv i v hi
        exact ⟨v', by simpa using h1, h2.mono he⟩
  · intro b b' B B' l l' hb hb' hl hl' ho heq
    rcases get_push _ _ _ _ hb with h1 | ⟨rfl, hB⟩ <;> rcases get_push _ _ _ _ hb' with h1' | ⟨rfl, hB'⟩ <;> rcases get_push _ _ _ _ hl with h2 | ⟨e2, rfl⟩ <;> rcases get_push _ _ _ _ hl' with h2' | ⟨e2', rfl⟩
    · exact h.inj b b' B B' l l' h1 h1' h2 h2' ho heq
    · have := lt_of_get h1'; rw [← h.size] at this; omega
    · have := lt_of_get h1; rw [← h.size] at this; omega
    · have := lt_of_get h1; rw [← h.size] at this; omega
    · have := lt_of_get h2'; rw [h.size] at this; omega
    · have := h.oldB h1 h2; simp at heq; omega
    · have := lt_of_get h1; rw [← h.size] at this; omega
    · have := lt_of_get h1; rw [← h.size] at this; omega
    · have := lt_of_get h2; rw [h.size] at this; omega
    · have := lt_of_get h2; rw [h.size] at this; omega
    · have := h.oldB h1' h2'; simp at heq; omega
    · have := lt_of_get h1'; rw [← h.size] at this; omega
    · rfl
    · rfl
    · rfl
    · rfl
  · rintro g ⟨b, B, l, hb, ho, hl, rfl⟩
    rcases get_push _ _ _ _ hl with h2 | ⟨rfl, rfl⟩
    · rcases get_push _ _ _ _ hb with h1 | ⟨rfl, hB⟩
      · exact .inl ⟨b, B, l, h1, ho, h2, rfl⟩
      · have := lt_of_get h2; rw [h.size] at this; omega
    · exact .inr (Nat.le_refl _)

theorem size_setRow (w : World) (g : Nat) (cs : Array Value) : (w.setRow g cs).heap.size = w.heap.size := by simp [World.setRow]

/-- A STORE into a block of the run's own. -/
theorem HR.store {H : AHeap} {m : Mp} {w : World} (h : HR H m w) {b : Nat} {B : ABlk} {l : Loc} (hb : H[b]? = some (some B)) (ho : B.own = true) (hl : m[b]? = some l)
    {cs : Array Value} (r : BR m w B l cs (0, 0)) (cells' cs' : Array Value) (hsz : cs'.size = cs.size) (hle : cells'.size ≤ cs'.size)
    (hv : ∀ (i : Nat) (v : Value), cells'[i]? = some v → ∃ v', cs'[i]? = some v' ∧ VR m v v') :
    HR (H.setIfInBounds b (some { B with cells := cells' })) m (w.setRow l.blk cs') ∧ Step H m w (H.setIfInBounds b (some { B with cells := cells' })) m (w.setRow l.blk cs') := by
  have hlt := lt_of_get hb
  have hreal := r.real
  have hset : (w.setRow l.blk cs').heap[l.blk]? = some (.cells cs' l.elem (0, 0)) := setRow_heap w l.blk cs cs' l.elem (0, 0) hreal
  have hget : ∀ (b' : Nat) (B' : ABlk), (H.setIfInBounds b (some { B with cells := cells' }))[b']? = some (some B') → (b' = b ∧ B' = { B with cells := cells' }) ∨ (b' ≠ b ∧ H[b']? = some (some B')) := by
    intro b' B' hb'
    by_cases e : b = b'
    · subst e
      rw [Array.getElem?_setIfInBounds_self_of_lt hlt] at hb'
      injection hb' with hb'; injection hb' with hb'
      exact .inl ⟨rfl, hb'.symm⟩
    · rw [Array.getElem?_setIfInBounds_ne e] at hb'
      exact .inr ⟨fun h => e h.symm, hb'⟩
  refine ⟨⟨by simp [h.size], fun b' l' hl' hv2 => by rw [size_setRow]; exact h.old b' l' hl' hv2, ?_, ?_⟩, ⟨.refl m, rfl, rfl, rfl, by rw [size_setRow]; exact Nat.le_refl _, ?_, ?_⟩⟩
  · intro b' B' hb'
    rcases hget b' B' hb' with ⟨rfl, rfl⟩ | ⟨hne, h1⟩
    · have hm := r.mine ho
      refine ⟨l, cs', (0, 0), hl, ⟨hset, hsz.trans r.size, r.own, fun _ => ⟨rfl, hm.2.1, hm.2.2⟩, ?_, ?_, r.live⟩⟩
      · simpa [hm.2.1] using hle
      · intro i v hi
        simpa [hm.2.1] using hv i v hi
    · obtain ⟨l', cs'', fr', hl', r'⟩ := h.blk b' B' h1
      have hdiff : l'.blk ≠ l.blk := fun e => hne (h.inj b b' B B' l l' hb h1 hl hl' ho e.symm).symm
      exact ⟨l', cs'', fr', hl', r'.mono (.refl m) (setRow_other w l.blk l'.blk _ hdiff)⟩
  · intro b1 b2 B1 B2 l1 l2 h1 h2 hl1 hl2 ho1 heq
    rcases hget b1 B1 h1 with ⟨rfl, rfl⟩ | ⟨_, h1'⟩ <;> rcases hget b2 B2 h2 with ⟨rfl, rfl⟩ | ⟨_, h2'⟩
    · rfl
    · exact h.inj _ _ _ _ _ _ hb h2' hl1 hl2 ho heq
    · exact h.inj _ _ _ _ _ _ h1' hb hl1 hl2 ho1 heq
    · exact h.inj _ _ _ _ _ _ h1' h2' hl1 hl2 ho1 heq
  · intro g hg hn
    exact setRow_other w l.blk g _ (fun e => hn ⟨b, B, l, hb, ho, hl, e.symm⟩)
  · rintro g ⟨b', B', l', hb', ho', hl', rfl⟩
    rcases hget b' B' hb' with ⟨rfl, rfl⟩ | ⟨_, h1⟩
    · exact .inl ⟨_, B, l', hb, ho, hl', rfl⟩
    · exact .inl ⟨_, B', l', h1, ho', hl', rfl⟩

/-- A block is given up. -/
theorem HR.kill {H : AHeap} {m : Mp} {w : World} (h : HR H m w) (b : Nat) : HR (H.setIfInBounds b none) m w ∧ Step H m w (H.setIfInBounds b none) m w := by
  have hget : ∀ (b' : Nat) (B' : ABlk), (H.setIfInBounds b none)[b']? = some (some B') → b' ≠ b ∧ H[b']? = some (some B') := by
    intro b' B' hb'
    by_cases e : b = b'
    · subst e
      have hlt : b < H.size := by have := lt_of_get hb'; simpa using this
      rw [Array.getElem?_setIfInBounds_self_of_lt hlt] at hb'
      injection hb' with hb'; cases hb'
    · rw [Array.getElem?_setIfInBounds_ne e] at hb'
      exact ⟨fun h => e h.symm, hb'⟩
  refine ⟨⟨by simp [h.size], h.old, fun b' B' hb' => h.blk b' B' (hget b' B' hb').2, fun b1 b2 B1 B2 l1 l2 h1 h2 => h.inj b1 b2 B1 B2 l1 l2 (hget _ _ h1).2 (hget _ _ h2).2⟩,
    ⟨.refl m, rfl, rfl, rfl, Nat.le_refl _, fun _ _ _ => rfl, ?_⟩⟩
  rintro g ⟨b', B', l', hb', ho', hl', rfl⟩
  exact .inl ⟨b', B', l', (hget _ _ hb').2, ho', hl', rfl⟩

/-- A block is given up for a new one that lies in the same real block, which has been written behind it. -/
theorem HR.grow {H : AHeap} {m : Mp} {w : World} (h : HR H m w) {b : Nat} {B : ABlk} {l : Loc} (hb : H[b]? = some (some B)) (ho : B.own = true) (hl : m[b]? = some l)
    {cs : Array Value} (r : BR m w B l cs (0, 0)) (cells' cs' : Array Value) (hsz : cs'.size = cs.size) (hle : cells'.size ≤ cs'.size)
    (hv : ∀ (i : Nat) (v : Value), cells'[i]? = some v → ∃ v', cs'[i]? = some v' ∧ VR m v v') :
    HR ((H.setIfInBounds b none).push (some { B with cells := cells' })) (m.push l) (w.setRow l.blk cs') ∧
    Step H m w ((H.setIfInBounds b none).push (some { B with cells := cells' })) (m.push l) (w.setRow l.blk cs') := by
  have hlt := lt_of_get hb
  have hm := r.mine ho
  have he : Ext m (m.push l) := .push _ _
  have hset : (w.setRow l.blk cs').heap[l.blk]? = some (.cells cs' l.elem (0, 0)) := setRow_heap w l.blk cs cs' l.elem (0, 0) r.real
  have hget : ∀ (b' : Nat) (B' : ABlk), ((H.setIfInBounds b none).push (some { B with cells := cells' }))[b']? = some (some B') → (b' = m.size ∧ B' = { B with cells := cells' }) ∨ (b' ≠ b ∧ b' < m.size ∧ H[b']? = some (some B')) := by
    intro b' B' hb'
    rcases get_push _ _ _ _ hb' with h1 | ⟨h1, h2⟩
    · by_cases e : b = b'
      · subst e
        rw [Array.getElem?_setIfInBounds_self_of_lt hlt] at h1
        injection h1 with h1; cases h1
      · rw [Array.getElem?_setIfInBounds_ne e] at h1
        exact .inr ⟨fun h => e h.symm, by rw [h.size]; exact lt_of_get h1, h1⟩
    · injection h2 with h2
      exact .inl ⟨by rw [h1, h.size]; simp, h2.symm⟩
  have hpl : ∀ (b' : Nat) (l' : Loc), (m.push l)[b']? = some l' → b' < m.size → m[b']? = some l' := by
    intro b' l' h1 h2
    rcases get_push _ _ _ _ h1 with h3 | ⟨h3, _⟩
    · exact h3
    · omega
  have hpn : ∀ (l' : Loc), (m.push l)[m.size]? = some l' → l' = l := by
    intro l' h1
    rw [push_new] at h1; injection h1 with h1; exact h1.symm
  refine ⟨⟨by simp [h.size], ?_, ?_, ?_⟩, ⟨he, rfl, rfl, rfl, by rw [size_setRow]; exact Nat.le_refl _, ?_, ?_⟩⟩
  · intro b' l' hl' hv2
    rw [size_setRow]
    rcases get_push _ _ _ _ hl' with h3 | ⟨_, rfl⟩
    · exact h.old _ _ h3 hv2
    · exact h.old _ _ hl hv2
  · intro b' B' hb'
    rcases hget b' B' hb' with ⟨rfl, rfl⟩ | ⟨hne, hlt', h1⟩
    · refine ⟨l, cs', (0, 0), push_new _ _, ⟨hset, hsz.trans r.size, r.own, fun _ => ⟨rfl, hm.2.1, hm.2.2⟩, ?_, ?_, r.live⟩⟩
      · simpa [hm.2.1] using hle
      · intro i v hi
        obtain ⟨v', a, c⟩ := hv i v hi
        exact ⟨v', by simpa [hm.2.1] using a, c.mono he⟩
    · obtain ⟨l', cs'', fr', hl', r'⟩ := h.blk b' B' h1
      have hdiff : l'.blk ≠ l.blk := fun e => hne (h.inj b b' B B' l l' hb h1 hl hl' ho e.symm).symm
      exact ⟨l', cs'', fr', push_get hl', r'.mono he (setRow_other w l.blk l'.blk _ hdiff)⟩
  · intro b1 b2 B1 B2 l1 l2 h1 h2 hl1 hl2 ho1 heq
    rcases hget b1 B1 h1 with ⟨rfl, rfl⟩ | ⟨n1, k1, h1'⟩ <;> rcases hget b2 B2 h2 with ⟨rfl, rfl⟩ | ⟨n2, k2, h2'⟩
    · rfl
    · have e1 := hpn _ hl1
      subst e1
      exact absurd (h.inj _ _ _ _ _ _ hb h2' hl (hpl _ _ hl2 k2) ho heq).symm n2
    · have e2 := hpn _ hl2
      subst e2
      exact absurd (h.inj _ _ _ _ _ _ h1' hb (hpl _ _ hl1 k1) hl ho1 heq) n1
    · exact h.inj _ _ _ _ _ _ h1' h2' (hpl _ _ hl1 k1) (hpl _ _ hl2 k2) ho1 heq
  · intro g hg hn
    exact setRow_other w l.blk g _ (fun e => hn ⟨b, B, l, hb, ho, hl, e.symm⟩)
  · rintro g ⟨b', B', l', hb', ho', hl', rfl⟩
    rcases hget b' B' hb' with ⟨rfl, rfl⟩ | ⟨_, k1, h1⟩
    · have e1 := hpn _ hl'
      subst e1
      exact .inl ⟨b, B, l', hb, ho, hl, rfl⟩
    · exact .inl ⟨_, B', l', h1, ho', hpl _ _ hl' k1, rfl⟩

/-! ### reading -/

theorem HR.at_ {H : AHeap} {m : Mp} {w : World} (h : HR H m w) {a a' : Addr} (ht : tr m a = some a') {B : ABlk} (hb : H[a.block]? = some (some B)) :
    ∃ l cs fr, m[a.block]? = some l ∧ BR m w B l cs fr ∧ a' = ⟨l.blk, l.base + a.off, none⟩ := by
  obtain ⟨l, cs, fr, hl, r⟩ := h.blk _ _ hb
  refine ⟨l, cs, fr, hl, r, ?_⟩
  unfold tr at ht
  rw [hl] at ht
  simp only at ht
  split at ht
  · injection ht with ht; exact ht.symm
  · cases ht

theorem add_plain (g o n : Nat) : (⟨g, o, none⟩ : Addr).add n = ⟨g, o + n, none⟩ := by unfold Addr.add; split <;> simp_all

/-- Cells from a place on, read. -/
theorem HR.load {H : AHeap} {m : Mp} {w : World} (h : HR H m w) {a a' : Addr} (ht : tr m a = some a') {B : ABlk} (hb : H[a.block]? = some (some B)) (n : Nat) (hn : a.off + n ≤ B.cells.size) :
    ∃ cs : Array Value, cs.size = n ∧ VRs m (B.cells.extract a.off (a.off + n)) cs ∧ ∀ (j : Nat) (v : Value), cs.toList[j]? = some v → w.cell? (a'.add j) = some v := by
  obtain ⟨l, cs, fr, hl, r, rfl⟩ := h.at_ ht hb
  have hf := r.fits
  refine ⟨cs.extract (l.base + a.off) (l.base + a.off + n), by simp; omega, ⟨by simp; omega, ?_⟩, ?_⟩
  · intro i h1 h2
    simp only [Array.getElem_extract]
    have h1' : i < n := by simp at h1; omega
    have hi : a.off + i < B.cells.size := by omega
    obtain ⟨v', e1, e2⟩ := r.vals (a.off + i) _ (Array.getElem?_eq_getElem hi)
    have h3 : l.base + (a.off + i) < cs.size := lt_of_get e1
    rw [Array.getElem?_eq_getElem h3] at e1
    injection e1 with e1
    have : cs[l.base + a.off + i]'(by omega) = v' := by rw [← e1]; congr 1; omega
    rw [this]
    exact e2
  · intro j v hv
    rw [add_plain]
    have hj : j < n := by
      have := List.getElem?_eq_some_iff.1 hv
      obtain ⟨q, _⟩ := this
      simp at q; omega
    have h3 : l.base + a.off + j < cs.size := by omega
    rw [Array.getElem?_toList, Array.getElem?_extract_of_lt (by omega)] at hv
    have hc : w.cell? ⟨l.blk, l.base + a.off + j, none⟩ = cs[l.base + a.off + j]? := by simp [World.cell?, r.real]
    rw [hc, Array.getElem?_eq_getElem h3, hv]

theorem HR.load1 {H : AHeap} {m : Mp} {w : World} (h : HR H m w) {a a' : Addr} (ht : tr m a = some a') {B : ABlk} (hb : H[a.block]? = some (some B)) {v : Value} (hv : B.cells[a.off]? = some v) :
    ∃ v', w.cell? a' = some v' ∧ VR m v v' := by
  obtain ⟨l, cs, fr, hl, r, rfl⟩ := h.at_ ht hb
  obtain ⟨v', e1, e2⟩ := r.vals _ _ hv
  exact ⟨v', by simp [World.cell?, r.real, e1], e2⟩

/-! ### the same memory, not to be written -/

def fz : Option ABlk → Option ABlk
  | some B => some { B with own := false }
  | none => none
def froze (H : AHeap) : AHeap := (H.toList.map fz).toArray
/-- What was there, as it was, and what is new. -/
def thaw (H H1 : AHeap) : AHeap := (H.toList ++ H1.toList.drop H.size).toArray
def isOwn : Option ABlk → Bool
  | some B => B.own
  | none => true

theorem froze_get {H : AHeap} {b : Nat} {B : ABlk} (h : (froze H)[b]? = some (some B)) : B.own = false ∧ ∃ B0, H[b]? = some (some B0) ∧ B = { B0 with own := false } := by
  unfold froze at h
  simp only [List.getElem?_toArray, List.getElem?_map, Array.getElem?_toList, Option.map_eq_some_iff] at h
  obtain ⟨x, hx, hf⟩ := h
  cases x with
  | none => simp [fz] at hf
  | some B0 =>
    simp only [fz] at hf
    injection hf with hf
    subst hf
    exact ⟨rfl, B0, hx, rfl⟩
theorem froze_size (H : AHeap) : (froze H).size = H.size := by simp [froze]

theorem HR.froze {H : AHeap} {m : Mp} {w : World} (h : HR H m w) : HR (froze H) m w where
  size := by rw [froze_size]; exact h.size
  old := h.old
  blk := fun b B hb => by
    obtain ⟨_, B0, h0, rfl⟩ := froze_get hb
    obtain ⟨l, cs, fr, hl, r⟩ := h.blk b B0 h0
    exact ⟨l, cs, fr, hl, ⟨r.real, r.size, (fun h => by cases h), (fun h => by cases h), r.fits, r.vals, r.live⟩⟩
  inj := fun b b' B B' l l' hb _ _ _ ho _ => by rw [(froze_get hb).1] at ho; cases ho

theorem FP_froze {H : AHeap} {m : Mp} {g : Nat} : ¬ FP (froze H) m g := by
  rintro ⟨b, B, l, hb, ho, _⟩
  rw [(froze_get hb).1] at ho; cases ho

theorem thaw_get {H H1 : AHeap} (hs : H.size ≤ H1.size) (b : Nat) : (thaw H H1)[b]? = if b < H.size then H[b]? else H1[b]? := by
  unfold thaw
  simp only [List.getElem?_toArray]
  by_cases hb : b < H.size
  · rw [if_pos hb, List.getElem?_append_left (by simpa using hb)]; simp
  · rw [if_neg hb, List.getElem?_append_right (by simp; omega), List.getElem?_drop]
    simp only [Array.length_toList, Array.getElem?_toList]
    congr 1; omega
theorem thaw_size {H H1 : AHeap} (hs : H.size ≤ H1.size) : (thaw H H1).size = H1.size := by
  simp [thaw]; omega

/-- Behind a run that could not write what was there. -/
theorem HR.thaw {H H1 : AHeap} {m m' : Mp} {w w' : World} (h : HR H m w) (h1 : HR H1 m' w') (st : Step (Go.Proofs.Ytclphdmaedpipaa.froze H) m w H1 m' w') (hs : H.size ≤ H1.size) (hown : ((H1.toList.drop H.size).all isOwn) = true) :
    HR (Go.Proofs.Ytclphdmaedpipaa.thaw H H1) m' w' ∧ Step H m w (Go.Proofs.Ytclphdmaedpipaa.thaw H H1) m' w' := by
  have hk : ∀ g, g < w.heap.size → w'.heap[g]? = w.heap[g]? := fun g hg => st.keep g hg FP_froze
  have hnew : ∀ (b : Nat) (B : ABlk), ¬ b < H.size → H1[b]? = some (some B) → B.own = true := by
    intro b B hb hB
    have hmem : some B ∈ H1.toList.drop H.size := by
      rw [List.mem_iff_getElem?]
      exact ⟨b - H.size, by rw [List.getElem?_drop]; simp only [Array.getElem?_toList]; rw [← hB]; congr 1; omega⟩
    exact (List.all_eq_true.1 hown) _ hmem
  have hfp : ∀ g, FP (Go.Proofs.Ytclphdmaedpipaa.thaw H H1) m' g → FP H m g ∨ w.heap.size ≤ g := by
    rintro g ⟨b, B, l, hb, ho, hl, rfl⟩
    rw [thaw_get hs] at hb
    by_cases hlt : b < H.size
    · rw [if_pos hlt] at hb
      obtain ⟨l0, cs, fr, hl0, r⟩ := h.blk b B hb
      have := st.ext b l0 hl0
      rw [hl] at this; injection this with this; subst this
      exact .inl ⟨b, B, l, hb, ho, hl0, rfl⟩
    · rw [if_neg hlt] at hb
      exact (st.fp _ ⟨b, B, l, hb, ho, hl, rfl⟩).elim (fun h => absurd h FP_froze) .inr
  refine ⟨⟨by rw [thaw_size hs]; exact h1.size, h1.old, ?_, ?_⟩, ⟨st.ext, st.os, st.tape, st.output, st.size, fun g hg _ => hk g hg, hfp⟩⟩
  · intro b B hb
    rw [thaw_get hs] at hb
    by_cases hlt : b < H.size
    · rw [if_pos hlt] at hb
      obtain ⟨l, cs, fr, hl, r⟩ := h.blk b B hb
      exact ⟨l, cs, fr, st.ext b l hl, r.mono st.ext (hk _ (h.old b l hl r.live))⟩
    · rw [if_neg hlt] at hb
      exact h1.blk b B hb
  · intro b b' B B' l l' hb hb' hl hl' ho heq
    rw [thaw_get hs] at hb hb'
    by_cases hlt : b < H.size
    · rw [if_pos hlt] at hb
      obtain ⟨l0, cs, fr, hl0, r⟩ := h.blk b B hb
      have e1 := st.ext b l0 hl0
      rw [hl] at e1; injection e1 with e1; subst e1
      by_cases hlt' : b' < H.size
      · rw [if_pos hlt'] at hb'
        obtain ⟨l1, cs1, fr1, hl1, r1⟩ := h.blk b' B' hb'
        have e2 := st.ext b' l1 hl1
        rw [hl'] at e2; injection e2 with e2; subst e2
        exact h.inj b b' B B' l l' hb hb' hl0 hl1 ho heq
      · rw [if_neg hlt'] at hb'
        have hge := (st.fp _ ⟨b', B', l', hb', hnew b' B' hlt' hb', hl', rfl⟩).elim (fun h => absurd h FP_froze) id
        have := h.old b l hl0 r.live
        omega
    · rw [if_neg hlt] at hb
      by_cases hlt' : b' < H.size
      · rw [if_pos hlt'] at hb'
        obtain ⟨l1, cs1, fr1, hl1, r1⟩ := h.blk b' B' hb'
        have e2 := st.ext b' l1 hl1
        rw [hl'] at e2; injection e2 with e2; subst e2
        have hge := (st.fp _ ⟨b, B, l, hb, ho, hl, rfl⟩).elim (fun h => absurd h FP_froze) id
        have := h.old b' l' hl1 r1.live
        omega
      · rw [if_neg hlt'] at hb'
        exact h1.inj b b' B B' l l' hb hb' hl hl' ho heq

/-! ### places that are kept for blocks that will be made -/

def deadLoc : Loc := ⟨0, 0, 0, 0, false, 0, false⟩

/-- Places for k blocks. -/
theorem HR.reserve {H : AHeap} {m : Mp} {w : World} (h : HR H m w) : ∀ k : Nat, HR (H ++ Array.replicate k none) (m ++ Array.replicate k deadLoc) w ∧ Step H m w (H ++ Array.replicate k none) (m ++ Array.replicate k deadLoc) w := by
  intro k
  have gm : ∀ (b : Nat) (l : Loc), (m ++ Array.replicate k deadLoc)[b]? = some l → m[b]? = some l ∨ (m.size ≤ b ∧ l = deadLoc) := by
    intro b l hb
    rcases Nat.lt_or_ge b m.size with hl | hl
    · rw [Array.getElem?_append_left hl] at hb; exact .inl hb
    · rw [Array.getElem?_append_right hl, Array.getElem?_replicate] at hb
      split at hb
      · injection hb with hb; exact .inr ⟨hl, hb.symm⟩
      · cases hb
  have gH : ∀ (b : Nat) (B : ABlk), (H ++ Array.replicate k none)[b]? = some (some B) → H[b]? = some (some B) := by
    intro b B hb
    rcases Nat.lt_or_ge b H.size with hl | hl
    · rw [Array.getElem?_append_left hl] at hb; exact hb
    · rw [Array.getElem?_append_right hl, Array.getElem?_replicate] at hb
      split at hb
      · injection hb with hb; cases hb
      · cases hb
  have pm : ∀ (b : Nat) (l : Loc), m[b]? = some l → (m ++ Array.replicate k deadLoc)[b]? = some l := by
    intro b l hb
    rw [Array.getElem?_append_left (lt_of_get hb)]; exact hb
  have he : Ext m (m ++ Array.replicate k deadLoc) := fun b l hb => pm b l hb
  have back : ∀ (b : Nat) (B : ABlk) (l : Loc), H[b]? = some (some B) → (m ++ Array.replicate k deadLoc)[b]? = some l → m[b]? = some l := by
    intro b B l hb hl
    rcases gm b l hl with h1 | ⟨h1, _⟩
    · exact h1
    · have := lt_of_get hb; rw [← h.size] at this; omega
  refine ⟨⟨by simp [h.size], ?_, ?_, ?_⟩, ⟨he, rfl, rfl, rfl, Nat.le_refl _, fun _ _ _ => rfl, ?_⟩⟩
  · intro b l hb hv2
    rcases gm b l hb with h1 | ⟨_, rfl⟩
    · exact h.old b l h1 hv2
    · cases hv2
  · intro b B hb
    obtain ⟨l, cs, fr, hl, r⟩ := h.blk b B (gH b B hb)
    exact ⟨l, cs, fr, pm b l hl, r.mono he rfl⟩
  · intro b b' B B' l l' hb hb' hl hl' ho heq
    exact h.inj b b' B B' l l' (gH _ _ hb) (gH _ _ hb') (back _ _ _ (gH _ _ hb) hl) (back _ _ _ (gH _ _ hb') hl') ho heq
  · rintro g ⟨b, B, l, hb, ho, hl, rfl⟩
    exact .inl ⟨b, B, l, gH _ _ hb, ho, back _ _ _ (gH _ _ hb) hl, rfl⟩

/-- The same, where blocks may have been made at places that are kept, from 'base' on. -/
structure StepW (base : Nat) (H : AHeap) (m : Mp) (w : World) (H' : AHeap) (m' : Mp) (w' : World) : Prop where
  ext : ∀ (b : Nat) (l : Loc), m[b]? = some l → l.live = true ∨ b < base → m'[b]? = some l
  os : w'.os = w.os
  tape : w'.tape = w.tape
  output : w'.output = w.output
  size : w.heap.size ≤ w'.heap.size
  keep : ∀ g, g < w.heap.size → ¬ FP H m g → w'.heap[g]? = w.heap[g]?
  fp : ∀ g, FP H' m' g → FP H m g ∨ w.heap.size ≤ g
theorem StepW.toL {base : Nat} {H H' : AHeap} {m m' : Mp} {w w' : World} (s : StepW base H m w H' m' w') : ExtL m m' := fun b l hb hl => s.ext b l hb (.inl hl)
theorem Step.toW {H H' : AHeap} {m m' : Mp} {w w' : World} (s : Step H m w H' m' w') (base : Nat) : StepW base H m w H' m' w' :=
  ⟨fun b l hb _ => s.ext b l hb, s.os, s.tape, s.output, s.size, s.keep, s.fp⟩
theorem StepW.trans {base : Nat} {H H1 H2 : AHeap} {m m1 m2 : Mp} {w w1 w2 : World} (a : StepW base H m w H1 m1 w1) (b : StepW base H1 m1 w1 H2 m2 w2) : StepW base H m w H2 m2 w2 where
  ext := fun x l hx hl => b.ext x l (a.ext x l hx hl) hl
  os := b.os.trans a.os
  tape := b.tape.trans a.tape
  output := b.output.trans a.output
  size := Nat.le_trans a.size b.size
  keep := fun g hg hn => (b.keep g (Nat.lt_of_lt_of_le hg a.size) (fun h => (a.fp g h).elim hn (fun h' => absurd hg (by omega)))).trans (a.keep g hg hn)
  fp := fun g h => (b.fp g h).elim (a.fp g) (fun h' => .inr (Nat.le_trans a.size h'))

/-- A NEW BLOCK at a place that was kept. -/
theorem HR.fill {H : AHeap} {m : Mp} {w : World} (h : HR H m w) {k : Nat} (hk : H[k]? = some none) {l0 : Loc} (hm : m[k]? = some l0) (hd : l0.live = false) {base : Nat} (hbase : base ≤ k) (cells cs : Array Value) (elem : TypeId) (esz : Nat) (hle : cells.size ≤ cs.size)
    (hv : ∀ (i : Nat) (v : Value), cells[i]? = some v → ∃ v', cs[i]? = some v' ∧ VR m v v') :
    HR (H.setIfInBounds k (some ⟨cells, elem, esz, true⟩)) (m.setIfInBounds k ⟨w.heap.size, 0, cs.size, esz, true, elem, true⟩) (w.alloc (.cells cs elem)) ∧
    StepW base H m w (H.setIfInBounds k (some ⟨cells, elem, esz, true⟩)) (m.setIfInBounds k ⟨w.heap.size, 0, cs.size, esz, true, elem, true⟩) (w.alloc (.cells cs elem)) := by
  have hkH := lt_of_get hk
  have hkm := lt_of_get hm
  have he : ExtL m (m.setIfInBounds k ⟨w.heap.size, 0, cs.size, esz, true, elem, true⟩) := by
    intro b l hb hl
    by_cases e : k = b
    · subst e
      rw [hm] at hb
      injection hb with hb
      subst hb
      rw [hd] at hl
      cases hl
    · rw [Array.getElem?_setIfInBounds_ne e]; exact hb
  have hnew : (w.alloc (.cells cs elem)).heap[w.heap.size]? = some (.cells cs elem (0, 0)) := alloc_new w _
  have gH : ∀ (b : Nat) (B : ABlk), (H.setIfInBounds k (some ⟨cells, elem, esz, true⟩))[b]? = some (some B) → (b = k ∧ B = ⟨cells, elem, esz, true⟩) ∨ (b ≠ k ∧ H[b]? = some (some B)) := by
    intro b B hb
    by_cases e : k = b
    · subst e
      rw [Array.getElem?_setIfInBounds_self_of_lt hkH] at hb
      injection hb with hb; injection hb with hb
      exact .inl ⟨rfl, hb.symm⟩
    · rw [Array.getElem?_setIfInBounds_ne e] at hb
      exact .inr ⟨fun h => e h.symm, hb⟩
  have gm : ∀ (b : Nat) (l : Loc), (m.setIfInBounds k ⟨w.heap.size, 0, cs.size, esz, true, elem, true⟩)[b]? = some l → (b = k ∧ l = ⟨w.heap.size, 0, cs.size, esz, true, elem, true⟩) ∨ (b ≠ k ∧ m[b]? = some l) := by
    intro b l hb
    by_cases e : k = b
    · subst e
      rw [Array.getElem?_setIfInBounds_self_of_lt hkm] at hb
      injection hb with hb
      exact .inl ⟨rfl, hb.symm⟩
    · rw [Array.getElem?_setIfInBounds_ne e] at hb
      exact .inr ⟨fun h => e h.symm, hb⟩
  refine ⟨⟨by simp [h.size], ?_, ?_, ?_⟩, ⟨?_, rfl, rfl, rfl, by simp, fun g hg _ => alloc_old w _ hg, ?_⟩⟩
  · intro b l hb hv2
    rcases gm b l hb with ⟨_, rfl⟩ | ⟨_, h1⟩
    · simp
    · have := h.old b l h1 hv2; simp; omega
  · intro b B hb
    rcases gH b B hb with ⟨rfl, rfl⟩ | ⟨hne, h1⟩
    · refine ⟨_, cs, (0, 0), Array.getElem?_setIfInBounds_self_of_lt hkm, ⟨hnew, rfl, fun _ => rfl, fun _ => ⟨rfl, rfl, rfl, rfl⟩, by simpa using hle, ?_, rfl⟩⟩
      intro i v hi
      obtain ⟨v', h1, h2⟩ := hv i v hi
      exact ⟨v', by simpa using h1, h2.monoL he⟩
    · obtain ⟨l, cs', fr, hl, r⟩ := h.blk b B h1
      exact ⟨l, cs', fr, he b l hl r.live, r.monoL he (alloc_old w _ (h.old b l hl r.live))⟩
  · intro b b' B B' l l' hb hb' hl hl' ho heq
    rcases gH b B hb with ⟨rfl, _⟩ | ⟨n1, h1⟩ <;> rcases gH b' B' hb' with ⟨rfl, _⟩ | ⟨n2, h2⟩ <;> rcases gm _ l hl with ⟨e3, rfl⟩ | ⟨n3, h3⟩ <;> rcases gm _ l' hl' with ⟨e4, rfl⟩ | ⟨n4, h4⟩
    all_goals first
      | rfl
      | exact absurd rfl n3
      | exact absurd rfl n4
      | exact absurd e3 n1
      | exact absurd e4 n2
      | exact h.inj b b' B B' l l' h1 h2 h3 h4 ho heq
      | (have := h.oldB h2 h4; simp at heq; omega)
      | (have := h.oldB h1 h3; simp at heq; omega)
  · intro b l hb hor
    rcases hor with hl | hl
    · exact he b l hb hl
    · rw [Array.getElem?_setIfInBounds_ne (by omega)]; exact hb
  · rintro g ⟨b, B, l, hb, ho, hl, rfl⟩
    rcases gm b l hl with ⟨_, rfl⟩ | ⟨hne, h2⟩
    · exact .inr (Nat.le_refl _)
    · rcases gH b B hb with ⟨rfl, _⟩ | ⟨_, h1⟩
      · exact absurd rfl hne
      · exact .inl ⟨b, B, l, h1, ho, h2, rfl⟩

end Go.Proofs.Ytclphdmaedpipaa
