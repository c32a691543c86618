/- Of what a function made only what its result reaches is kept, numbered anew: for results that are slices of slices. -/
import Derived.Test.YtclphdmaedpipaaRelocR
namespace Go.Proofs.Ytclphdmaedpipaa
open Go
set_option linter.unusedVariables false
set_option maxRecDepth 100000

/-- A value, its blocks numbered anew: the j-th that is kept was the κ j-th that was made. -/
inductive RenV (n : Nat) (κ : Nat → Nat) (m : Nat) : Value → Value → Prop
  | clos {v : Value} (h : closN 4 v = true) : RenV n κ m v v
  | slice (j off k c c' : Nat) (h : j < m) : RenV n κ m (.slice (some ⟨n + κ j, off, none⟩) k c) (.slice (some ⟨n + j, off, none⟩) k c')
  | agg {xs ys : Array Value} (hs : xs.size = ys.size) (h : ∀ i (h1 : i < xs.size) (h2 : i < ys.size), RenV n κ m xs[i] ys[i]) : RenV n κ m (.agg xs) (.agg ys)
theorem RenV.vr {n m : Nat} {κ : Nat → Nat} {m1 m2 : Mp} {u0 u v : Value} (h : RenV n κ m u0 u) (hg : ∀ j, j < m → m2[n + j]? = m1[n + κ j]?) (hv : VR m1 u0 v) : VR m2 u v := by
  induction h generalizing v with
  | clos h => exact hv.clos_any 4 _ _ h
  | slice j off k c c' h => exact vr_cap (c := c) (vr_slice (hg j h).symm hv)
  | agg hs h ih =>
    cases hv with
    | agg g1 g2 => exact .agg (hs ▸ g1) fun i a b => ih i (hs ▸ a) a (g2 i (hs ▸ a) b)

theorem Runs.keepR {P : Program} {f : FuncId} {args : Array Value} {H bs0 bs : AHeap} {v0 v : Value} (κ : Nat → Nat) (hf : AllFrozen H) (h : Runs P f args H v0 (H ++ bs0))
    (hκ : ∀ j, j < bs.size → ∃ B B', bs0[κ j]? = some (some B) ∧ bs[j]? = some (some B') ∧ B.own = true ∧ B'.own = true ∧ B'.elem = B.elem ∧ B'.esz = B.esz ∧ B'.cells.size = B.cells.size ∧
      ∀ (i : Nat) (u : Value), B'.cells[i]? = some u → ∃ u0, B.cells[i]? = some u0 ∧ RenV H.size κ bs.size u0 u)
    (hinj : ∀ i j, i < bs.size → j < bs.size → κ i = κ j → i = j) (hv : RenV H.size κ bs.size v0 v) : Runs P f args H v (H ++ bs) := by
  intro m w args' hr ha
  obtain ⟨h1, h2⟩ := h m w args' hr ha
  refine ⟨h1, h2.mono ?_⟩
  rintro e w' ⟨v', m1, he, hv1, hr1, st⟩
  have hms : m.size = H.size := hr.size
  have hm1 : m1.size = H.size + bs0.size := by rw [hr1.size]; simp
  have hblk0 : ∀ j : Nat, (H ++ bs0)[H.size + j]? = bs0[j]? := by
    intro j
    rw [Array.getElem?_append_right (by omega)]
    simp
  have hlt : ∀ j, j < bs.size → H.size + κ j < m1.size := by
    intro j hj
    obtain ⟨B, B', g1, _⟩ := hκ j hj
    have := (Array.getElem?_eq_some_iff.1 g1).1
    omega
  let nw : Array Loc := Array.ofFn (n := bs.size) fun j => m1[H.size + κ j.1]'(hlt j.1 j.2)
  have hnw : nw.size = bs.size := by simp [nw]
  let m2 : Mp := m ++ nw
  have gnew : ∀ j, j < bs.size → m2[H.size + j]? = m1[H.size + κ j]? := by
    intro j hj
    simp only [m2]
    rw [Array.getElem?_append_right (by omega), hms, Nat.add_sub_cancel_left, Array.getElem?_eq_getElem (by rw [hnw]; exact hj), Array.getElem?_eq_getElem (hlt j hj)]
    simp [nw]
  have gold : ∀ b, b < H.size → m2[b]? = m[b]? := fun b hb => Array.getElem?_append_left (by omega)
  have gext : ∀ (b : Nat) (l' : Loc), m[b]? = some l' → m2[b]? = some l' := by
    intro b l' hl'
    have := (Array.getElem?_eq_some_iff.1 hl').1
    rw [gold b (by omega)]; exact hl'
  have hsz : ∀ {b : Nat} {l' : Loc}, m2[b]? = some l' → b < H.size ∨ ∃ j, j < bs.size ∧ b = H.size + j := by
    intro b l' h
    have := (Array.getElem?_eq_some_iff.1 h).1
    simp only [m2, Array.size_append, hnw, hms] at this
    by_cases c : b < H.size
    · exact .inl c
    · exact .inr ⟨b - H.size, by omega, by omega⟩
  have Hold : ∀ b, b < H.size → (H ++ bs)[b]? = H[b]? := fun b hb => Array.getElem?_append_left hb
  have Hnew : ∀ j, (H ++ bs)[H.size + j]? = bs[j]? := by
    intro j
    rw [Array.getElem?_append_right (by omega)]
    simp
  have Hsz : ∀ {b : Nat} {X : Option ABlk}, (H ++ bs)[b]? = some X → b < H.size ∨ ∃ j, j < bs.size ∧ b = H.size + j := by
    intro b X h
    have := (Array.getElem?_eq_some_iff.1 h).1
    rw [Array.size_append] at this
    by_cases c : b < H.size
    · exact .inl c
    · exact .inr ⟨b - H.size, by omega, by omega⟩
  -- a block that is kept, and the real one
  have real : ∀ j, j < bs.size → ∃ B B' l cs fr, bs0[κ j]? = some (some B) ∧ bs[j]? = some (some B') ∧ m1[H.size + κ j]? = some l ∧ BR m1 w' B l cs fr ∧ B.own = true ∧ B'.own = true ∧ B'.elem = B.elem ∧ B'.esz = B.esz ∧ B'.cells.size = B.cells.size ∧
      ∀ (i : Nat) (u : Value), B'.cells[i]? = some u → ∃ u0, B.cells[i]? = some u0 ∧ RenV H.size κ bs.size u0 u := by
    intro j hj
    obtain ⟨B, B', g1, g2, g3, g4, g5, g6, g7, g8⟩ := hκ j hj
    obtain ⟨l, cs, fr, hl, br⟩ := hr1.blk (H.size + κ j) B (by rw [hblk0]; exact g1)
    exact ⟨B, B', l, cs, fr, g1, g2, hl, br, g3, g4, g5, g6, g7, g8⟩
  refine ⟨v', m2, he, hv.vr gnew hv1, ⟨?_, ?_, ?_, ?_⟩, ⟨gext, st.os, st.tape, st.output, st.size, st.keep, ?_⟩⟩
  · simp only [m2, Array.size_append, hnw, hms]
  · intro b l' hl' hlv
    rcases hsz hl' with hb | ⟨j, hj, rfl⟩
    · rw [gold b hb] at hl'
      exact Nat.lt_of_lt_of_le (hr.old b l' hl' hlv) st.size
    · rw [gnew j hj] at hl'
      exact hr1.old _ _ hl' hlv
  · intro b B1 hB1
    rcases Hsz hB1 with hb | ⟨j, hj, rfl⟩
    · rw [Hold b hb] at hB1
      obtain ⟨l', cs', fr', hl', r⟩ := hr.blk b B1 hB1
      exact ⟨l', cs', fr', gext b l' hl', r.mono gext (st.keep _ (hr.old b l' hl' r.live) (hf.nofp _))⟩
    · obtain ⟨B, B', l, cs, fr, g1, g2, hl, br, g3, g4, g5, g6, g7, g8⟩ := real j hj
      rw [Hnew, g2] at hB1
      injection hB1 with hB1
      injection hB1 with hB1
      subst hB1
      refine ⟨l, cs, fr, by rw [gnew j hj]; exact hl, br.real, br.size, fun _ => br.own g3, fun _ => by rw [g5, g6]; exact br.mine g3, by rw [g7]; exact br.fits, ?_, br.live⟩
      intro i u hu
      obtain ⟨u0, q1, q2⟩ := g8 i u hu
      obtain ⟨u', q3, q4⟩ := br.vals i u0 q1
      exact ⟨u', q3, q2.vr gnew q4⟩
  · intro b b' B1 B2 l1 l2 hB1 hB2 hl1 hl2 ho heq
    rcases Hsz hB1 with hb | ⟨j, hj, rfl⟩
    · rw [Hold b hb] at hB1
      rw [hf b B1 hB1] at ho
      cases ho
    · obtain ⟨B, B', l, cs, fr, g1, g2, hl, br, g3, _⟩ := real j hj
      rw [gnew j hj, hl] at hl1
      injection hl1 with hl1
      subst hl1
      have k1 : (H ++ bs0)[H.size + κ j]? = some (some B) := by rw [hblk0]; exact g1
      rcases Hsz hB2 with hb' | ⟨j', hj', rfl⟩
      · rw [Hold b' hb'] at hB2
        rw [gold b' hb'] at hl2
        have k2 : (H ++ bs0)[b']? = some (some B2) := by rw [Array.getElem?_append_left hb']; exact hB2
        have := hr1.inj _ _ _ _ _ _ k1 k2 hl (st.ext _ _ hl2) g3 heq
        omega
      · obtain ⟨C, C', l', cs', fr', c1, c2, cl, _⟩ := real j' hj'
        rw [gnew j' hj', cl] at hl2
        injection hl2 with hl2
        subst hl2
        have k2 : (H ++ bs0)[H.size + κ j']? = some (some C) := by rw [hblk0]; exact c1
        have := hr1.inj _ _ _ _ _ _ k1 k2 hl cl g3 heq
        rw [hinj j j' hj hj' (by omega)]
  · rintro g ⟨b, B1, l', hb, ho, hl', hg⟩
    rcases Hsz hb with h5 | ⟨j, hj, rfl⟩
    · rw [Hold b h5] at hb
      rw [hf b B1 hb] at ho
      cases ho
    · obtain ⟨B, B', l, cs, fr, g1, g2, hl, br, g3, _⟩ := real j hj
      rw [gnew j hj, hl] at hl'
      injection hl' with hl'
      subst hl'
      exact st.fp g ⟨_, B, l, by rw [hblk0]; exact g1, g3, hl, hg⟩

end Go.Proofs.Ytclphdmaedpipaa
