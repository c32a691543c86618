/- A contract that is proved in a memory of few blocks holds in a memory of more, its blocks elsewhere. -/
import Derived.Test.YtclphdmaedpipaaAbsL
namespace Go.Proofs.Ytclphdmaedpipaa
open Go
set_option linter.unusedVariables false

theorem vr_slice {m1 m2 : Mp} {b1 b2 off n c : Nat} {v : Value} (h : m1[b1]? = m2[b2]?) (hv : VR m1 (.slice (some ⟨b1, off, none⟩) n c) v) : VR m2 (.slice (some ⟨b2, off, none⟩) n c) v := by
  cases hv with
  | slice ht hn hr =>
    refine .slice ?_ hn (fun l hl => hr l (by rw [← hl]; exact h))
    unfold tr at ht ⊢
    simp only at ht ⊢
    rw [← h]
    exact ht

/-- A value, its blocks elsewhere. -/
inductive RelV (τ : Nat → Nat) : Value → Value → Prop
  | clos {v : Value} (h : closN 4 v = true) : RelV τ v v
  | slice (b off n c : Nat) : RelV τ (.slice (some ⟨b, off, none⟩) n c) (.slice (some ⟨τ b, off, none⟩) n c)
  | agg {xs ys : Array Value} (hs : xs.size = ys.size) (h : ∀ i (h1 : i < xs.size) (h2 : i < ys.size), RelV τ xs[i] ys[i]) : RelV τ (.agg xs) (.agg ys)

theorem RelV.vr {τ : Nat → Nat} {m1 m2 : Mp} (hτ : ∀ (b : Nat) (l : Loc), m1[b]? = some l → l.live = true → m2[τ b]? = some l) {a b v : Value} (h : RelV τ a b) (hv : VR m1 a v) : VR m2 b v := by
  induction h generalizing v with
  | clos h => exact hv.clos_any 4 _ _ h
  | slice b off n c =>
    refine vr_slice ?_ hv
    cases hv with
    | slice ht hn hr =>
      obtain ⟨l, hl, hv⟩ := tr_live ht
      have hb : m1[b]? = some l := hl
      rw [hb]
      exact (hτ b l hb hv).symm
  | agg hs h ih =>
    cases hv with
    | agg g1 g2 => exact .agg (hs ▸ g1) fun i a b => ih i (hs ▸ a) a (g2 i (hs ▸ a) b)

def relB (n0 N : Nat) (σ : Nat → Nat) (b : Nat) : Nat := if b < n0 then σ b else N + (b - n0)

theorem Runs.reloc {P : Program} {f : FuncId} {args0 args : Array Value} {H0 H bs0 bs : AHeap} {v0 v : Value} (σ : Nat → Nat)
    (h : Runs P f args0 H0 v0 (H0 ++ bs0))
    (hlt : ∀ i, i < H0.size → σ i < H.size) (hsome : ∀ i, i < H0.size → ∃ B0, H0[i]? = some (some B0))
    (hσ : ∀ (i : Nat) (B0 : ABlk), H0[i]? = some (some B0) → B0.own = false ∧ (∀ (j : Nat) (u : Value), B0.cells[j]? = some u → closN 4 u = true) ∧ ∃ B, H[σ i]? = some (some B) ∧ B.cells = B0.cells)
    (hargs : ∀ (m mσ : Mp) (r : Array Value), (∀ i : Nat, i < H0.size → mσ[i]? = m[σ i]?) → VRs m args r → VRs mσ args0 r)
    (hv : RelV (relB H0.size H.size σ) v0 v)
    (hsz : bs.size = bs0.size)
    (hbs : ∀ (j : Nat) (B' : ABlk), bs[j]? = some (some B') → ∃ B, bs0[j]? = some (some B) ∧ B.own = true ∧ B'.own = true ∧ B'.elem = B.elem ∧ B'.esz = B.esz ∧ B'.cells.size = B.cells.size ∧
      ∀ (i : Nat) (u : Value), B'.cells[i]? = some u → ∃ u0, B.cells[i]? = some u0 ∧ RelV (relB H0.size H.size σ) u0 u) :
    Runs P f args H v (H ++ bs) := by
  intro m w args' hr hargs'
  have hms : m.size = H.size := hr.size
  let mσ : Mp := Array.ofFn (n := H0.size) fun i => m[σ i.1]'(by rw [hms]; exact hlt i.1 i.2)
  have hσs : mσ.size = H0.size := by simp [mσ]
  have hget : ∀ i : Nat, i < H0.size → mσ[i]? = m[σ i]? := by
    intro i hi
    have h1 : σ i < m.size := by rw [hms]; exact hlt i hi
    rw [Array.getElem?_eq_getElem (by rw [hσs]; exact hi), Array.getElem?_eq_getElem h1]
    simp [mσ]
  have hr0 : HR H0 mσ w := by
    refine ⟨hσs, ?_, ?_, ?_⟩
    · intro b l hl hv9
      have hb : b < H0.size := by
        have := (Array.getElem?_eq_some_iff.1 hl).1
        rw [hσs] at this; exact this
      rw [hget b hb] at hl
      exact hr.old _ _ hl hv9
    · intro b B0 hB
      obtain ⟨ho, hc, B, hB2, hcells⟩ := hσ b B0 hB
      obtain ⟨l, cs, fr, hl, br⟩ := hr.blk _ B hB2
      have hb : b < H0.size := (Array.getElem?_eq_some_iff.1 hB).1
      refine ⟨l, cs, fr, by rw [hget b hb]; exact hl, br.real, br.size, (by intro h; rw [ho] at h; cases h), (by intro h; rw [ho] at h; cases h), by rw [← hcells]; exact br.fits, ?_, br.live⟩
      intro i u hu
      obtain ⟨u', h1, h2⟩ := br.vals i u (by rw [hcells]; exact hu)
      exact ⟨u', h1, h2.clos_any 4 _ _ (hc i u hu)⟩
    · intro b b' B B' l l' hB _ _ _ hown _
      have := (hσ b B hB).1
      rw [this] at hown
      cases hown
  have hnofp : ∀ g, ¬ FP H0 mσ g := by
    rintro g ⟨b, B, l, hb, ho, _⟩
    have := (hσ b B hb).1
    rw [this] at ho
    cases ho
  obtain ⟨h1, h2⟩ := h mσ w args' hr0 (hargs m mσ args' hget hargs')
  refine ⟨h1, h2.mono ?_⟩
  rintro e w' ⟨v', m1, he, hv1, hr1, st⟩
  have hk : ∀ g, g < w.heap.size → w'.heap[g]? = w.heap[g]? := fun g hg => st.keep g hg (hnofp g)
  have hm1 : m1.size = H0.size + bs0.size := by rw [hr1.size]; simp
  let m2 : Mp := m ++ (m1.toList.drop H0.size).toArray
  have hm2 : m2.size = H.size + bs0.size := by simp [m2, hms, hm1]
  have hold : ∀ (b : Nat) (l : Loc), m[b]? = some l → m2[b]? = some l := by
    intro b l hl
    have := (Array.getElem?_eq_some_iff.1 hl).1
    simp only [m2]
    rw [Array.getElem?_append_left this]
    exact hl
  have hold' : ∀ b : Nat, b < H.size → m2[b]? = m[b]? := by
    intro b hb
    simp only [m2]
    rw [Array.getElem?_append_left (by rw [hms]; exact hb)]
  have hnew : ∀ j : Nat, m2[H.size + j]? = m1[H0.size + j]? := by
    intro j
    simp only [m2]
    rw [Array.getElem?_append_right (by rw [hms]; omega)]
    simp [hms, List.getElem?_drop]
  have hτ : ∀ (b : Nat) (l : Loc), m1[b]? = some l → l.live = true → m2[relB H0.size H.size σ b]? = some l := by
    intro b l hl _
    unfold relB
    by_cases hb : b < H0.size
    · rw [if_pos hb]
      have h3 : m[σ b]? = some (m[σ b]'(by rw [hms]; exact hlt b hb)) := Array.getElem?_eq_getElem _
      have hlv : (m[σ b]'(by rw [hms]; exact hlt b hb)).live = true := by
        obtain ⟨B0, hB0⟩ := hsome b hb
        obtain ⟨_, _, B9, hB9, _⟩ := hσ b B0 hB0
        obtain ⟨l9, _, _, hl9, r9⟩ := hr.blk _ B9 hB9
        rw [h3] at hl9
        injection hl9 with e9
        rw [e9]
        exact r9.live
      have h4 := st.ext b _ ((hget b hb).trans h3)
      rw [hl] at h4
      rw [hold' _ (hlt b hb), h3, h4]
    · rw [if_neg hb, hnew, show H0.size + (b - H0.size) = b by omega]
      exact hl
  have hblk0 : ∀ j : Nat, (H0 ++ bs0)[H0.size + j]? = bs0[j]? := by
    intro j
    rw [Array.getElem?_append_right (by omega)]
    simp
  have hblk : ∀ j : Nat, (H ++ bs)[H.size + j]? = bs[j]? := by
    intro j
    rw [Array.getElem?_append_right (by omega)]
    simp
  have hblkl : ∀ b : Nat, b < H.size → (H ++ bs)[b]? = H[b]? := fun b hb => Array.getElem?_append_left hb
  have hfpn : ∀ (j : Nat) (B' : ABlk) (l : Loc), bs[j]? = some (some B') → m2[H.size + j]? = some l → w.heap.size ≤ l.blk := by
    intro j B' l hB hl
    obtain ⟨B, hB0, ho, _⟩ := hbs j B' hB
    rw [hnew] at hl
    exact (st.fp _ ⟨H0.size + j, B, l, by rw [hblk0]; exact hB0, ho, hl, rfl⟩).elim (fun h => absurd h (hnofp _)) id
  have hsplit : ∀ b : Nat, ¬ b < H.size → ∃ j, b = H.size + j := fun b hb => ⟨b - H.size, by omega⟩
  refine ⟨v', m2, he, hv.vr hτ hv1, ⟨?_, ?_, ?_, ?_⟩, ⟨hold, st.os, st.tape, st.output, st.size, fun g hg _ => hk g hg, ?_⟩⟩
  · rw [hm2, Array.size_append, hsz]
  · intro b l hl hv9
    by_cases hb : b < H.size
    · rw [hold' b hb] at hl
      exact Nat.lt_of_lt_of_le (hr.old b l hl hv9) st.size
    · obtain ⟨j, rfl⟩ := hsplit b hb
      rw [hnew] at hl
      exact hr1.old _ l hl hv9
  · intro b B hB
    by_cases hb : b < H.size
    · rw [hblkl b hb] at hB
      obtain ⟨l, cs, fr, hl, r⟩ := hr.blk b B hB
      exact ⟨l, cs, fr, hold b l hl, r.mono hold (hk _ (hr.old b l hl r.live))⟩
    · obtain ⟨j, rfl⟩ := hsplit b hb
      rw [hblk] at hB
      obtain ⟨B0, hB0, ho, ho', hel, hes, hcs, hcells⟩ := hbs j B hB
      obtain ⟨l, cs, fr, hl, r⟩ := hr1.blk (H0.size + j) B0 (by rw [hblk0]; exact hB0)
      refine ⟨l, cs, fr, by rw [hnew]; exact hl, r.real, r.size, fun _ => r.own ho, fun _ => by rw [hel, hes]; exact r.mine ho, by rw [hcs]; exact r.fits, ?_, r.live⟩
      intro i u hu
      obtain ⟨u0, g1, g2⟩ := hcells i u hu
      obtain ⟨u', g3, g4⟩ := r.vals i u0 g1
      exact ⟨u', g3, g2.vr hτ g4⟩
  · intro b b' B B' l l' hB hB' hl hl' ho heq
    by_cases hb : b < H.size
    · rw [hblkl b hb] at hB
      rw [hold' b hb] at hl
      by_cases hb' : b' < H.size
      · rw [hblkl b' hb'] at hB'
        rw [hold' b' hb'] at hl'
        exact hr.inj b b' B B' l l' hB hB' hl hl' ho heq
      · obtain ⟨j, rfl⟩ := hsplit b' hb'
        rw [hblk] at hB'
        have h3 := hfpn j B' l' hB' hl'
        have h4 := hr.oldB hB hl
        omega
    · obtain ⟨j, rfl⟩ := hsplit b hb
      rw [hblk] at hB
      have h3 := hfpn j B l hB hl
      by_cases hb' : b' < H.size
      · rw [hold' b' hb'] at hl'
        have h4 := hr.oldB (by rw [hblkl b' hb'] at hB'; exact hB') hl'
        omega
      · obtain ⟨j', rfl⟩ := hsplit b' hb'
        rw [hblk] at hB'
        obtain ⟨B0, hB0, ho0, _⟩ := hbs j B hB
        obtain ⟨B1, hB1, ho1, _⟩ := hbs j' B' hB'
        rw [hnew] at hl hl'
        have := hr1.inj (H0.size + j) (H0.size + j') B0 B1 l l' (by rw [hblk0]; exact hB0) (by rw [hblk0]; exact hB1) hl hl' ho0 heq
        omega
  · rintro g ⟨b, B, l, hB, ho, hl, rfl⟩
    by_cases hb : b < H.size
    · rw [hblkl b hb] at hB
      rw [hold' b hb] at hl
      exact .inl ⟨b, B, l, hB, ho, hl, rfl⟩
    · obtain ⟨j, rfl⟩ := hsplit b hb
      rw [hblk] at hB
      exact .inr (hfpn j B l hB hl)

end Go.Proofs.Ytclphdmaedpipaa
