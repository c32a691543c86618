/- A function of one slice of plain values: its contract in a small memory, moved to any memory; what it made but did not return is forgotten. -/
import Derived.Test.YtclphdmaedpipaaHanded
namespace Go.Proofs.Ytclphdmaedpipaa
open Go
set_option linter.unusedVariables false

def AllFrozen (H : AHeap) : Prop := ∀ (b : Nat) (B : ABlk), H[b]? = some (some B) → B.own = false
theorem froze_all (H : AHeap) : AllFrozen (froze H) := fun b B h => (froze_get h).1

theorem vr_cap {m : Mp} {b o n c c' : Nat} {v : Value} (h : VR m (.slice (some ⟨b, o, none⟩) n c) v) : VR m (.slice (some ⟨b, o, none⟩) n c') v := by
  cases h with
  | slice ht hn hr => exact .slice ht hn hr

theorem AllFrozen.nofp {H : AHeap} (h : AllFrozen H) {m : Mp} : ∀ g, ¬ FP H m g := by
  rintro g ⟨b, B, l, hb, ho, _⟩
  rw [h b B hb] at ho
  cases ho

/-- New blocks that nothing points to are forgotten. -/
theorem Runs.drop {P : Program} {f : FuncId} {args : Array Value} {H bs : AHeap} {v : Value} (hf : AllFrozen H) (h : Runs P f args H v (H ++ bs)) (hv : closN 4 v = true) : Runs P f args H v H := by
  intro m w args' hr ha
  obtain ⟨h1, h2⟩ := h m w args' hr ha
  refine ⟨h1, h2.mono ?_⟩
  rintro e w' ⟨v', m1, he, hv1, hr1, st⟩
  refine ⟨v', m, he, hv1.clos_any 4 _ _ hv, ⟨hr.size, fun b l hl hlv => Nat.lt_of_lt_of_le (hr.old b l hl hlv) st.size, ?_, hr.inj⟩, ⟨fun b l h => h, st.os, st.tape, st.output, st.size, st.keep, fun g hg => .inl hg⟩⟩
  intro b B hB
  obtain ⟨l, cs, fr, hl, r⟩ := hr.blk b B hB
  exact ⟨l, cs, fr, hl, r.mono (fun b l h => h) (st.keep _ (hr.old b l hl r.live) (hf.nofp _))⟩

/-- Of the new blocks the one that the result points to is kept. -/
theorem Runs.keep1 {P : Program} {f : FuncId} {args : Array Value} {H bs : AHeap} {B : ABlk} {k off n c : Nat} (hf : AllFrozen H)
    (h : Runs P f args H (.slice (some ⟨H.size + k, off, none⟩) n c) (H ++ bs)) (hk : bs[k]? = some (some B)) (hcl : ∀ (j : Nat) (u : Value), B.cells[j]? = some u → closN 4 u = true) :
    Runs P f args H (.slice (some ⟨H.size, off, none⟩) n n) (H ++ #[some B]) := by
  intro m w args' hr ha
  obtain ⟨h1, h2⟩ := h m w args' hr ha
  refine ⟨h1, h2.mono ?_⟩
  rintro e w' ⟨v', m1, he, hv, hr1, st⟩
  have hms : m.size = H.size := hr.size
  have hB1 : (H ++ bs)[H.size + k]? = some (some B) := by rw [Array.getElem?_append_right (by omega)]; simpa using hk
  obtain ⟨l, cs, fr, hl, br⟩ := hr1.blk _ _ hB1
  have gnew : (m ++ #[l])[H.size]? = some l := by rw [Array.getElem?_append_right (by omega), hms]; simp
  have gold : ∀ b, b < H.size → (m ++ #[l])[b]? = m[b]? := fun b hb => Array.getElem?_append_left (by omega)
  have gext : ∀ (b : Nat) (l' : Loc), m[b]? = some l' → (m ++ #[l])[b]? = some l' := by
    intro b l' hl'
    have := (Array.getElem?_eq_some_iff.1 hl').1
    rw [gold b (by omega)]; exact hl'
  have hsz : ∀ {b : Nat} {l' : Loc}, (m ++ #[l])[b]? = some l' → b < H.size ∨ b = H.size := by
    intro b l' h
    have := (Array.getElem?_eq_some_iff.1 h).1
    simp [hms] at this
    omega
  have Hold : ∀ b, b < H.size → (H ++ #[some B])[b]? = H[b]? := fun b hb => Array.getElem?_append_left hb
  have Hnew : (H ++ #[some B])[H.size]? = some (some B) := by simp
  have Hsz : ∀ {b : Nat} {X : Option ABlk}, (H ++ #[some B])[b]? = some X → b < H.size ∨ b = H.size := by
    intro b X h
    have := (Array.getElem?_eq_some_iff.1 h).1
    simp at this
    omega
  refine ⟨v', m ++ #[l], he, vr_cap (c := c) (vr_slice (hl.trans gnew.symm) hv), ⟨?_, ?_, ?_, ?_⟩, ⟨gext, st.os, st.tape, st.output, st.size, st.keep, ?_⟩⟩
  · simp [hms]
  · intro b l' hl' hlv
    rcases hsz hl' with hb | rfl
    · rw [gold b hb] at hl'
      exact Nat.lt_of_lt_of_le (hr.old b l' hl' hlv) st.size
    · rw [gnew] at hl'
      injection hl' with hl'
      subst hl'
      exact hr1.old _ _ hl hlv
  · intro b B' hB'
    rcases Hsz hB' with hb | rfl
    · rw [Hold b hb] at hB'
      obtain ⟨l', cs', fr', hl', r⟩ := hr.blk b B' hB'
      exact ⟨l', cs', fr', gext b l' hl', r.mono gext (st.keep _ (hr.old b l' hl' r.live) (hf.nofp _))⟩
    · rw [Hnew] at hB'
      injection hB' with hB'
      injection hB' with hB'
      subst hB'
      refine ⟨l, cs, fr, gnew, br.real, br.size, br.own, br.mine, br.fits, ?_, br.live⟩
      intro i u hu
      obtain ⟨u', g1, g2⟩ := br.vals i u hu
      exact ⟨u', g1, g2.clos_any 4 _ _ (hcl i u hu)⟩
  · intro b b' B1 B2 l1 l2 hB1' hB2' hl1 hl2 ho heq
    rcases Hsz hB1' with hb | rfl
    · rw [Hold b hb] at hB1'
      rw [hf b B1 hB1'] at ho
      cases ho
    · rw [Hnew] at hB1'
      injection hB1' with hB1'
      injection hB1' with hB1'
      subst hB1'
      rw [gnew] at hl1
      injection hl1 with hl1
      subst hl1
      rcases Hsz hB2' with hb' | rfl
      · rw [Hold b' hb'] at hB2'
        rw [gold b' hb'] at hl2
        have g1 : (H ++ bs)[b']? = some (some B2) := by rw [Array.getElem?_append_left hb']; exact hB2'
        have := hr1.inj _ _ _ _ _ _ hB1 g1 hl (st.ext _ _ hl2) ho heq
        omega
      · rfl
  · rintro g ⟨b, B', l', hb, ho, hl', hg⟩
    rcases Hsz hb with h5 | rfl
    · rw [Hold b h5] at hb
      rw [hf b B' hb] at ho
      cases ho
    · rw [Hnew] at hb
      injection hb with hb
      injection hb with hb
      subst hb
      rw [gnew] at hl'
      injection hl' with hl'
      subst hl'
      exact st.fp g ⟨_, B, l, hB1, ho, hl, hg⟩

/-! moved -/
def argV (vs : List Value) : Value := match vs with
  | [] => .slice none 0 1
  | _ :: _ => .slice (some ⟨0, 0, none⟩) vs.length vs.length
def heapV (t : TypeId) (vs : List Value) : AHeap := match vs with
  | [] => #[]
  | _ :: _ => #[some ⟨vs.toArray, t, 1, false⟩]
/-- How a slice of plain values stands in a memory. -/
def HandV (H : AHeap) (vs : List Value) (v : Value) : Prop :=
  (vs = [] ∧ (v = .slice none 0 1 ∨ v = .slice none 0 0)) ∨ ∃ b B, vs ≠ [] ∧ v = .slice (some ⟨b, 0, none⟩) vs.length vs.length ∧ H[b]? = some (some B) ∧ B.cells = vs.toArray
theorem Handed.toV {H : AHeap} {zs : List Int} {v : Value} (h : Handed H zs v) : HandV H (zs.map (Value.int .i64)) v := by
  rcases h with ⟨rfl, rfl⟩ | ⟨b, B, h1, h2, h3, h4⟩
  · exact .inl ⟨rfl, .inl rfl⟩
  · refine .inr ⟨b, B, fun h => h1 (List.map_eq_nil_iff.1 h), ?_, h3, h4⟩
    rw [List.length_map]; exact h2
theorem HandV.froze {H : AHeap} {zs : List Value} {v : Value} (h : HandV H zs v) : HandV (froze H) zs v := by
  rcases h with h | ⟨b, B, h1, h2, h3, h4⟩
  · exact .inl h
  · refine .inr ⟨b, { B with own := false }, h1, h2, ?_, h4⟩
    unfold Go.Proofs.Ytclphdmaedpipaa.froze
    simp only [List.getElem?_toArray, List.getElem?_map, Array.getElem?_toList, h3]
    rfl
theorem HandV.thaw {H : AHeap} {zs : List Value} {v : Value} (h : HandV H zs v) (bs : AHeap) : HandV (Go.Proofs.Ytclphdmaedpipaa.thaw H (Go.Proofs.Ytclphdmaedpipaa.froze H ++ bs)) zs v := by
  rcases h with h | ⟨b, B, h1, h2, h3, h4⟩
  · exact .inl h
  · refine .inr ⟨b, B, h1, h2, ?_, h4⟩
    rw [thaw_get (by simp [Go.Proofs.Ytclphdmaedpipaa.froze]), if_pos (Array.getElem?_eq_some_iff.1 h3).1]
    exact h3

theorem reloc_v {P : Program} {f : FuncId} {t : TypeId} {vs : List Value} {ex : List Value} {v0 v va : Value} {H bs : AHeap} (hcl : ∀ u ∈ vs, closN 4 u = true) (hex : ∀ u ∈ ex, closN 4 u = true)
    (hr : Runs P f (argV vs :: ex).toArray (heapV t vs) v0 (heapV t vs ++ bs)) (hv : ∀ b, RelV (relB (heapV t vs).size H.size (fun _ => b)) v0 v)
    (hbs : ∀ (j : Nat) (B : ABlk), bs[j]? = some (some B) → B.own = true ∧ ∀ (i : Nat) (u : Value), B.cells[i]? = some u → closN 4 u = true) (hh : HandV H vs va) : Runs P f (va :: ex).toArray H v (H ++ bs) := by
  have key : ∀ (σ : Nat → Nat) (j : Nat) (B' : ABlk), bs[j]? = some (some B') → ∃ B : ABlk, bs[j]? = some (some B) ∧ B.own = true ∧ B'.own = true ∧ B'.elem = B.elem ∧ B'.esz = B.esz ∧ B'.cells.size = B.cells.size ∧
      ∀ (i : Nat) (u : Value), B'.cells[i]? = some u → ∃ u0, B.cells[i]? = some u0 ∧ RelV (relB (heapV t vs).size H.size σ) u0 u := fun σ j B' hB =>
    ⟨B', hB, (hbs j B' hB).1, (hbs j B' hB).1, rfl, rfl, rfl, fun i u hu => ⟨u, hu, .clos ((hbs j B' hB).2 i u hu)⟩⟩
  have exs : ∀ {m mσ : Mp} {ys : List Value}, VRl m ex ys → VRl mσ ex ys := by
    intro m mσ ys h
    clear hr
    induction h with
    | nil => exact .nil
    | cons h t ih => exact .cons (h.clos_any 4 _ _ (hex _ (List.mem_cons_self ..))) (ih fun u hu => hex u (List.mem_cons_of_mem _ hu))
  rcases hh with ⟨rfl, hva⟩ | ⟨b, B, hne, rfl, hb, hcells⟩
  · refine Runs.reloc (H0 := heapV t []) (fun _ => 0) hr ?_ (fun i hi => by simp [heapV] at hi) ?_ ?_ (hv 0) rfl (key _)
    · intro i hi; simp [heapV] at hi
    · intro i B0 hi; simp [heapV] at hi
    · intro m mσ r _ h
      have hl := h.list
      obtain ⟨r⟩ := r
      cases hl with
      | cons g1 g2 =>
        refine VRl.arr (.cons ?_ (exs g2))
        rcases hva with rfl | rfl
        · cases g1; exact .loose _ _
        · cases g1; exact .loose _ _
  · obtain ⟨z, r0, rfl⟩ : ∃ z r, vs = z :: r := by cases vs with | nil => exact absurd rfl hne | cons z r => exact ⟨z, r, rfl⟩
    refine Runs.reloc (H0 := heapV t (z :: r0)) (fun _ => b) hr ?_ (fun i hi => by
      have : i = 0 := by simp [heapV] at hi; exact hi
      subst this
      exact ⟨_, rfl⟩) ?_ ?_ (hv b) rfl (key _)
    · intro i hi
      exact (Array.getElem?_eq_some_iff.1 hb).1
    · intro i B0 hi
      have hi0 : i = 0 := by
        have := (Array.getElem?_eq_some_iff.1 hi).1
        simp [heapV] at this
        exact this
      subst hi0
      simp [heapV] at hi
      subst hi
      refine ⟨rfl, ?_, B, hb, by rw [hcells]⟩
      intro j u hu
      have h3 : (z :: r0)[j]? = some u := by simpa using hu
      exact hcl u (List.mem_of_getElem? h3)
    · intro m mσ r hm h
      have hl := h.list
      obtain ⟨r⟩ := r
      cases hl with
      | cons g1 g2 =>
        exact VRl.arr (.cons (vr_slice (hm 0 (by simp [heapV])).symm g1) (exs g2))

/-- A reader. -/
theorem read_v {P : Program} {f : FuncId} {t : TypeId} {vs : List Value} {ex : List Value} {v va : Value} {H bs : AHeap} (hcl : ∀ u ∈ vs, closN 4 u = true) (hex : ∀ u ∈ ex, closN 4 u = true)
    (hr : Runs P f (argV vs :: ex).toArray (heapV t vs) v (heapV t vs ++ bs)) (hv : closN 4 v = true)
    (hf : AllFrozen H) (hh : HandV H vs va) : Runs P f (va :: ex).toArray H v H := by
  have hf0 : AllFrozen (heapV t vs) := by
    intro b B hB
    cases vs with
    | nil => simp [heapV] at hB
    | cons z r =>
      have hi0 : b = 0 := by
        have := (Array.getElem?_eq_some_iff.1 hB).1
        simp [heapV] at this
        exact this
      subst hi0
      simp [heapV] at hB
      subst hB
      rfl
  have h0 := hr.drop hf0 hv
  have h1 : Runs P f (argV vs :: ex).toArray (heapV t vs) v (heapV t vs ++ #[]) := by rw [Array.append_empty]; exact h0
  have h2 := reloc_v (H := H) (va := va) hcl hex h1 (fun b => .clos hv) (fun j B h => by simp at h) hh
  rw [Array.append_empty] at h2
  exact h2
/-- One that makes a slice. -/
theorem make_v {P : Program} {f : FuncId} {t : TypeId} {vs us : List Value} {ex : List Value} {va : Value} {H bs : AHeap} {k n c : Nat} {e : TypeId} {z : Nat} (hcl : ∀ u ∈ vs, closN 4 u = true) (hex : ∀ u ∈ ex, closN 4 u = true) (hus : ∀ u ∈ us, closN 4 u = true)
    (hr : Runs P f (argV vs :: ex).toArray (heapV t vs) (.slice (some ⟨(heapV t vs).size + k, 0, none⟩) n c) (heapV t vs ++ bs)) (hk : bs[k]? = some (some ⟨us.toArray, e, z, true⟩)) (hn : n = us.length)
    (hbs : ∀ (j : Nat) (B : ABlk), bs[j]? = some (some B) → B.own = true ∧ ∀ (i : Nat) (u : Value), B.cells[i]? = some u → closN 4 u = true)
    (hf : AllFrozen H) (hh : HandV H vs va) : Runs P f (va :: ex).toArray H (.slice (some ⟨H.size, 0, none⟩) us.length us.length) (H ++ #[some ⟨us.toArray, e, z, true⟩]) := by
  have h1 := reloc_v (H := H) (va := va) (v := .slice (some ⟨H.size + k, 0, none⟩) n c) hcl hex hr (fun b => by
    have : relB (heapV t vs).size H.size (fun _ => b) ((heapV t vs).size + k) = H.size + k := by
      unfold relB
      rw [if_neg (by omega)]
      omega
    have g := RelV.slice (τ := relB (heapV t vs).size H.size (fun _ => b)) ((heapV t vs).size + k) 0 n c
    rw [this] at g
    exact g) hbs hh
  subst hn
  exact Runs.keep1 hf h1 hk (fun j u hu => hus u (List.mem_of_getElem? (by simpa using hu)))

end Go.Proofs.Ytclphdmaedpipaa
