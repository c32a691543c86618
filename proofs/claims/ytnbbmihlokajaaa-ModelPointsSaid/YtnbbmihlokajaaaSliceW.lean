/- A function of a plain value and a slice that makes a slice: its contract, moved to any memory. -/
import Derived.Test.YtnbbmihlokajaaaSlices
namespace Go.Proofs.Ytnbbmihlokajaaa
open Go
set_option linter.unusedVariables false
set_option linter.unusedSimpArgs false
set_option maxRecDepth 100000
theorem reloc_w {P : Program} {f : FuncId} {t : TypeId} {vs : List Value} {x : Value} {v0 v va : Value} {H bs : AHeap} (hcl : ∀ u ∈ vs, closN 4 u = true) (hx : closN 4 x = true)
    (hr : Runs P f #[x, argV vs] (heapV t vs) v0 (heapV t vs ++ bs)) (hv : ∀ b, RelV (relB (heapV t vs).size H.size (fun _ => b)) v0 v)
    (hbs : ∀ (j : Nat) (B : ABlk), bs[j]? = some (some B) → B.own = true ∧ ∀ (i : Nat) (u : Value), B.cells[i]? = some u → closN 4 u = true) (hh : HandV H vs va) : Runs P f #[x, va] H v (H ++ bs) := by
  have key : ∀ (σ : Nat → Nat) (j : Nat) (B' : ABlk), bs[j]? = some (some B') → ∃ B : ABlk, bs[j]? = some (some B) ∧ B.own = true ∧ B'.own = true ∧ B'.elem = B.elem ∧ B'.esz = B.esz ∧ B'.cells.size = B.cells.size ∧
      ∀ (i : Nat) (u : Value), B'.cells[i]? = some u → ∃ u0, B.cells[i]? = some u0 ∧ RelV (relB (heapV t vs).size H.size σ) u0 u := fun σ j B' hB =>
    ⟨B', hB, (hbs j B' hB).1, (hbs j B' hB).1, rfl, rfl, rfl, fun i u hu => ⟨u, hu, .clos ((hbs j B' hB).2 i u hu)⟩⟩
  rcases hh with ⟨rfl, hva⟩ | ⟨b, B, hne, rfl, hb, hcells⟩
  · refine Runs.reloc (H0 := heapV t []) (fun _ => 0) hr ?_ (fun i hi => by simp [heapV] at hi) ?_ ?_ (hv 0) rfl (key _)
    · intro i hi; simp [heapV] at hi
    · intro i B0 hi; simp [heapV] at hi
    · intro m mσ r _ h
      have hl := h.list
      obtain ⟨r⟩ := r
      cases hl with
      | cons g0 g2 => cases g2 with
        | cons g1 g3 => cases g3 with
          | nil =>
            refine VRl.arr (.cons (g0.clos_any 4 _ _ hx) (.cons ?_ .nil))
            rcases hva with rfl | rfl
            · cases g1; exact .loose _ _
            · cases g1; exact .loose _ _
  · obtain ⟨z, r0, rfl⟩ : ∃ z r, vs = z :: r := by cases vs with | nil => exact absurd rfl hne | cons z r => exact ⟨z, r, rfl⟩
    refine Runs.reloc (H0 := heapV t (z :: r0)) (fun _ => b) hr ?_ (fun i hi => by
      have : i = 0 := by simp [heapV] at hi; exact hi
      subst this
      exact ⟨_, rfl⟩) ?_ ?_ (hv b) rfl (key _)
    · intro i hi
      exact (Array.getElem?_eq_some_iff.1 hb).1
    · intro i B0 hi
      have hi0 : i = 0 := by
        have := (Array.getElem?_eq_some_iff.1 hi).1
        simp [heapV] at this
        exact this
      subst hi0
      simp [heapV] at hi
      subst hi
      refine ⟨rfl, ?_, B, hb, by rw [hcells]⟩
      intro j u hu
      have h3 : (z :: r0)[j]? = some u := by simpa using hu
      exact hcl u (List.mem_of_getElem? h3)
    · intro m mσ r hm h
      have hl := h.list
      obtain ⟨r⟩ := r
      cases hl with
      | cons g0 g2 => cases g2 with
        | cons g1 g3 => cases g3 with
          | nil => exact VRl.arr (.cons (g0.clos_any 4 _ _ hx) (.cons (vr_slice (hm 0 (by simp [heapV])).symm g1) .nil))

/-- One that makes a slice. -/
theorem make_w {P : Program} {f : FuncId} {t : TypeId} {vs us : List Value} {x : Value} {va : Value} {H bs : AHeap} {k n c : Nat} {e : TypeId} {z : Nat} (hcl : ∀ u ∈ vs, closN 4 u = true) (hx : closN 4 x = true) (hus : ∀ u ∈ us, closN 4 u = true)
    (hr : Runs P f #[x, argV vs] (heapV t vs) (.slice (some ⟨(heapV t vs).size + k, 0, none⟩) n c) (heapV t vs ++ bs)) (hk : bs[k]? = some (some ⟨us.toArray, e, z, true⟩)) (hn : n = us.length)
    (hbs : ∀ (j : Nat) (B : ABlk), bs[j]? = some (some B) → B.own = true ∧ ∀ (i : Nat) (u : Value), B.cells[i]? = some u → closN 4 u = true)
    (hf : AllFrozen H) (hh : HandV H vs va) : Runs P f #[x, va] H (.slice (some ⟨H.size, 0, none⟩) us.length us.length) (H ++ #[some ⟨us.toArray, e, z, true⟩]) := by
  have h1 := reloc_w (H := H) (va := va) (v := .slice (some ⟨H.size + k, 0, none⟩) n c) hcl hx hr (fun b => by
    have : relB (heapV t vs).size H.size (fun _ => b) ((heapV t vs).size + k) = H.size + k := by
      unfold relB
      rw [if_neg (by omega)]
      omega
    have g := RelV.slice (τ := relB (heapV t vs).size H.size (fun _ => b)) ((heapV t vs).size + k) 0 n c
    rw [this] at g
    exact g) hbs hh
  subst hn
  exact Runs.keep1 hf h1 hk (fun j u hu => hus u (List.mem_of_getElem? (by simpa using hu)))

end Go.Proofs.Ytnbbmihlokajaaa
