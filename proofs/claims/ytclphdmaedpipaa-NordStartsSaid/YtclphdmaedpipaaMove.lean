/- A contract that was proved in a memory of its own, moved into another one: blocks of plain cells, results of new blocks. -/
import Derived.Test.YtclphdmaedpipaaKeepR
import Derived.Test.YtclphdmaedpipaaHanded
namespace Go.Proofs.Ytclphdmaedpipaa
open Go
set_option linter.unusedVariables false
set_option maxRecDepth 100000

def PlainB (B : ABlk) : Prop := ∀ (i : Nat) (u : Value), B.cells[i]? = some u → closN 4 u = true
/-- An argument there, and here. -/
def BackA (n : Nat) (σ : Nat → Nat) (u0 u : Value) : Prop := BackV n σ u0 u ∨ (u0 = .slice none 0 1 ∧ (u = .slice none 0 1 ∨ u = .slice none 0 0))
theorem BackA.vr {n : Nat} {σ : Nat → Nat} {m mσ : Mp} {u0 u v : Value} (h : BackA n σ u0 u) (hg : ∀ i : Nat, i < n → mσ[i]? = m[σ i]?) (hv : VR m u v) : VR mσ u0 v := by
  rcases h with h | ⟨rfl, rfl | rfl⟩
  · exact h.vr hg hv
  · cases hv; exact .loose _ _
  · cases hv; exact .loose _ _

theorem Runs.move {P : Program} {f : FuncId} {args0 args : Array Value} {H0 H bs : AHeap} {v0 v : Value} (σ : Nat → Nat) (h : Runs P f args0 H0 v0 (H0 ++ bs))
    (hsome : ∀ i, i < H0.size → ∃ B0, H0[i]? = some (some B0))
    (hH : ∀ (i : Nat) (B0 : ABlk), H0[i]? = some (some B0) → B0.own = false ∧ PlainB B0 ∧ ∃ B, H[σ i]? = some (some B) ∧ B.cells = B0.cells)
    (hsz : args0.size = args.size) (hargs : ∀ (i : Nat) (h1 : i < args0.size) (h2 : i < args.size), BackA H0.size σ args0[i] args[i])
    (hv : RelV (relB H0.size H.size σ) v0 v) (hbs : ∀ (j : Nat) (B : ABlk), bs[j]? = some (some B) → B.own = true ∧ PlainB B) : Runs P f args H v (H ++ bs) := by
  refine Runs.relocR σ h ?_ hsome ?_ ?_ hv rfl ?_
  · intro i hi
    obtain ⟨B0, h0⟩ := hsome i hi
    obtain ⟨_, _, B, hB, _⟩ := hH i B0 h0
    exact (Array.getElem?_eq_some_iff.1 hB).1
  · intro i B0 h0
    obtain ⟨h1, h2, B, hB, hc⟩ := hH i B0 h0
    refine ⟨h1, B, hB, by rw [hc], fun j u0 hu => ⟨u0, by rw [hc]; exact hu, .clos (h2 j u0 hu)⟩⟩
  · intro m mσ r hg hr
    exact ⟨hsz.trans hr.1, fun i h1 h2 => (hargs i h1 (hsz ▸ h1)).vr hg (hr.2 i (hsz ▸ h1) h2)⟩
  · intro j B hB
    obtain ⟨h1, h2⟩ := hbs j B hB
    exact ⟨B, hB, h1, h1, rfl, rfl, rfl, fun i u hu => ⟨u, hu, .clos (h2 i u hu)⟩⟩

/-- A reader. -/
theorem Runs.moveR {P : Program} {f : FuncId} {args0 args : Array Value} {H0 H bs : AHeap} {v : Value} (σ : Nat → Nat) (h : Runs P f args0 H0 v (H0 ++ bs)) (hv : closN 4 v = true)
    (hsome : ∀ i, i < H0.size → ∃ B0, H0[i]? = some (some B0))
    (hH : ∀ (i : Nat) (B0 : ABlk), H0[i]? = some (some B0) → B0.own = false ∧ PlainB B0 ∧ ∃ B, H[σ i]? = some (some B) ∧ B.cells = B0.cells)
    (hsz : args0.size = args.size) (hargs : ∀ (i : Nat) (h1 : i < args0.size) (h2 : i < args.size), BackA H0.size σ args0[i] args[i]) : Runs P f args H v H := by
  have hf : AllFrozen H0 := fun b B hB => (hH b B hB).1
  have h1 := h.drop hf hv
  have h2 : Runs P f args0 H0 v (H0 ++ #[]) := by rw [Array.append_empty]; exact h1
  have h3 := h2.move (H := H) (args := args) (v := v) σ hsome hH hsz hargs (.clos hv) (fun j B hB => by simp at hB)
  rw [Array.append_empty] at h3
  exact h3

theorem plain_flat {α : Type} {f : α → List Value} (hf : ∀ a, ∀ u ∈ f a, closN 4 u = true) (l : List α) (t : TypeId) (z : Nat) (o : Bool) : PlainB ⟨(l.flatMap f).toArray, t, z, o⟩ := by
  intro i u hu
  have : u ∈ l.flatMap f := List.mem_of_getElem? (by simpa using hu)
  obtain ⟨a, _, h⟩ := List.mem_flatMap.1 this
  exact hf a u h

end Go.Proofs.Ytclphdmaedpipaa
