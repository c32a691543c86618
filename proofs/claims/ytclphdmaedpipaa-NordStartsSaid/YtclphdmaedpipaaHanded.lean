/- A slice of ints that was handed in, in a memory of more blocks; a contract that reads it, moved there. -/
import Derived.Test.YtclphdmaedpipaaReloc
import Derived.Test.YtclphdmaedpipaaSlice
namespace Go.Proofs.Ytclphdmaedpipaa
open Go
set_option linter.unusedVariables false

/-- How a slice of ints that was handed in stands in a memory: it is nothing, or all of one block. -/
def Handed (H : AHeap) (zs : List Int) (v : Value) : Prop :=
  (zs = [] ∧ v = .slice none 0 1) ∨ ∃ b B, zs ≠ [] ∧ v = .slice (some ⟨b, 0, none⟩) zs.length zs.length ∧ H[b]? = some (some B) ∧ B.cells = (zs.map (Value.int .i64)).toArray

theorem Handed.froze {H : AHeap} {zs : List Int} {v : Value} (h : Handed H zs v) : Handed (froze H) zs v := by
  rcases h with h | ⟨b, B, h1, h2, h3, h4⟩
  · exact .inl h
  · refine .inr ⟨b, { B with own := false }, h1, h2, ?_, h4⟩
    unfold Go.Proofs.Ytclphdmaedpipaa.froze
    simp only [List.getElem?_toArray, List.getElem?_map, Array.getElem?_toList, h3]
    rfl
theorem Handed.thaw {H : AHeap} {zs : List Int} {v : Value} (h : Handed H zs v) (bs : AHeap) : Handed (Go.Proofs.Ytclphdmaedpipaa.thaw H (Go.Proofs.Ytclphdmaedpipaa.froze H ++ bs)) zs v := by
  rcases h with h | ⟨b, B, h1, h2, h3, h4⟩
  · exact .inl h
  · refine .inr ⟨b, B, h1, h2, ?_, h4⟩
    rw [thaw_get (by simp [Go.Proofs.Ytclphdmaedpipaa.froze]), if_pos (Array.getElem?_eq_some_iff.1 h3).1]
    exact h3

theorem vrs_two {m : Mp} {a b : Value} {r : Array Value} (h : VRs m #[a, b] r) : ∃ x y, r = #[x, y] ∧ VR m a x ∧ VR m b y := by
  have hl := h.list
  cases r with
  | mk l =>
    cases hl with
    | cons h1 t1 => cases t1 with
      | cons h2 t2 => cases t2 with
        | nil => exact ⟨_, _, rfl, h1, h2⟩

/-- A function of a slice of ints and a number, that makes blocks of numbers. -/
theorem reloc_int {P : Program} {f : FuncId} {zs : List Int} {n : Int} {v va : Value} {H bs : AHeap} (hr : Runs P f #[arg0 zs, .int .i64 n] (froze (heap0 zs)) v (froze (heap0 zs) ++ bs)) (hv : closN 4 v = true)
    (hbs : ∀ (j : Nat) (B : ABlk), bs[j]? = some (some B) → B.own = true ∧ ∀ (i : Nat) (u : Value), B.cells[i]? = some u → closN 4 u = true) (hh : Handed H zs va) : Runs P f #[va, .int .i64 n] H v (H ++ bs) := by
  have key : ∀ (σ : Nat → Nat) (j : Nat) (B' : ABlk), bs[j]? = some (some B') → ∃ B : ABlk, bs[j]? = some (some B) ∧ B.own = true ∧ B'.own = true ∧ B'.elem = B.elem ∧ B'.esz = B.esz ∧ B'.cells.size = B.cells.size ∧
      ∀ (i : Nat) (u : Value), B'.cells[i]? = some u → ∃ u0, B.cells[i]? = some u0 ∧ RelV (relB (froze (heap0 zs)).size H.size σ) u0 u := fun σ j B' hB =>
    ⟨B', hB, (hbs j B' hB).1, (hbs j B' hB).1, rfl, rfl, rfl, fun i u hu => ⟨u, hu, .clos ((hbs j B' hB).2 i u hu)⟩⟩
  rcases hh with ⟨rfl, rfl⟩ | ⟨b, B, hne, rfl, hb, hcells⟩
  · refine Runs.reloc (H0 := froze (heap0 [])) (fun _ => 0) hr ?_ (fun i hi => by simp [froze, heap0] at hi) ?_ ?_ (.clos hv) rfl (key _)
    · intro i hi; simp [froze, heap0] at hi
    · intro i B0 hi; simp [froze, heap0] at hi
    · intro m mσ r _ h
      obtain ⟨x, y, rfl, g1, g2⟩ := vrs_two h
      refine VRl.arr (.cons ?_ (.cons ?_ .nil))
      · cases g1; exact .loose _ _
      · cases g2; exact .int _ _
  · obtain ⟨z, r0, rfl⟩ : ∃ z r, zs = z :: r := by cases zs with | nil => exact absurd rfl hne | cons z r => exact ⟨z, r, rfl⟩
    refine Runs.reloc (H0 := froze (heap0 (z :: r0))) (fun _ => b) hr ?_ (fun i hi => by
      have : i = 0 := by simp [froze, heap0] at hi; exact hi
      subst this
      exact ⟨_, rfl⟩) ?_ ?_ (.clos hv) rfl (key _)
    · intro i hi
      exact (Array.getElem?_eq_some_iff.1 hb).1
    · intro i B0 hi
      have hi0 : i = 0 := by
        have := (Array.getElem?_eq_some_iff.1 hi).1
        simp [froze, heap0] at this
        exact this
      subst hi0
      simp [froze, heap0, fz] at hi
      subst hi
      refine ⟨rfl, ?_, B, hb, by rw [hcells]; rfl⟩
      intro j u hu
      have : u ∈ (z :: r0).map (Value.int .i64) := by
        have h3 : ((z :: r0).map (Value.int .i64))[j]? = some u := by simpa using hu
        exact List.mem_of_getElem? h3
      simp only [List.mem_map] at this
      obtain ⟨n, _, rfl⟩ := this
      rfl
    · intro m mσ r hm h
      obtain ⟨x, y, rfl, g1, g2⟩ := vrs_two h
      refine VRl.arr (.cons ?_ (.cons ?_ .nil))
      · exact vr_slice (hm 0 (by simp [froze, heap0])).symm g1
      · cases g2; exact .int _ _

end Go.Proofs.Ytclphdmaedpipaa
