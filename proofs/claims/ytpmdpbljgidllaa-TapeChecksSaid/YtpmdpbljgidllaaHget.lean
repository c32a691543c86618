/- Reading what was handed in; states in which it is told. -/
import Derived.Test.YtpmdpbljgidllaaTpA
import Derived.Test.YtpmdpbljgidllaaSlices
import Derived.Test.YtpmdpbljgidllaaGenT
namespace Go.Proofs.Ytpmdpbljgidllaa
open Go
set_option linter.unusedVariables false
set_option maxRecDepth 100000

noncomputable def okI : Bool := (match Try.prog.underlying 23 with
  | some (.slice e) => e == 3
  | _ => false) && (match Try.prog.underlying 3 with
  | some (.struct _) | some (.array _ _) | none => false
  | some _ => true) && (match Try.prog.info? 3 with
  | some i => i.size == 1
  | none => false)
theorem okI_t : okI = true := by kernel_rfl
theorem okI_sl : Try.prog.underlying 23 = some (.slice 3) := by
  have h := okI_t
  unfold okI at h
  simp only [Bool.and_eq_true] at h
  have h1 := h.1.1
  split at h1
  · rename_i e he; rw [he, eq_of_beq h1]
  · cases h1
theorem okI_pl : ∃ u, Try.prog.underlying 3 = some u ∧ (∀ fs, u ≠ .struct fs) ∧ ∀ n e, u ≠ .array n e := by
  have h := okI_t
  unfold okI at h
  simp only [Bool.and_eq_true] at h
  have h1 := h.1.2
  cases hu : Try.prog.underlying 3 with
  | none => rw [hu] at h1; cases h1
  | some u =>
    rw [hu] at h1
    refine ⟨u, rfl, ?_, ?_⟩
    · rintro fs rfl; cases h1
    · rintro n e rfl; cases h1
theorem okI_sz : ∃ i, Try.prog.info? 3 = some i ∧ i.size = 1 := by
  have h := okI_t
  unfold okI at h
  simp only [Bool.and_eq_true] at h
  have h1 := h.2
  split at h1
  · rename_i i hi; exact ⟨i, hi, eq_of_beq h1⟩
  · cases h1
theorem Handed.partsG {H : AHeap} {zs : List Int} {v : Value} (h : Handed H zs v) : ∃ a c, v = .slice a zs.length c := by
  rcases h with ⟨rfl, rfl⟩ | ⟨b, B, _, rfl, _, _⟩
  · exact ⟨_, _, rfl⟩
  · exact ⟨_, _, rfl⟩
theorem map_flat {α β : Type} (f : α → β) : ∀ l : List α, l.map f = l.flatMap fun x => [f x]
  | [] => rfl
  | a :: l => by rw [List.map_cons, List.flatMap_cons, map_flat f l]; rfl
theorem Handed.getG {H : AHeap} {zs : List Int} {v : Value} (h : Handed H zs v) {i : Nat} (hi : i < zs.length) : ∃ p, indexAddrV Try.prog 23 v (.int .i64 (Int.ofNat i)) = some (.pointer (some p)) ∧ ∀ c : AHeap, readVar Try.prog (H ++ c) 3 p = some (.int .i64 (zs.getD i 0)) := by
  rcases h with ⟨rfl, rfl⟩ | ⟨b, B, _, rfl, hb, hc⟩
  · simp at hi
  · obtain ⟨i0, g1, g2⟩ := okI_sz
    refine ⟨⟨b, i, none⟩, ix_slice okI_sl g1 g2 (by simp) (by simpa using hi) (by simp), fun c => ?_⟩
    refine rd_one (g := fun x => .int .i64 x) okI_pl (B := B) (l := zs) (k := i) (a := zs.getD i 0) ?_ ?_ ?_ rfl
    · rw [Array.getElem?_append_left (Array.getElem?_eq_some_iff.1 hb).1]; exact hb
    · rw [hc, map_flat]
    · rw [List.getD_eq_getElem?_getD, List.getElem?_eq_getElem hi]; rfl
/-- A value that was handed in is told by its own numbers. -/
theorem Handed.low {H : AHeap} {zs : List Int} {v : Value} (h : Handed H zs v) {z : Nat} {ρ : Nat → Nat} (hz : ∀ b, b < H.size → b < z ∧ ρ b = b) : RelA z ρ v v := by
  rcases h with ⟨rfl, rfl⟩ | ⟨b, B, _, rfl, hb, hc⟩
  · exact .loose
  · obtain ⟨h1, h2⟩ := hz b (Array.getElem?_eq_some_iff.1 hb).1
    exact .slice b b 0 none _ _ _ h1 h2
theorem relBs_pl {z : Nat} {ρ : Nat → Nat} {o : Option ABlk} (h : PlO o) {l : List (Option ABlk)} {l' : List (Option (Option ABlk))} (t : RelBs z ρ l l') : RelBs z ρ (o :: l) (some o :: l') := by
  cases o with
  | none => exact .none _ t
  | some B => exact .some (RelK.plain fun i v hv => h B rfl i v hv) t
theorem relBs_own {z : Nat} {ρ : Nat → Nat} {B : ABlk} (h : ∀ (i : Nat) (v : Value), B.cells[i]? = some v → closN 4 v = true) {l : List (Option ABlk)} {l' : List (Option (Option ABlk))} (t : RelBs z ρ l l') : RelBs z ρ (some B :: l) (some (some B) :: l') := .some (.plain h) t

end Go.Proofs.Ytpmdpbljgidllaa
