/- jac.Norm of whole numbers, in a law's memory. -/
import Derived.Test.YtdlinjijccnaeaaJacNormA
namespace Go.Proofs.Ytdlinjijccnaeaa
open Go
set_option linter.unusedVariables false
set_option linter.unusedSimpArgs false
set_option maxRecDepth 100000

/-! the memory that the law leaves: rows, one grown out of the other -/
def rowBs (n : Nat) (R : Nat → P2) : Nat → Nat → List (Option ABlk)
  | 0, _ => []
  | m + 1, c => some ⟨#[fW (R c).1, fW (R c).2], 29, 2, true⟩ :: (bif Nat.beq m 0 then rBlk true n R else none) :: rowBs n R m (c + 1)
def posR (h n i : Nat) : Nat := h + i * (2 * n + 2) + (2 * n - 1)
def posO (h n : Nat) : Nat := h + n * (2 * n + 2) - 1
def lawBs (h n : Nat) (M : Nat → Nat → P2) : Nat → Nat → List (Option ABlk)
  | 0, _ => []
  | m + 1, i => rowBs n (M i) n 0 ++ (some ⟨#[.slice (some ⟨posR h n i, 0, none⟩) n n], 26, 1, true⟩ :: (bif Nat.beq m 0 then oBlk true n (posR h n) else none) :: lawBs h n M m (i + 1))
def lawH (H : AHeap) (n : Nat) (M : Nat → Nat → P2) : AHeap := (H.toList ++ lawBs H.size n M n 0).toArray
def sgN (h n i : Nat) : Nat := if i < n then posR h n i else posO h n
theorem cells_cl {n : Nat} {R : Nat → P2} : ∀ m, ∀ u ∈ cells n R m, closN 4 u = true
  | 0, u, h => by cases h
  | m + 1, u, h => by
    rcases List.mem_cons.1 h with rfl | h
    · rfl
    · rcases List.mem_cons.1 h with rfl | h
      · rfl
      · exact cells_cl m u h
theorem hs1_0 (M : Nat → Nat → P2) : ∀ (i : Nat) (B0 : ABlk), (hN1 M)[i]? = some (some B0) → ∃ B, (froze (lawH #[] 1 M))[sgN 0 1 i]? = some (some B) ∧ B.cells.size = B0.cells.size ∧ ∀ (j : Nat) (u0 : Value), B0.cells[j]? = some u0 → ∃ u, B.cells[j]? = some u ∧ BackV 2 (sgN 0 1) u0 u := by
  intro i B0 hB
  match i, hB with
  | 0, hB =>
    have e : B0 = ⟨(cells 1 (M 0) 1).toArray, 29, 2, false⟩ := (Option.some.inj (Option.some.inj hB)).symm
    subst e
    exact ⟨⟨(cells 1 (M 0) 1).toArray, 29, 2, false⟩, by kernel_rfl, rfl, fun j u0 hu => ⟨u0, hu, .clos (cells_cl 1 u0 (List.mem_of_getElem? (by simpa using hu)))⟩⟩
  | 1, hB =>
    have e : B0 = ⟨(oCells 1 idN 1).toArray, 26, 1, false⟩ := (Option.some.inj (Option.some.inj hB)).symm
    subst e
    refine ⟨⟨(oCells 1 (posR 0 1) 1).toArray, 26, 1, false⟩, by kernel_rfl, rfl, fun j u0 hu => ?_⟩
    match j, hu with
    | 0, hu =>
      have e : u0 = .slice (some ⟨0, 0, none⟩) 1 1 := (Option.some.inj hu).symm
      subst e
      exact ⟨.slice (some ⟨sgN 0 1 0, 0, none⟩) 1 1, by kernel_rfl, .slice 0 0 1 1 (by decide)⟩
    | j + 1, hu => exact absurd hu (by intro h; cases h)
  | i + 2, hB => exact absurd hB (by intro h; cases h)
theorem hs1_1 (ob : Option ABlk) (M : Nat → Nat → P2) : ∀ (i : Nat) (B0 : ABlk), (hN1 M)[i]? = some (some B0) → ∃ B, (froze (lawH #[ob] 1 M))[sgN 1 1 i]? = some (some B) ∧ B.cells.size = B0.cells.size ∧ ∀ (j : Nat) (u0 : Value), B0.cells[j]? = some u0 → ∃ u, B.cells[j]? = some u ∧ BackV 2 (sgN 1 1) u0 u := by
  intro i B0 hB
  match i, hB with
  | 0, hB =>
    have e : B0 = ⟨(cells 1 (M 0) 1).toArray, 29, 2, false⟩ := (Option.some.inj (Option.some.inj hB)).symm
    subst e
    exact ⟨⟨(cells 1 (M 0) 1).toArray, 29, 2, false⟩, by kernel_rfl, rfl, fun j u0 hu => ⟨u0, hu, .clos (cells_cl 1 u0 (List.mem_of_getElem? (by simpa using hu)))⟩⟩
  | 1, hB =>
    have e : B0 = ⟨(oCells 1 idN 1).toArray, 26, 1, false⟩ := (Option.some.inj (Option.some.inj hB)).symm
    subst e
    refine ⟨⟨(oCells 1 (posR 1 1) 1).toArray, 26, 1, false⟩, by kernel_rfl, rfl, fun j u0 hu => ?_⟩
    match j, hu with
    | 0, hu =>
      have e : u0 = .slice (some ⟨0, 0, none⟩) 1 1 := (Option.some.inj hu).symm
      subst e
      exact ⟨.slice (some ⟨sgN 1 1 0, 0, none⟩) 1 1, by kernel_rfl, .slice 0 0 1 1 (by decide)⟩
    | j + 1, hu => exact absurd hu (by intro h; cases h)
  | i + 2, hB => exact absurd hB (by intro h; cases h)
theorem hs2_0 (M : Nat → Nat → P2) : ∀ (i : Nat) (B0 : ABlk), (hN2 M)[i]? = some (some B0) → ∃ B, (froze (lawH #[] 2 M))[sgN 0 2 i]? = some (some B) ∧ B.cells.size = B0.cells.size ∧ ∀ (j : Nat) (u0 : Value), B0.cells[j]? = some u0 → ∃ u, B.cells[j]? = some u ∧ BackV 3 (sgN 0 2) u0 u := by
  intro i B0 hB
  match i, hB with
  | 0, hB =>
    have e : B0 = ⟨(cells 2 (M 0) 2).toArray, 29, 2, false⟩ := (Option.some.inj (Option.some.inj hB)).symm
    subst e
    exact ⟨⟨(cells 2 (M 0) 2).toArray, 29, 2, false⟩, by kernel_rfl, rfl, fun j u0 hu => ⟨u0, hu, .clos (cells_cl 2 u0 (List.mem_of_getElem? (by simpa using hu)))⟩⟩
  | 1, hB =>
    have e : B0 = ⟨(cells 2 (M 1) 2).toArray, 29, 2, false⟩ := (Option.some.inj (Option.some.inj hB)).symm
    subst e
    exact ⟨⟨(cells 2 (M 1) 2).toArray, 29, 2, false⟩, by kernel_rfl, rfl, fun j u0 hu => ⟨u0, hu, .clos (cells_cl 2 u0 (List.mem_of_getElem? (by simpa using hu)))⟩⟩
  | 2, hB =>
    have e : B0 = ⟨(oCells 2 idN 2).toArray, 26, 1, false⟩ := (Option.some.inj (Option.some.inj hB)).symm
    subst e
    refine ⟨⟨(oCells 2 (posR 0 2) 2).toArray, 26, 1, false⟩, by kernel_rfl, rfl, fun j u0 hu => ?_⟩
    match j, hu with
    | 0, hu =>
      have e : u0 = .slice (some ⟨0, 0, none⟩) 2 2 := (Option.some.inj hu).symm
      subst e
      exact ⟨.slice (some ⟨sgN 0 2 0, 0, none⟩) 2 2, by kernel_rfl, .slice 0 0 2 2 (by decide)⟩
    | 1, hu =>
      have e : u0 = .slice (some ⟨1, 0, none⟩) 2 2 := (Option.some.inj hu).symm
      subst e
      exact ⟨.slice (some ⟨sgN 0 2 1, 0, none⟩) 2 2, by kernel_rfl, .slice 1 0 2 2 (by decide)⟩
    | j + 2, hu => exact absurd hu (by intro h; cases h)
  | i + 3, hB => exact absurd hB (by intro h; cases h)
theorem hs2_1 (ob : Option ABlk) (M : Nat → Nat → P2) : ∀ (i : Nat) (B0 : ABlk), (hN2 M)[i]? = some (some B0) → ∃ B, (froze (lawH #[ob] 2 M))[sgN 1 2 i]? = some (some B) ∧ B.cells.size = B0.cells.size ∧ ∀ (j : Nat) (u0 : Value), B0.cells[j]? = some u0 → ∃ u, B.cells[j]? = some u ∧ BackV 3 (sgN 1 2) u0 u := by
  intro i B0 hB
  match i, hB with
  | 0, hB =>
    have e : B0 = ⟨(cells 2 (M 0) 2).toArray, 29, 2, false⟩ := (Option.some.inj (Option.some.inj hB)).symm
    subst e
    exact ⟨⟨(cells 2 (M 0) 2).toArray, 29, 2, false⟩, by kernel_rfl, rfl, fun j u0 hu => ⟨u0, hu, .clos (cells_cl 2 u0 (List.mem_of_getElem? (by simpa using hu)))⟩⟩
  | 1, hB =>
    have e : B0 = ⟨(cells 2 (M 1) 2).toArray, 29, 2, false⟩ := (Option.some.inj (Option.some.inj hB)).symm
    subst e
    exact ⟨⟨(cells 2 (M 1) 2).toArray, 29, 2, false⟩, by kernel_rfl, rfl, fun j u0 hu => ⟨u0, hu, .clos (cells_cl 2 u0 (List.mem_of_getElem? (by simpa using hu)))⟩⟩
  | 2, hB =>
    have e : B0 = ⟨(oCells 2 idN 2).toArray, 26, 1, false⟩ := (Option.some.inj (Option.some.inj hB)).symm
    subst e
    refine ⟨⟨(oCells 2 (posR 1 2) 2).toArray, 26, 1, false⟩, by kernel_rfl, rfl, fun j u0 hu => ?_⟩
    match j, hu with
    | 0, hu =>
      have e : u0 = .slice (some ⟨0, 0, none⟩) 2 2 := (Option.some.inj hu).symm
      subst e
      exact ⟨.slice (some ⟨sgN 1 2 0, 0, none⟩) 2 2, by kernel_rfl, .slice 0 0 2 2 (by decide)⟩
    | 1, hu =>
      have e : u0 = .slice (some ⟨1, 0, none⟩) 2 2 := (Option.some.inj hu).symm
      subst e
      exact ⟨.slice (some ⟨sgN 1 2 1, 0, none⟩) 2 2, by kernel_rfl, .slice 1 0 2 2 (by decide)⟩
    | j + 2, hu => exact absurd hu (by intro h; cases h)
  | i + 3, hB => exact absurd hB (by intro h; cases h)
theorem hs3_0 (M : Nat → Nat → P2) : ∀ (i : Nat) (B0 : ABlk), (hN3 M)[i]? = some (some B0) → ∃ B, (froze (lawH #[] 3 M))[sgN 0 3 i]? = some (some B) ∧ B.cells.size = B0.cells.size ∧ ∀ (j : Nat) (u0 : Value), B0.cells[j]? = some u0 → ∃ u, B.cells[j]? = some u ∧ BackV 4 (sgN 0 3) u0 u := by
  intro i B0 hB
  match i, hB with
  | 0, hB =>
    have e : B0 = ⟨(cells 3 (M 0) 3).toArray, 29, 2, false⟩ := (Option.some.inj (Option.some.inj hB)).symm
    subst e
    exact ⟨⟨(cells 3 (M 0) 3).toArray, 29, 2, false⟩, by kernel_rfl, rfl, fun j u0 hu => ⟨u0, hu, .clos (cells_cl 3 u0 (List.mem_of_getElem? (by simpa using hu)))⟩⟩
  | 1, hB =>
    have e : B0 = ⟨(cells 3 (M 1) 3).toArray, 29, 2, false⟩ := (Option.some.inj (Option.some.inj hB)).symm
    subst e
    exact ⟨⟨(cells 3 (M 1) 3).toArray, 29, 2, false⟩, by kernel_rfl, rfl, fun j u0 hu => ⟨u0, hu, .clos (cells_cl 3 u0 (List.mem_of_getElem? (by simpa using hu)))⟩⟩
  | 2, hB =>
    have e : B0 = ⟨(cells 3 (M 2) 3).toArray, 29, 2, false⟩ := (Option.some.inj (Option.some.inj hB)).symm
    subst e
    exact ⟨⟨(cells 3 (M 2) 3).toArray, 29, 2, false⟩, by kernel_rfl, rfl, fun j u0 hu => ⟨u0, hu, .clos (cells_cl 3 u0 (List.mem_of_getElem? (by simpa using hu)))⟩⟩
  | 3, hB =>
    have e : B0 = ⟨(oCells 3 idN 3).toArray, 26, 1, false⟩ := (Option.some.inj (Option.some.inj hB)).symm
    subst e
    refine ⟨⟨(oCells 3 (posR 0 3) 3).toArray, 26, 1, false⟩, by kernel_rfl, rfl, fun j u0 hu => ?_⟩
    match j, hu with
    | 0, hu =>
      have e : u0 = .slice (some ⟨0, 0, none⟩) 3 3 := (Option.some.inj hu).symm
      subst e
      exact ⟨.slice (some ⟨sgN 0 3 0, 0, none⟩) 3 3, by kernel_rfl, .slice 0 0 3 3 (by decide)⟩
    | 1, hu =>
      have e : u0 = .slice (some ⟨1, 0, none⟩) 3 3 := (Option.some.inj hu).symm
      subst e
      exact ⟨.slice (some ⟨sgN 0 3 1, 0, none⟩) 3 3, by kernel_rfl, .slice 1 0 3 3 (by decide)⟩
    | 2, hu =>
      have e : u0 = .slice (some ⟨2, 0, none⟩) 3 3 := (Option.some.inj hu).symm
      subst e
      exact ⟨.slice (some ⟨sgN 0 3 2, 0, none⟩) 3 3, by kernel_rfl, .slice 2 0 3 3 (by decide)⟩
    | j + 3, hu => exact absurd hu (by intro h; cases h)
  | i + 4, hB => exact absurd hB (by intro h; cases h)
theorem hs3_1 (ob : Option ABlk) (M : Nat → Nat → P2) : ∀ (i : Nat) (B0 : ABlk), (hN3 M)[i]? = some (some B0) → ∃ B, (froze (lawH #[ob] 3 M))[sgN 1 3 i]? = some (some B) ∧ B.cells.size = B0.cells.size ∧ ∀ (j : Nat) (u0 : Value), B0.cells[j]? = some u0 → ∃ u, B.cells[j]? = some u ∧ BackV 4 (sgN 1 3) u0 u := by
  intro i B0 hB
  match i, hB with
  | 0, hB =>
    have e : B0 = ⟨(cells 3 (M 0) 3).toArray, 29, 2, false⟩ := (Option.some.inj (Option.some.inj hB)).symm
    subst e
    exact ⟨⟨(cells 3 (M 0) 3).toArray, 29, 2, false⟩, by kernel_rfl, rfl, fun j u0 hu => ⟨u0, hu, .clos (cells_cl 3 u0 (List.mem_of_getElem? (by simpa using hu)))⟩⟩
  | 1, hB =>
    have e : B0 = ⟨(cells 3 (M 1) 3).toArray, 29, 2, false⟩ := (Option.some.inj (Option.some.inj hB)).symm
    subst e
    exact ⟨⟨(cells 3 (M 1) 3).toArray, 29, 2, false⟩, by kernel_rfl, rfl, fun j u0 hu => ⟨u0, hu, .clos (cells_cl 3 u0 (List.mem_of_getElem? (by simpa using hu)))⟩⟩
  | 2, hB =>
    have e : B0 = ⟨(cells 3 (M 2) 3).toArray, 29, 2, false⟩ := (Option.some.inj (Option.some.inj hB)).symm
    subst e
    exact ⟨⟨(cells 3 (M 2) 3).toArray, 29, 2, false⟩, by kernel_rfl, rfl, fun j u0 hu => ⟨u0, hu, .clos (cells_cl 3 u0 (List.mem_of_getElem? (by simpa using hu)))⟩⟩
  | 3, hB =>
    have e : B0 = ⟨(oCells 3 idN 3).toArray, 26, 1, false⟩ := (Option.some.inj (Option.some.inj hB)).symm
    subst e
    refine ⟨⟨(oCells 3 (posR 1 3) 3).toArray, 26, 1, false⟩, by kernel_rfl, rfl, fun j u0 hu => ?_⟩
    match j, hu with
    | 0, hu =>
      have e : u0 = .slice (some ⟨0, 0, none⟩) 3 3 := (Option.some.inj hu).symm
      subst e
      exact ⟨.slice (some ⟨sgN 1 3 0, 0, none⟩) 3 3, by kernel_rfl, .slice 0 0 3 3 (by decide)⟩
    | 1, hu =>
      have e : u0 = .slice (some ⟨1, 0, none⟩) 3 3 := (Option.some.inj hu).symm
      subst e
      exact ⟨.slice (some ⟨sgN 1 3 1, 0, none⟩) 3 3, by kernel_rfl, .slice 1 0 3 3 (by decide)⟩
    | 2, hu =>
      have e : u0 = .slice (some ⟨2, 0, none⟩) 3 3 := (Option.some.inj hu).symm
      subst e
      exact ⟨.slice (some ⟨sgN 1 3 2, 0, none⟩) 3 3, by kernel_rfl, .slice 2 0 3 3 (by decide)⟩
    | j + 3, hu => exact absurd hu (by intro h; cases h)
  | i + 4, hB => exact absurd hB (by intro h; cases h)
theorem hs4_0 (M : Nat → Nat → P2) : ∀ (i : Nat) (B0 : ABlk), (hN4 M)[i]? = some (some B0) → ∃ B, (froze (lawH #[] 4 M))[sgN 0 4 i]? = some (some B) ∧ B.cells.size = B0.cells.size ∧ ∀ (j : Nat) (u0 : Value), B0.cells[j]? = some u0 → ∃ u, B.cells[j]? = some u ∧ BackV 5 (sgN 0 4) u0 u := by
  intro i B0 hB
  match i, hB with
  | 0, hB =>
    have e : B0 = ⟨(cells 4 (M 0) 4).toArray, 29, 2, false⟩ := (Option.some.inj (Option.some.inj hB)).symm
    subst e
    exact ⟨⟨(cells 4 (M 0) 4).toArray, 29, 2, false⟩, by kernel_rfl, rfl, fun j u0 hu => ⟨u0, hu, .clos (cells_cl 4 u0 (List.mem_of_getElem? (by simpa using hu)))⟩⟩
  | 1, hB =>
    have e : B0 = ⟨(cells 4 (M 1) 4).toArray, 29, 2, false⟩ := (Option.some.inj (Option.some.inj hB)).symm
    subst e
    exact ⟨⟨(cells 4 (M 1) 4).toArray, 29, 2, false⟩, by kernel_rfl, rfl, fun j u0 hu => ⟨u0, hu, .clos (cells_cl 4 u0 (List.mem_of_getElem? (by simpa using hu)))⟩⟩
  | 2, hB =>
    have e : B0 = ⟨(cells 4 (M 2) 4).toArray, 29, 2, false⟩ := (Option.some.inj (Option.some.inj hB)).symm
    subst e
    exact ⟨⟨(cells 4 (M 2) 4).toArray, 29, 2, false⟩, by kernel_rfl, rfl, fun j u0 hu => ⟨u0, hu, .clos (cells_cl 4 u0 (List.mem_of_getElem? (by simpa using hu)))⟩⟩
  | 3, hB =>
    have e : B0 = ⟨(cells 4 (M 3) 4).toArray, 29, 2, false⟩ := (Option.some.inj (Option.some.inj hB)).symm
    subst e
    exact ⟨⟨(cells 4 (M 3) 4).toArray, 29, 2, false⟩, by kernel_rfl, rfl, fun j u0 hu => ⟨u0, hu, .clos (cells_cl 4 u0 (List.mem_of_getElem? (by simpa using hu)))⟩⟩
  | 4, hB =>
    have e : B0 = ⟨(oCells 4 idN 4).toArray, 26, 1, false⟩ := (Option.some.inj (Option.some.inj hB)).symm
    subst e
    refine ⟨⟨(oCells 4 (posR 0 4) 4).toArray, 26, 1, false⟩, by kernel_rfl, rfl, fun j u0 hu => ?_⟩
    match j, hu with
    | 0, hu =>
      have e : u0 = .slice (some ⟨0, 0, none⟩) 4 4 := (Option.some.inj hu).symm
      subst e
      exact ⟨.slice (some ⟨sgN 0 4 0, 0, none⟩) 4 4, by kernel_rfl, .slice 0 0 4 4 (by decide)⟩
    | 1, hu =>
      have e : u0 = .slice (some ⟨1, 0, none⟩) 4 4 := (Option.some.inj hu).symm
      subst e
      exact ⟨.slice (some ⟨sgN 0 4 1, 0, none⟩) 4 4, by kernel_rfl, .slice 1 0 4 4 (by decide)⟩
    | 2, hu =>
      have e : u0 = .slice (some ⟨2, 0, none⟩) 4 4 := (Option.some.inj hu).symm
      subst e
      exact ⟨.slice (some ⟨sgN 0 4 2, 0, none⟩) 4 4, by kernel_rfl, .slice 2 0 4 4 (by decide)⟩
    | 3, hu =>
      have e : u0 = .slice (some ⟨3, 0, none⟩) 4 4 := (Option.some.inj hu).symm
      subst e
      exact ⟨.slice (some ⟨sgN 0 4 3, 0, none⟩) 4 4, by kernel_rfl, .slice 3 0 4 4 (by decide)⟩
    | j + 4, hu => exact absurd hu (by intro h; cases h)
  | i + 5, hB => exact absurd hB (by intro h; cases h)
theorem hs4_1 (ob : Option ABlk) (M : Nat → Nat → P2) : ∀ (i : Nat) (B0 : ABlk), (hN4 M)[i]? = some (some B0) → ∃ B, (froze (lawH #[ob] 4 M))[sgN 1 4 i]? = some (some B) ∧ B.cells.size = B0.cells.size ∧ ∀ (j : Nat) (u0 : Value), B0.cells[j]? = some u0 → ∃ u, B.cells[j]? = some u ∧ BackV 5 (sgN 1 4) u0 u := by
  intro i B0 hB
  match i, hB with
  | 0, hB =>
    have e : B0 = ⟨(cells 4 (M 0) 4).toArray, 29, 2, false⟩ := (Option.some.inj (Option.some.inj hB)).symm
    subst e
    exact ⟨⟨(cells 4 (M 0) 4).toArray, 29, 2, false⟩, by kernel_rfl, rfl, fun j u0 hu => ⟨u0, hu, .clos (cells_cl 4 u0 (List.mem_of_getElem? (by simpa using hu)))⟩⟩
  | 1, hB =>
    have e : B0 = ⟨(cells 4 (M 1) 4).toArray, 29, 2, false⟩ := (Option.some.inj (Option.some.inj hB)).symm
    subst e
    exact ⟨⟨(cells 4 (M 1) 4).toArray, 29, 2, false⟩, by kernel_rfl, rfl, fun j u0 hu => ⟨u0, hu, .clos (cells_cl 4 u0 (List.mem_of_getElem? (by simpa using hu)))⟩⟩
  | 2, hB =>
    have e : B0 = ⟨(cells 4 (M 2) 4).toArray, 29, 2, false⟩ := (Option.some.inj (Option.some.inj hB)).symm
    subst e
    exact ⟨⟨(cells 4 (M 2) 4).toArray, 29, 2, false⟩, by kernel_rfl, rfl, fun j u0 hu => ⟨u0, hu, .clos (cells_cl 4 u0 (List.mem_of_getElem? (by simpa using hu)))⟩⟩
  | 3, hB =>
    have e : B0 = ⟨(cells 4 (M 3) 4).toArray, 29, 2, false⟩ := (Option.some.inj (Option.some.inj hB)).symm
    subst e
    exact ⟨⟨(cells 4 (M 3) 4).toArray, 29, 2, false⟩, by kernel_rfl, rfl, fun j u0 hu => ⟨u0, hu, .clos (cells_cl 4 u0 (List.mem_of_getElem? (by simpa using hu)))⟩⟩
  | 4, hB =>
    have e : B0 = ⟨(oCells 4 idN 4).toArray, 26, 1, false⟩ := (Option.some.inj (Option.some.inj hB)).symm
    subst e
    refine ⟨⟨(oCells 4 (posR 1 4) 4).toArray, 26, 1, false⟩, by kernel_rfl, rfl, fun j u0 hu => ?_⟩
    match j, hu with
    | 0, hu =>
      have e : u0 = .slice (some ⟨0, 0, none⟩) 4 4 := (Option.some.inj hu).symm
      subst e
      exact ⟨.slice (some ⟨sgN 1 4 0, 0, none⟩) 4 4, by kernel_rfl, .slice 0 0 4 4 (by decide)⟩
    | 1, hu =>
      have e : u0 = .slice (some ⟨1, 0, none⟩) 4 4 := (Option.some.inj hu).symm
      subst e
      exact ⟨.slice (some ⟨sgN 1 4 1, 0, none⟩) 4 4, by kernel_rfl, .slice 1 0 4 4 (by decide)⟩
    | 2, hu =>
      have e : u0 = .slice (some ⟨2, 0, none⟩) 4 4 := (Option.some.inj hu).symm
      subst e
      exact ⟨.slice (some ⟨sgN 1 4 2, 0, none⟩) 4 4, by kernel_rfl, .slice 2 0 4 4 (by decide)⟩
    | 3, hu =>
      have e : u0 = .slice (some ⟨3, 0, none⟩) 4 4 := (Option.some.inj hu).symm
      subst e
      exact ⟨.slice (some ⟨sgN 1 4 3, 0, none⟩) 4 4, by kernel_rfl, .slice 3 0 4 4 (by decide)⟩
    | j + 4, hu => exact absurd hu (by intro h; cases h)
  | i + 5, hB => exact absurd hB (by intro h; cases h)

theorem hN_frozen {l : List ABlk} (h : ∀ B ∈ l, B.own = false) : AllFrozen (l.map some).toArray := by
  intro b B hB
  have h3 : (l.map some)[b]? = some (some B) := by simpa using hB
  obtain ⟨B', h4, h5⟩ := List.mem_map.1 (List.mem_of_getElem? h3)
  injection h5 with h5
  exact h5 ▸ h B' h4
theorem nr1_0 {M : Nat → Nat → P2} {x : Nat} (hx : ∃ bs, Runs Try.prog 14 #[.slice (some ⟨1, 0, none⟩) 1 1] (hN1 M) (.float .f64 x) (hN1 M ++ bs)) : Runs Try.prog 14 #[.slice (some ⟨posO 0 1, 0, none⟩) 1 1] (froze (lawH #[] 1 M)) (.float .f64 x) (froze (lawH #[] 1 M)) := by
  obtain ⟨bs, hx⟩ := hx
  have hs : (hN1 M).size = 2 := rfl
  refine read_rows (sgN 0 1) hx ?_ rfl (by rw [hs]; decide) ?_ ?_ (by rw [hs]; exact hs1_0 M)
  · intro b B hB
    match b, hB with
    | 0, hB => exact (Option.some.inj (Option.some.inj hB)) ▸ rfl
    | 1, hB => exact (Option.some.inj (Option.some.inj hB)) ▸ rfl
    | b + 2, hB => exact absurd hB (by intro h; cases h)
  · intro i hi
    rw [hs] at hi
    have hz : (froze (lawH #[] 1 M)).size = 4 := by kernel_rfl
    rw [hz]
    match i, hi with
    | 0, _ => exact (by decide : sgN 0 1 0 < 4)
    | 1, _ => exact (by decide : sgN 0 1 1 < 4)
    | i + 2, hi => omega
  · intro i hi
    rw [hs] at hi
    match i, hi with
    | 0, _ => exact ⟨_, rfl⟩
    | 1, _ => exact ⟨_, rfl⟩
    | i + 2, hi => omega
theorem nr1_1 (ob : Option ABlk) {M : Nat → Nat → P2} {x : Nat} (hx : ∃ bs, Runs Try.prog 14 #[.slice (some ⟨1, 0, none⟩) 1 1] (hN1 M) (.float .f64 x) (hN1 M ++ bs)) : Runs Try.prog 14 #[.slice (some ⟨posO 1 1, 0, none⟩) 1 1] (froze (lawH #[ob] 1 M)) (.float .f64 x) (froze (lawH #[ob] 1 M)) := by
  obtain ⟨bs, hx⟩ := hx
  have hs : (hN1 M).size = 2 := rfl
  refine read_rows (sgN 1 1) hx ?_ rfl (by rw [hs]; decide) ?_ ?_ (by rw [hs]; exact hs1_1 ob M)
  · intro b B hB
    match b, hB with
    | 0, hB => exact (Option.some.inj (Option.some.inj hB)) ▸ rfl
    | 1, hB => exact (Option.some.inj (Option.some.inj hB)) ▸ rfl
    | b + 2, hB => exact absurd hB (by intro h; cases h)
  · intro i hi
    rw [hs] at hi
    have hz : (froze (lawH #[ob] 1 M)).size = 5 := by kernel_rfl
    rw [hz]
    match i, hi with
    | 0, _ => exact (by decide : sgN 1 1 0 < 5)
    | 1, _ => exact (by decide : sgN 1 1 1 < 5)
    | i + 2, hi => omega
  · intro i hi
    rw [hs] at hi
    match i, hi with
    | 0, _ => exact ⟨_, rfl⟩
    | 1, _ => exact ⟨_, rfl⟩
    | i + 2, hi => omega
theorem nr2_0 {M : Nat → Nat → P2} {x : Nat} (hx : ∃ bs, Runs Try.prog 14 #[.slice (some ⟨2, 0, none⟩) 2 2] (hN2 M) (.float .f64 x) (hN2 M ++ bs)) : Runs Try.prog 14 #[.slice (some ⟨posO 0 2, 0, none⟩) 2 2] (froze (lawH #[] 2 M)) (.float .f64 x) (froze (lawH #[] 2 M)) := by
  obtain ⟨bs, hx⟩ := hx
  have hs : (hN2 M).size = 3 := rfl
  refine read_rows (sgN 0 2) hx ?_ rfl (by rw [hs]; decide) ?_ ?_ (by rw [hs]; exact hs2_0 M)
  · intro b B hB
    match b, hB with
    | 0, hB => exact (Option.some.inj (Option.some.inj hB)) ▸ rfl
    | 1, hB => exact (Option.some.inj (Option.some.inj hB)) ▸ rfl
    | 2, hB => exact (Option.some.inj (Option.some.inj hB)) ▸ rfl
    | b + 3, hB => exact absurd hB (by intro h; cases h)
  · intro i hi
    rw [hs] at hi
    have hz : (froze (lawH #[] 2 M)).size = 12 := by kernel_rfl
    rw [hz]
    match i, hi with
    | 0, _ => exact (by decide : sgN 0 2 0 < 12)
    | 1, _ => exact (by decide : sgN 0 2 1 < 12)
    | 2, _ => exact (by decide : sgN 0 2 2 < 12)
    | i + 3, hi => omega
  · intro i hi
    rw [hs] at hi
    match i, hi with
    | 0, _ => exact ⟨_, rfl⟩
    | 1, _ => exact ⟨_, rfl⟩
    | 2, _ => exact ⟨_, rfl⟩
    | i + 3, hi => omega
theorem nr2_1 (ob : Option ABlk) {M : Nat → Nat → P2} {x : Nat} (hx : ∃ bs, Runs Try.prog 14 #[.slice (some ⟨2, 0, none⟩) 2 2] (hN2 M) (.float .f64 x) (hN2 M ++ bs)) : Runs Try.prog 14 #[.slice (some ⟨posO 1 2, 0, none⟩) 2 2] (froze (lawH #[ob] 2 M)) (.float .f64 x) (froze (lawH #[ob] 2 M)) := by
  obtain ⟨bs, hx⟩ := hx
  have hs : (hN2 M).size = 3 := rfl
  refine read_rows (sgN 1 2) hx ?_ rfl (by rw [hs]; decide) ?_ ?_ (by rw [hs]; exact hs2_1 ob M)
  · intro b B hB
    match b, hB with
    | 0, hB => exact (Option.some.inj (Option.some.inj hB)) ▸ rfl
    | 1, hB => exact (Option.some.inj (Option.some.inj hB)) ▸ rfl
    | 2, hB => exact (Option.some.inj (Option.some.inj hB)) ▸ rfl
    | b + 3, hB => exact absurd hB (by intro h; cases h)
  · intro i hi
    rw [hs] at hi
    have hz : (froze (lawH #[ob] 2 M)).size = 13 := by kernel_rfl
    rw [hz]
    match i, hi with
    | 0, _ => exact (by decide : sgN 1 2 0 < 13)
    | 1, _ => exact (by decide : sgN 1 2 1 < 13)
    | 2, _ => exact (by decide : sgN 1 2 2 < 13)
    | i + 3, hi => omega
  · intro i hi
    rw [hs] at hi
    match i, hi with
    | 0, _ => exact ⟨_, rfl⟩
    | 1, _ => exact ⟨_, rfl⟩
    | 2, _ => exact ⟨_, rfl⟩
    | i + 3, hi => omega
theorem nr3_0 {M : Nat → Nat → P2} {x : Nat} (hx : ∃ bs, Runs Try.prog 14 #[.slice (some ⟨3, 0, none⟩) 3 3] (hN3 M) (.float .f64 x) (hN3 M ++ bs)) : Runs Try.prog 14 #[.slice (some ⟨posO 0 3, 0, none⟩) 3 3] (froze (lawH #[] 3 M)) (.float .f64 x) (froze (lawH #[] 3 M)) := by
  obtain ⟨bs, hx⟩ := hx
  have hs : (hN3 M).size = 4 := rfl
  refine read_rows (sgN 0 3) hx ?_ rfl (by rw [hs]; decide) ?_ ?_ (by rw [hs]; exact hs3_0 M)
  · intro b B hB
    match b, hB with
    | 0, hB => exact (Option.some.inj (Option.some.inj hB)) ▸ rfl
    | 1, hB => exact (Option.some.inj (Option.some.inj hB)) ▸ rfl
    | 2, hB => exact (Option.some.inj (Option.some.inj hB)) ▸ rfl
    | 3, hB => exact (Option.some.inj (Option.some.inj hB)) ▸ rfl
    | b + 4, hB => exact absurd hB (by intro h; cases h)
  · intro i hi
    rw [hs] at hi
    have hz : (froze (lawH #[] 3 M)).size = 24 := by kernel_rfl
    rw [hz]
    match i, hi with
    | 0, _ => exact (by decide : sgN 0 3 0 < 24)
    | 1, _ => exact (by decide : sgN 0 3 1 < 24)
    | 2, _ => exact (by decide : sgN 0 3 2 < 24)
    | 3, _ => exact (by decide : sgN 0 3 3 < 24)
    | i + 4, hi => omega
  · intro i hi
    rw [hs] at hi
    match i, hi with
    | 0, _ => exact ⟨_, rfl⟩
    | 1, _ => exact ⟨_, rfl⟩
    | 2, _ => exact ⟨_, rfl⟩
    | 3, _ => exact ⟨_, rfl⟩
    | i + 4, hi => omega
theorem nr3_1 (ob : Option ABlk) {M : Nat → Nat → P2} {x : Nat} (hx : ∃ bs, Runs Try.prog 14 #[.slice (some ⟨3, 0, none⟩) 3 3] (hN3 M) (.float .f64 x) (hN3 M ++ bs)) : Runs Try.prog 14 #[.slice (some ⟨posO 1 3, 0, none⟩) 3 3] (froze (lawH #[ob] 3 M)) (.float .f64 x) (froze (lawH #[ob] 3 M)) := by
  obtain ⟨bs, hx⟩ := hx
  have hs : (hN3 M).size = 4 := rfl
  refine read_rows (sgN 1 3) hx ?_ rfl (by rw [hs]; decide) ?_ ?_ (by rw [hs]; exact hs3_1 ob M)
  · intro b B hB
    match b, hB with
    | 0, hB => exact (Option.some.inj (Option.some.inj hB)) ▸ rfl
    | 1, hB => exact (Option.some.inj (Option.some.inj hB)) ▸ rfl
    | 2, hB => exact (Option.some.inj (Option.some.inj hB)) ▸ rfl
    | 3, hB => exact (Option.some.inj (Option.some.inj hB)) ▸ rfl
    | b + 4, hB => exact absurd hB (by intro h; cases h)
  · intro i hi
    rw [hs] at hi
    have hz : (froze (lawH #[ob] 3 M)).size = 25 := by kernel_rfl
    rw [hz]
    match i, hi with
    | 0, _ => exact (by decide : sgN 1 3 0 < 25)
    | 1, _ => exact (by decide : sgN 1 3 1 < 25)
    | 2, _ => exact (by decide : sgN 1 3 2 < 25)
    | 3, _ => exact (by decide : sgN 1 3 3 < 25)
    | i + 4, hi => omega
  · intro i hi
    rw [hs] at hi
    match i, hi with
    | 0, _ => exact ⟨_, rfl⟩
    | 1, _ => exact ⟨_, rfl⟩
    | 2, _ => exact ⟨_, rfl⟩
    | 3, _ => exact ⟨_, rfl⟩
    | i + 4, hi => omega
theorem nr4_0 {M : Nat → Nat → P2} {x : Nat} (hx : ∃ bs, Runs Try.prog 14 #[.slice (some ⟨4, 0, none⟩) 4 4] (hN4 M) (.float .f64 x) (hN4 M ++ bs)) : Runs Try.prog 14 #[.slice (some ⟨posO 0 4, 0, none⟩) 4 4] (froze (lawH #[] 4 M)) (.float .f64 x) (froze (lawH #[] 4 M)) := by
  obtain ⟨bs, hx⟩ := hx
  have hs : (hN4 M).size = 5 := rfl
  refine read_rows (sgN 0 4) hx ?_ rfl (by rw [hs]; decide) ?_ ?_ (by rw [hs]; exact hs4_0 M)
  · intro b B hB
    match b, hB with
    | 0, hB => exact (Option.some.inj (Option.some.inj hB)) ▸ rfl
    | 1, hB => exact (Option.some.inj (Option.some.inj hB)) ▸ rfl
    | 2, hB => exact (Option.some.inj (Option.some.inj hB)) ▸ rfl
    | 3, hB => exact (Option.some.inj (Option.some.inj hB)) ▸ rfl
    | 4, hB => exact (Option.some.inj (Option.some.inj hB)) ▸ rfl
    | b + 5, hB => exact absurd hB (by intro h; cases h)
  · intro i hi
    rw [hs] at hi
    have hz : (froze (lawH #[] 4 M)).size = 40 := by kernel_rfl
    rw [hz]
    match i, hi with
    | 0, _ => exact (by decide : sgN 0 4 0 < 40)
    | 1, _ => exact (by decide : sgN 0 4 1 < 40)
    | 2, _ => exact (by decide : sgN 0 4 2 < 40)
    | 3, _ => exact (by decide : sgN 0 4 3 < 40)
    | 4, _ => exact (by decide : sgN 0 4 4 < 40)
    | i + 5, hi => omega
  · intro i hi
    rw [hs] at hi
    match i, hi with
    | 0, _ => exact ⟨_, rfl⟩
    | 1, _ => exact ⟨_, rfl⟩
    | 2, _ => exact ⟨_, rfl⟩
    | 3, _ => exact ⟨_, rfl⟩
    | 4, _ => exact ⟨_, rfl⟩
    | i + 5, hi => omega
theorem nr4_1 (ob : Option ABlk) {M : Nat → Nat → P2} {x : Nat} (hx : ∃ bs, Runs Try.prog 14 #[.slice (some ⟨4, 0, none⟩) 4 4] (hN4 M) (.float .f64 x) (hN4 M ++ bs)) : Runs Try.prog 14 #[.slice (some ⟨posO 1 4, 0, none⟩) 4 4] (froze (lawH #[ob] 4 M)) (.float .f64 x) (froze (lawH #[ob] 4 M)) := by
  obtain ⟨bs, hx⟩ := hx
  have hs : (hN4 M).size = 5 := rfl
  refine read_rows (sgN 1 4) hx ?_ rfl (by rw [hs]; decide) ?_ ?_ (by rw [hs]; exact hs4_1 ob M)
  · intro b B hB
    match b, hB with
    | 0, hB => exact (Option.some.inj (Option.some.inj hB)) ▸ rfl
    | 1, hB => exact (Option.some.inj (Option.some.inj hB)) ▸ rfl
    | 2, hB => exact (Option.some.inj (Option.some.inj hB)) ▸ rfl
    | 3, hB => exact (Option.some.inj (Option.some.inj hB)) ▸ rfl
    | 4, hB => exact (Option.some.inj (Option.some.inj hB)) ▸ rfl
    | b + 5, hB => exact absurd hB (by intro h; cases h)
  · intro i hi
    rw [hs] at hi
    have hz : (froze (lawH #[ob] 4 M)).size = 41 := by kernel_rfl
    rw [hz]
    match i, hi with
    | 0, _ => exact (by decide : sgN 1 4 0 < 41)
    | 1, _ => exact (by decide : sgN 1 4 1 < 41)
    | 2, _ => exact (by decide : sgN 1 4 2 < 41)
    | 3, _ => exact (by decide : sgN 1 4 3 < 41)
    | 4, _ => exact (by decide : sgN 1 4 4 < 41)
    | i + 5, hi => omega
  · intro i hi
    rw [hs] at hi
    match i, hi with
    | 0, _ => exact ⟨_, rfl⟩
    | 1, _ => exact ⟨_, rfl⟩
    | 2, _ => exact ⟨_, rfl⟩
    | 3, _ => exact ⟨_, rfl⟩
    | 4, _ => exact ⟨_, rfl⟩
    | i + 5, hi => omega

/-! sums of whole numbers, one up each: no less, and a little more at most -/
structure SB (N : Int) (j : Nat) (s : Nat) : Prop where
  fi : Fi s
  lo : N * un ≤ kv s
  hi : kv s * pw 16 ≤ (N * pw 16 + j) * un
theorem SB.step {N m : Int} {j s e : Nat} (h : SB N j s) (he : Fi e) (hm : kv e = m * un) (hN : (N + m).natAbs ≤ 100000) (hj : j ≤ 100) : SB (N + m) (j + 1) (up (fop .add .f64 s e)) := by
  have hp := pwi_pos 16
  have p16 : ((pw 16 : Nat) : Int) = 65536 := rfl
  have hu : (0 : Int) < un := by have := un_pos; omega
  obtain ⟨a, a1, a2, a3⟩ := rep_int (N := (N + m) * 65536 + j) (e := 16) (by omega) (by decide)
  obtain ⟨b, b1, b2, b3⟩ := rep_int (N := (N + m) * 65536 + j + 1) (e := 16) (by omega) (by decide)
  have hab : a < b := by
    have h1 : rk a * pw 16 < rk b * pw 16 := by
      rw [a3, b3]
      exact Int.mul_lt_mul_of_pos_right (by omega) hu
    have h2 : rk a < rk b := Int.lt_of_mul_lt_mul_right h1 (Int.le_of_lt hp)
    by_cases c : a < b
    · exact c
    · have := rk_le (show b ≤ a by omega)
      omega
  have hr := add_rd h.fi he
  have hle : ix (fop .add .f64 s e) ≤ a := by
    refine hr.2.le (by decide) (by omega) (by omega) ?_
    rw [Int.natCast_one, Int.mul_one]
    have h1 : (kv s + kv e) * pw 16 ≤ rk a * pw 16 := by
      have h2 := h.hi
      rw [p16] at h2 a3 ⊢
      rw [a3, Int.add_mul, hm]
      have e1 : (m * un) * 65536 = m * 65536 * un := by rw [Int.mul_right_comm]
      have e2 : ((N + m) * 65536 + j) * un = (N * 65536 + j) * un + m * 65536 * un := by rw [← Int.add_mul]; congr 1; omega
      rw [e1, e2]
      omega
    exact Int.le_of_mul_le_mul_right h1 hp
  obtain ⟨u1, u2⟩ := up_ix hr.nn
  rw [if_neg (by omega)] at u2
  have hn := hr.nn.2
  have hk : kv (up (fop .add .f64 s e)) = rk (ix (fop .add .f64 s e) + 1) := by unfold kv; rw [u2]
  refine ⟨⟨u1.1, by omega, by omega⟩, ?_, ?_⟩
  · have g := hr.2.up (by decide) (by omega)
    rw [Int.natCast_one, Int.mul_one, ← hk, hm] at g
    have := h.lo
    rw [Int.add_mul]
    omega
  · have g : kv (up (fop .add .f64 s e)) ≤ rk b := by rw [hk]; exact rk_le (by omega)
    have := Int.mul_le_mul_of_nonneg_right g (Int.le_of_lt hp)
    rw [b3] at this
    rw [p16] at this ⊢
    have e3 : (N + m) * 65536 + ((j + 1 : Nat) : Int) = (N + m) * 65536 + j + 1 := by omega
    rw [e3]
    exact this
theorem SB.mono {N : Int} {j k s : Nat} (h : SB N j s) (hk : j ≤ k) : SB N k s := ⟨h.fi, h.lo, Int.le_trans h.hi (Int.mul_le_mul_of_nonneg_right (by omega) (Int.natCast_nonneg _))⟩
theorem SB.F {N : Int} (h : N.natAbs ≤ 100000) : SB N 0 (F N) := by
  obtain ⟨h1, h2⟩ := F_fi (n := N) (by omega)
  exact ⟨h1, by omega, by rw [h2, Int.natCast_zero, Int.add_zero, Int.mul_right_comm]; exact Int.le_refl _⟩
/-- Row i, in whole numbers: its own end, and the others' sizes. -/
def sI (hi : Int) (z : Nat → Int) (i : Nat) : Nat → Int
  | 0 => hi
  | k + 1 => bif Nat.beq k i then sI hi z i k else sI hi z i k + z k
theorem sI_le {hi : Int} {z : Nat → Int} {i : Nat} (hh : hi.natAbs ≤ 28) (hz : ∀ k, (z k).natAbs ≤ 28) : ∀ k, (sI hi z i k).natAbs ≤ 28 * (k + 1)
  | 0 => by show hi.natAbs ≤ _; omega
  | k + 1 => by
    have ih := sI_le (i := i) hh hz k
    have := hz k
    unfold sI
    cases Nat.beq k i with
    | true => rw [cond_true]; omega
    | false => rw [cond_false]; omega
theorem sAt_sb {M : Nat → P2} {e : Nat → Nat} {i : Nat} {hi : Int} {z : Nat → Int} (hM : (M i).2 = F hi) (hh : hi.natAbs ≤ 28) (hz : ∀ k, (z k).natAbs ≤ 28) (he : ∀ k, Fi (e k) ∧ kv (e k) = z k * un) :
    ∀ k, k ≤ 10 → SB (sI hi z i k) k (sAt M e i k)
  | 0, _ => by
    show SB hi 0 (M i).2
    rw [hM]
    exact SB.F (by omega)
  | k + 1, hk => by
    have ih := sAt_sb (i := i) hM hh hz he k (by omega)
    have b := sI_le (i := i) hh hz (k + 1)
    unfold sAt sI
    unfold sI at b
    cases hb : Nat.beq k i with
    | true => rw [cond_true, cond_true]; exact ih.mono (by omega)
    | false =>
      rw [hb, cond_false] at b
      rw [cond_false, cond_false]
      exact ih.step (he k).1 (he k).2 (by omega) (by omega)
theorem sAt_nn {M : Nat → P2} {e : Nat → Nat} {i : Nat} {hi : Int} {z : Nat → Int} (hM : (M i).2 = F hi) (hh : hi.natAbs ≤ 28) (hz : ∀ k, (z k).natAbs ≤ 28) (he : ∀ k, Fi (e k) ∧ kv (e k) = z k * un) (k : Nat) (hk : k ≤ 10) : NN (fop .add .f64 (sAt M e i k) (e k)) :=
  (add_rd (sAt_sb (i := i) hM hh hz he k hk).fi (he k).1).nn
/-- The greatest of whole numbers, as they come. -/
def gm (x y : Int) : Int := if y > x then y else x
def mI (S : Nat → Int) : Nat → Int
  | 0 => S 0
  | i + 1 => gm (mI S i) (S (i + 1))
theorem mx_sb {S : Nat → Int} {r : Nat → Nat} {j : Nat} : ∀ i, (∀ k, k ≤ i → SB (S k) j (r k)) → SB (mI S i) j (mxW r i)
  | 0, h => h 0 (Nat.le_refl _)
  | i + 1, h => by
    have ih := mx_sb i fun k hk => h k (by omega)
    have g := h (i + 1) (Nat.le_refl _)
    have hu : (0 : Int) < un := by have := un_pos; omega
    have p16 : ((pw 16 : Nat) : Int) = 65536 := rfl
    unfold mxW mI gm
    by_cases c : ix (mxW r i) < ix (r (i + 1))
    · rw [decide_eq_true c]
      show SB _ _ (r (i + 1))
      have hle : kv (mxW r i) ≤ kv (r (i + 1)) := rk_le (by omega)
      by_cases c2 : S (i + 1) > mI S i
      · rw [if_pos c2]; exact g
      · rw [if_neg c2]
        exact ⟨g.fi, Int.le_trans ih.lo hle, Int.le_trans g.hi (Int.mul_le_mul_of_nonneg_right (by rw [p16]; omega) (Int.le_of_lt hu))⟩
    · rw [decide_eq_false c]
      show SB _ _ (mxW r i)
      have hle : kv (r (i + 1)) ≤ kv (mxW r i) := rk_le (by omega)
      by_cases c2 : S (i + 1) > mI S i
      · rw [if_pos c2]
        exact ⟨ih.fi, Int.le_trans g.lo hle, Int.le_trans ih.hi (Int.mul_le_mul_of_nonneg_right (by rw [p16]; omega) (Int.le_of_lt hu))⟩
      · rw [if_neg c2]; exact ih
/-- A from-to's size, of whole numbers. -/
theorem mag_int {lo hi m : Int} (hl : lo.natAbs ≤ 64) (hh : hi.natAbs ≤ 64) (hm : m = max (lo.natAbs : Int) hi.natAbs) : ∃ e, Runs Try.prog 35 #[vI (F lo, F hi)] #[] (.float .f64 e) #[] ∧ Fi e ∧ kv e = m * un := by
  obtain ⟨fl, kl⟩ := F_fi (n := lo) (by omega)
  obtain ⟨fh, kh⟩ := F_fi (n := hi) (by omega)
  obtain ⟨e, r, ne, g1, g2, g3⟩ := mag_at fl.nn fh.nn
  have hl2 := fl.2
  have hh2 := fh.2
  have fe : Fi e := by
    refine ⟨ne.1, ?_, ?_⟩ <;> rcases g3 with g | g <;> rw [g] <;> omega
  have rn : ∀ i : Int, rk (i.natAbs : Int) = ((rk i).natAbs : Int) := by
    intro i
    rw [rk_abs, rk_nat]
  have a1 : rk ((ix (F lo)).natAbs : Int) = (lo.natAbs : Int) * un := by
    rw [rn]
    show ((kv (F lo)).natAbs : Int) = _
    rw [kl, Int.natAbs_mul, Int.natAbs_natCast, Int.natCast_mul]
  have a2 : rk ((ix (F hi)).natAbs : Int) = (hi.natAbs : Int) * un := by
    rw [rn]
    show ((kv (F hi)).natAbs : Int) = _
    rw [kh, Int.natAbs_mul, Int.natAbs_natCast, Int.natCast_mul]
  have b1 := rk_le g1
  have b2 := rk_le g2
  rw [a1] at b1
  rw [a2] at b2
  have hu : (0 : Int) < un := by have := un_pos; omega
  refine ⟨e, r, fe, ?_⟩
  show rk (ix e) = _
  rw [hm]
  by_cases c : (lo.natAbs : Int) ≤ hi.natAbs
  · rw [Int.max_eq_right c]
    rcases g3 with g | g
    · rw [g, a1] at b2 ⊢
      have := Int.mul_le_mul_of_nonneg_right c (Int.le_of_lt hu)
      omega
    · rw [g, a2]
  · rw [Int.max_eq_left (by omega)]
    rcases g3 with g | g
    · rw [g, a1]
    · rw [g, a2] at b1 ⊢
      have := Int.mul_le_mul_of_nonneg_right (show (hi.natAbs : Int) ≤ lo.natAbs by omega) (Int.le_of_lt hu)
      omega

end Go.Proofs.Ytdlinjijccnaeaa
