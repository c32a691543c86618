/- jac and the document tell the same of how fast two solutions part, of one to four rows. -/
import Derived.Test.YtdlinjijccnaeaaJacNormB
namespace Go.Proofs.Ytdlinjijccnaeaa
open Go
set_option linter.unusedVariables false
set_option linter.unusedSimpArgs false
set_option maxRecDepth 100000

/-! the memory that the law leaves, one row's first cell perhaps another -/
def rowBs2 (n : Nat) (R R' : Nat → P2) : Nat → Nat → List (Option ABlk)
  | 0, _ => []
  | m + 1, c => some ⟨#[fW (R c).1, fW (R c).2], 29, 2, true⟩ :: (bif Nat.beq m 0 then rBlk true n R' else none) :: rowBs2 n R R' m (c + 1)
def lawBs2 (h n : Nat) (M M' : Nat → Nat → P2) : Nat → Nat → List (Option ABlk)
  | 0, _ => []
  | m + 1, i => rowBs2 n (M i) (M' i) n 0 ++ (some ⟨#[.slice (some ⟨posR h n i, 0, none⟩) n n], 26, 1, true⟩ :: (bif Nat.beq m 0 then oBlk true n (posR h n) else none) :: lawBs2 h n M M' m (i + 1))
def lawH2 (H : AHeap) (n : Nat) (M M' : Nat → Nat → P2) (X : List (Option ABlk)) : AHeap := (H.toList ++ (lawBs2 H.size n M M' n 0 ++ X)).toArray
def xBlk (X : P2) : Option ABlk := some ⟨#[fW X.1, fW X.2], 29, 0, true⟩
def xL (t : Bool) (X : P2) : List (Option ABlk) := bif t then [xBlk X] else []
theorem ks1_0 (M M' : Nat → Nat → P2) (X : P2) (tx : Bool) : ∀ (i : Nat) (B0 : ABlk), (hN1 M')[i]? = some (some B0) → ∃ B, (froze (lawH2 #[] 1 M M' (xL tx X)))[sgN 0 1 i]? = some (some B) ∧ B.cells.size = B0.cells.size ∧ ∀ (j : Nat) (u0 : Value), B0.cells[j]? = some u0 → ∃ u, B.cells[j]? = some u ∧ BackV 2 (sgN 0 1) u0 u := by
  intro i B0 hB
  match i, hB with
  | 0, hB =>
    have e : B0 = ⟨(cells 1 (M' 0) 1).toArray, 29, 2, false⟩ := (Option.some.inj (Option.some.inj hB)).symm
    subst e
    exact ⟨⟨(cells 1 (M' 0) 1).toArray, 29, 2, false⟩, by cases tx <;> kernel_rfl, rfl, fun j u0 hu => ⟨u0, hu, .clos (cells_cl 1 u0 (List.mem_of_getElem? (by simpa using hu)))⟩⟩
  | 1, hB =>
    have e : B0 = ⟨(oCells 1 idN 1).toArray, 26, 1, false⟩ := (Option.some.inj (Option.some.inj hB)).symm
    subst e
    refine ⟨⟨(oCells 1 (posR 0 1) 1).toArray, 26, 1, false⟩, by cases tx <;> kernel_rfl, rfl, fun j u0 hu => ?_⟩
    match j, hu with
    | 0, hu =>
      have e : u0 = .slice (some ⟨0, 0, none⟩) 1 1 := (Option.some.inj hu).symm
      subst e
      exact ⟨.slice (some ⟨sgN 0 1 0, 0, none⟩) 1 1, by kernel_rfl, .slice 0 0 1 1 (by decide)⟩
    | j + 1, hu => exact absurd hu (by intro h; cases h)
  | i + 2, hB => exact absurd hB (by intro h; cases h)
theorem kr1_0 {f : FuncId} {M M' : Nat → Nat → P2} {X : P2} {tx : Bool} {x : Nat} (hx : ∃ bs, Runs Try.prog f #[.slice (some ⟨1, 0, none⟩) 1 1] (hN1 M') (.float .f64 x) (hN1 M' ++ bs)) : Runs Try.prog f #[.slice (some ⟨posO 0 1, 0, none⟩) 1 1] (froze (lawH2 #[] 1 M M' (xL tx X))) (.float .f64 x) (froze (lawH2 #[] 1 M M' (xL tx X))) := by
  obtain ⟨bs, hx⟩ := hx
  have hs : (hN1 M').size = 2 := rfl
  refine read_rows (sgN 0 1) hx ?_ rfl (by rw [hs]; decide) ?_ ?_ (by rw [hs]; exact ks1_0 M M' X tx)
  · intro b B hB
    match b, hB with
    | 0, hB => exact (Option.some.inj (Option.some.inj hB)) ▸ rfl
    | 1, hB => exact (Option.some.inj (Option.some.inj hB)) ▸ rfl
    | b + 2, hB => exact absurd hB (by intro h; cases h)
  · intro i hi
    rw [hs] at hi
    have hz : 4 ≤ (froze (lawH2 #[] 1 M M' (xL tx X))).size := by cases tx <;> exact Nat.le_of_ble_eq_true (by kernel_rfl)
    match i, hi with
    | 0, _ => exact Nat.lt_of_lt_of_le (by decide : sgN 0 1 0 < 4) hz
    | 1, _ => exact Nat.lt_of_lt_of_le (by decide : sgN 0 1 1 < 4) hz
    | i + 2, hi => omega
  · intro i hi
    rw [hs] at hi
    match i, hi with
    | 0, _ => exact ⟨_, rfl⟩
    | 1, _ => exact ⟨_, rfl⟩
    | i + 2, hi => omega
theorem ks1_1 (ob : Option ABlk) (M M' : Nat → Nat → P2) (X : P2) (tx : Bool) : ∀ (i : Nat) (B0 : ABlk), (hN1 M')[i]? = some (some B0) → ∃ B, (froze (lawH2 #[ob] 1 M M' (xL tx X)))[sgN 1 1 i]? = some (some B) ∧ B.cells.size = B0.cells.size ∧ ∀ (j : Nat) (u0 : Value), B0.cells[j]? = some u0 → ∃ u, B.cells[j]? = some u ∧ BackV 2 (sgN 1 1) u0 u := by
  intro i B0 hB
  match i, hB with
  | 0, hB =>
    have e : B0 = ⟨(cells 1 (M' 0) 1).toArray, 29, 2, false⟩ := (Option.some.inj (Option.some.inj hB)).symm
    subst e
    exact ⟨⟨(cells 1 (M' 0) 1).toArray, 29, 2, false⟩, by cases tx <;> kernel_rfl, rfl, fun j u0 hu => ⟨u0, hu, .clos (cells_cl 1 u0 (List.mem_of_getElem? (by simpa using hu)))⟩⟩
  | 1, hB =>
    have e : B0 = ⟨(oCells 1 idN 1).toArray, 26, 1, false⟩ := (Option.some.inj (Option.some.inj hB)).symm
    subst e
    refine ⟨⟨(oCells 1 (posR 1 1) 1).toArray, 26, 1, false⟩, by cases tx <;> kernel_rfl, rfl, fun j u0 hu => ?_⟩
    match j, hu with
    | 0, hu =>
      have e : u0 = .slice (some ⟨0, 0, none⟩) 1 1 := (Option.some.inj hu).symm
      subst e
      exact ⟨.slice (some ⟨sgN 1 1 0, 0, none⟩) 1 1, by kernel_rfl, .slice 0 0 1 1 (by decide)⟩
    | j + 1, hu => exact absurd hu (by intro h; cases h)
  | i + 2, hB => exact absurd hB (by intro h; cases h)
theorem kr1_1 (ob : Option ABlk) {f : FuncId} {M M' : Nat → Nat → P2} {X : P2} {tx : Bool} {x : Nat} (hx : ∃ bs, Runs Try.prog f #[.slice (some ⟨1, 0, none⟩) 1 1] (hN1 M') (.float .f64 x) (hN1 M' ++ bs)) : Runs Try.prog f #[.slice (some ⟨posO 1 1, 0, none⟩) 1 1] (froze (lawH2 #[ob] 1 M M' (xL tx X))) (.float .f64 x) (froze (lawH2 #[ob] 1 M M' (xL tx X))) := by
  obtain ⟨bs, hx⟩ := hx
  have hs : (hN1 M').size = 2 := rfl
  refine read_rows (sgN 1 1) hx ?_ rfl (by rw [hs]; decide) ?_ ?_ (by rw [hs]; exact ks1_1 ob M M' X tx)
  · intro b B hB
    match b, hB with
    | 0, hB => exact (Option.some.inj (Option.some.inj hB)) ▸ rfl
    | 1, hB => exact (Option.some.inj (Option.some.inj hB)) ▸ rfl
    | b + 2, hB => exact absurd hB (by intro h; cases h)
  · intro i hi
    rw [hs] at hi
    have hz : 5 ≤ (froze (lawH2 #[ob] 1 M M' (xL tx X))).size := by cases tx <;> exact Nat.le_of_ble_eq_true (by kernel_rfl)
    match i, hi with
    | 0, _ => exact Nat.lt_of_lt_of_le (by decide : sgN 1 1 0 < 5) hz
    | 1, _ => exact Nat.lt_of_lt_of_le (by decide : sgN 1 1 1 < 5) hz
    | i + 2, hi => omega
  · intro i hi
    rw [hs] at hi
    match i, hi with
    | 0, _ => exact ⟨_, rfl⟩
    | 1, _ => exact ⟨_, rfl⟩
    | i + 2, hi => omega
theorem ks2_0 (M M' : Nat → Nat → P2) (X : P2) (tx : Bool) : ∀ (i : Nat) (B0 : ABlk), (hN2 M')[i]? = some (some B0) → ∃ B, (froze (lawH2 #[] 2 M M' (xL tx X)))[sgN 0 2 i]? = some (some B) ∧ B.cells.size = B0.cells.size ∧ ∀ (j : Nat) (u0 : Value), B0.cells[j]? = some u0 → ∃ u, B.cells[j]? = some u ∧ BackV 3 (sgN 0 2) u0 u := by
  intro i B0 hB
  match i, hB with
  | 0, hB =>
    have e : B0 = ⟨(cells 2 (M' 0) 2).toArray, 29, 2, false⟩ := (Option.some.inj (Option.some.inj hB)).symm
    subst e
    exact ⟨⟨(cells 2 (M' 0) 2).toArray, 29, 2, false⟩, by cases tx <;> kernel_rfl, rfl, fun j u0 hu => ⟨u0, hu, .clos (cells_cl 2 u0 (List.mem_of_getElem? (by simpa using hu)))⟩⟩
  | 1, hB =>
    have e : B0 = ⟨(cells 2 (M' 1) 2).toArray, 29, 2, false⟩ := (Option.some.inj (Option.some.inj hB)).symm
    subst e
    exact ⟨⟨(cells 2 (M' 1) 2).toArray, 29, 2, false⟩, by cases tx <;> kernel_rfl, rfl, fun j u0 hu => ⟨u0, hu, .clos (cells_cl 2 u0 (List.mem_of_getElem? (by simpa using hu)))⟩⟩
  | 2, hB =>
    have e : B0 = ⟨(oCells 2 idN 2).toArray, 26, 1, false⟩ := (Option.some.inj (Option.some.inj hB)).symm
    subst e
    refine ⟨⟨(oCells 2 (posR 0 2) 2).toArray, 26, 1, false⟩, by cases tx <;> kernel_rfl, rfl, fun j u0 hu => ?_⟩
    match j, hu with
    | 0, hu =>
      have e : u0 = .slice (some ⟨0, 0, none⟩) 2 2 := (Option.some.inj hu).symm
      subst e
      exact ⟨.slice (some ⟨sgN 0 2 0, 0, none⟩) 2 2, by kernel_rfl, .slice 0 0 2 2 (by decide)⟩
    | 1, hu =>
      have e : u0 = .slice (some ⟨1, 0, none⟩) 2 2 := (Option.some.inj hu).symm
      subst e
      exact ⟨.slice (some ⟨sgN 0 2 1, 0, none⟩) 2 2, by kernel_rfl, .slice 1 0 2 2 (by decide)⟩
    | j + 2, hu => exact absurd hu (by intro h; cases h)
  | i + 3, hB => exact absurd hB (by intro h; cases h)
theorem kr2_0 {f : FuncId} {M M' : Nat → Nat → P2} {X : P2} {tx : Bool} {x : Nat} (hx : ∃ bs, Runs Try.prog f #[.slice (some ⟨2, 0, none⟩) 2 2] (hN2 M') (.float .f64 x) (hN2 M' ++ bs)) : Runs Try.prog f #[.slice (some ⟨posO 0 2, 0, none⟩) 2 2] (froze (lawH2 #[] 2 M M' (xL tx X))) (.float .f64 x) (froze (lawH2 #[] 2 M M' (xL tx X))) := by
  obtain ⟨bs, hx⟩ := hx
  have hs : (hN2 M').size = 3 := rfl
  refine read_rows (sgN 0 2) hx ?_ rfl (by rw [hs]; decide) ?_ ?_ (by rw [hs]; exact ks2_0 M M' X tx)
  · intro b B hB
    match b, hB with
    | 0, hB => exact (Option.some.inj (Option.some.inj hB)) ▸ rfl
    | 1, hB => exact (Option.some.inj (Option.some.inj hB)) ▸ rfl
    | 2, hB => exact (Option.some.inj (Option.some.inj hB)) ▸ rfl
    | b + 3, hB => exact absurd hB (by intro h; cases h)
  · intro i hi
    rw [hs] at hi
    have hz : 12 ≤ (froze (lawH2 #[] 2 M M' (xL tx X))).size := by cases tx <;> exact Nat.le_of_ble_eq_true (by kernel_rfl)
    match i, hi with
    | 0, _ => exact Nat.lt_of_lt_of_le (by decide : sgN 0 2 0 < 12) hz
    | 1, _ => exact Nat.lt_of_lt_of_le (by decide : sgN 0 2 1 < 12) hz
    | 2, _ => exact Nat.lt_of_lt_of_le (by decide : sgN 0 2 2 < 12) hz
    | i + 3, hi => omega
  · intro i hi
    rw [hs] at hi
    match i, hi with
    | 0, _ => exact ⟨_, rfl⟩
    | 1, _ => exact ⟨_, rfl⟩
    | 2, _ => exact ⟨_, rfl⟩
    | i + 3, hi => omega
theorem ks2_1 (ob : Option ABlk) (M M' : Nat → Nat → P2) (X : P2) (tx : Bool) : ∀ (i : Nat) (B0 : ABlk), (hN2 M')[i]? = some (some B0) → ∃ B, (froze (lawH2 #[ob] 2 M M' (xL tx X)))[sgN 1 2 i]? = some (some B) ∧ B.cells.size = B0.cells.size ∧ ∀ (j : Nat) (u0 : Value), B0.cells[j]? = some u0 → ∃ u, B.cells[j]? = some u ∧ BackV 3 (sgN 1 2) u0 u := by
  intro i B0 hB
  match i, hB with
  | 0, hB =>
    have e : B0 = ⟨(cells 2 (M' 0) 2).toArray, 29, 2, false⟩ := (Option.some.inj (Option.some.inj hB)).symm
    subst e
    exact ⟨⟨(cells 2 (M' 0) 2).toArray, 29, 2, false⟩, by cases tx <;> kernel_rfl, rfl, fun j u0 hu => ⟨u0, hu, .clos (cells_cl 2 u0 (List.mem_of_getElem? (by simpa using hu)))⟩⟩
  | 1, hB =>
    have e : B0 = ⟨(cells 2 (M' 1) 2).toArray, 29, 2, false⟩ := (Option.some.inj (Option.some.inj hB)).symm
    subst e
    exact ⟨⟨(cells 2 (M' 1) 2).toArray, 29, 2, false⟩, by cases tx <;> kernel_rfl, rfl, fun j u0 hu => ⟨u0, hu, .clos (cells_cl 2 u0 (List.mem_of_getElem? (by simpa using hu)))⟩⟩
  | 2, hB =>
    have e : B0 = ⟨(oCells 2 idN 2).toArray, 26, 1, false⟩ := (Option.some.inj (Option.some.inj hB)).symm
    subst e
    refine ⟨⟨(oCells 2 (posR 1 2) 2).toArray, 26, 1, false⟩, by cases tx <;> kernel_rfl, rfl, fun j u0 hu => ?_⟩
    match j, hu with
    | 0, hu =>
      have e : u0 = .slice (some ⟨0, 0, none⟩) 2 2 := (Option.some.inj hu).symm
      subst e
      exact ⟨.slice (some ⟨sgN 1 2 0, 0, none⟩) 2 2, by kernel_rfl, .slice 0 0 2 2 (by decide)⟩
    | 1, hu =>
      have e : u0 = .slice (some ⟨1, 0, none⟩) 2 2 := (Option.some.inj hu).symm
      subst e
      exact ⟨.slice (some ⟨sgN 1 2 1, 0, none⟩) 2 2, by kernel_rfl, .slice 1 0 2 2 (by decide)⟩
    | j + 2, hu => exact absurd hu (by intro h; cases h)
  | i + 3, hB => exact absurd hB (by intro h; cases h)
theorem kr2_1 (ob : Option ABlk) {f : FuncId} {M M' : Nat → Nat → P2} {X : P2} {tx : Bool} {x : Nat} (hx : ∃ bs, Runs Try.prog f #[.slice (some ⟨2, 0, none⟩) 2 2] (hN2 M') (.float .f64 x) (hN2 M' ++ bs)) : Runs Try.prog f #[.slice (some ⟨posO 1 2, 0, none⟩) 2 2] (froze (lawH2 #[ob] 2 M M' (xL tx X))) (.float .f64 x) (froze (lawH2 #[ob] 2 M M' (xL tx X))) := by
  obtain ⟨bs, hx⟩ := hx
  have hs : (hN2 M').size = 3 := rfl
  refine read_rows (sgN 1 2) hx ?_ rfl (by rw [hs]; decide) ?_ ?_ (by rw [hs]; exact ks2_1 ob M M' X tx)
  · intro b B hB
    match b, hB with
    | 0, hB => exact (Option.some.inj (Option.some.inj hB)) ▸ rfl
    | 1, hB => exact (Option.some.inj (Option.some.inj hB)) ▸ rfl
    | 2, hB => exact (Option.some.inj (Option.some.inj hB)) ▸ rfl
    | b + 3, hB => exact absurd hB (by intro h; cases h)
  · intro i hi
    rw [hs] at hi
    have hz : 13 ≤ (froze (lawH2 #[ob] 2 M M' (xL tx X))).size := by cases tx <;> exact Nat.le_of_ble_eq_true (by kernel_rfl)
    match i, hi with
    | 0, _ => exact Nat.lt_of_lt_of_le (by decide : sgN 1 2 0 < 13) hz
    | 1, _ => exact Nat.lt_of_lt_of_le (by decide : sgN 1 2 1 < 13) hz
    | 2, _ => exact Nat.lt_of_lt_of_le (by decide : sgN 1 2 2 < 13) hz
    | i + 3, hi => omega
  · intro i hi
    rw [hs] at hi
    match i, hi with
    | 0, _ => exact ⟨_, rfl⟩
    | 1, _ => exact ⟨_, rfl⟩
    | 2, _ => exact ⟨_, rfl⟩
    | i + 3, hi => omega
theorem ks3_0 (M M' : Nat → Nat → P2) (X : P2) (tx : Bool) : ∀ (i : Nat) (B0 : ABlk), (hN3 M')[i]? = some (some B0) → ∃ B, (froze (lawH2 #[] 3 M M' (xL tx X)))[sgN 0 3 i]? = some (some B) ∧ B.cells.size = B0.cells.size ∧ ∀ (j : Nat) (u0 : Value), B0.cells[j]? = some u0 → ∃ u, B.cells[j]? = some u ∧ BackV 4 (sgN 0 3) u0 u := by
  intro i B0 hB
  match i, hB with
  | 0, hB =>
    have e : B0 = ⟨(cells 3 (M' 0) 3).toArray, 29, 2, false⟩ := (Option.some.inj (Option.some.inj hB)).symm
    subst e
    exact ⟨⟨(cells 3 (M' 0) 3).toArray, 29, 2, false⟩, by cases tx <;> kernel_rfl, rfl, fun j u0 hu => ⟨u0, hu, .clos (cells_cl 3 u0 (List.mem_of_getElem? (by simpa using hu)))⟩⟩
  | 1, hB =>
    have e : B0 = ⟨(cells 3 (M' 1) 3).toArray, 29, 2, false⟩ := (Option.some.inj (Option.some.inj hB)).symm
    subst e
    exact ⟨⟨(cells 3 (M' 1) 3).toArray, 29, 2, false⟩, by cases tx <;> kernel_rfl, rfl, fun j u0 hu => ⟨u0, hu, .clos (cells_cl 3 u0 (List.mem_of_getElem? (by simpa using hu)))⟩⟩
  | 2, hB =>
    have e : B0 = ⟨(cells 3 (M' 2) 3).toArray, 29, 2, false⟩ := (Option.some.inj (Option.some.inj hB)).symm
    subst e
    exact ⟨⟨(cells 3 (M' 2) 3).toArray, 29, 2, false⟩, by cases tx <;> kernel_rfl, rfl, fun j u0 hu => ⟨u0, hu, .clos (cells_cl 3 u0 (List.mem_of_getElem? (by simpa using hu)))⟩⟩
  | 3, hB =>
    have e : B0 = ⟨(oCells 3 idN 3).toArray, 26, 1, false⟩ := (Option.some.inj (Option.some.inj hB)).symm
    subst e
    refine ⟨⟨(oCells 3 (posR 0 3) 3).toArray, 26, 1, false⟩, by cases tx <;> kernel_rfl, rfl, fun j u0 hu => ?_⟩
    match j, hu with
    | 0, hu =>
      have e : u0 = .slice (some ⟨0, 0, none⟩) 3 3 := (Option.some.inj hu).symm
      subst e
      exact ⟨.slice (some ⟨sgN 0 3 0, 0, none⟩) 3 3, by kernel_rfl, .slice 0 0 3 3 (by decide)⟩
    | 1, hu =>
      have e : u0 = .slice (some ⟨1, 0, none⟩) 3 3 := (Option.some.inj hu).symm
      subst e
      exact ⟨.slice (some ⟨sgN 0 3 1, 0, none⟩) 3 3, by kernel_rfl, .slice 1 0 3 3 (by decide)⟩
    | 2, hu =>
      have e : u0 = .slice (some ⟨2, 0, none⟩) 3 3 := (Option.some.inj hu).symm
      subst e
      exact ⟨.slice (some ⟨sgN 0 3 2, 0, none⟩) 3 3, by kernel_rfl, .slice 2 0 3 3 (by decide)⟩
    | j + 3, hu => exact absurd hu (by intro h; cases h)
  | i + 4, hB => exact absurd hB (by intro h; cases h)
theorem kr3_0 {f : FuncId} {M M' : Nat → Nat → P2} {X : P2} {tx : Bool} {x : Nat} (hx : ∃ bs, Runs Try.prog f #[.slice (some ⟨3, 0, none⟩) 3 3] (hN3 M') (.float .f64 x) (hN3 M' ++ bs)) : Runs Try.prog f #[.slice (some ⟨posO 0 3, 0, none⟩) 3 3] (froze (lawH2 #[] 3 M M' (xL tx X))) (.float .f64 x) (froze (lawH2 #[] 3 M M' (xL tx X))) := by
  obtain ⟨bs, hx⟩ := hx
  have hs : (hN3 M').size = 4 := rfl
  refine read_rows (sgN 0 3) hx ?_ rfl (by rw [hs]; decide) ?_ ?_ (by rw [hs]; exact ks3_0 M M' X tx)
  · intro b B hB
    match b, hB with
    | 0, hB => exact (Option.some.inj (Option.some.inj hB)) ▸ rfl
    | 1, hB => exact (Option.some.inj (Option.some.inj hB)) ▸ rfl
    | 2, hB => exact (Option.some.inj (Option.some.inj hB)) ▸ rfl
    | 3, hB => exact (Option.some.inj (Option.some.inj hB)) ▸ rfl
    | b + 4, hB => exact absurd hB (by intro h; cases h)
  · intro i hi
    rw [hs] at hi
    have hz : 24 ≤ (froze (lawH2 #[] 3 M M' (xL tx X))).size := by cases tx <;> exact Nat.le_of_ble_eq_true (by kernel_rfl)
    match i, hi with
    | 0, _ => exact Nat.lt_of_lt_of_le (by decide : sgN 0 3 0 < 24) hz
    | 1, _ => exact Nat.lt_of_lt_of_le (by decide : sgN 0 3 1 < 24) hz
    | 2, _ => exact Nat.lt_of_lt_of_le (by decide : sgN 0 3 2 < 24) hz
    | 3, _ => exact Nat.lt_of_lt_of_le (by decide : sgN 0 3 3 < 24) hz
    | i + 4, hi => omega
  · intro i hi
    rw [hs] at hi
    match i, hi with
    | 0, _ => exact ⟨_, rfl⟩
    | 1, _ => exact ⟨_, rfl⟩
    | 2, _ => exact ⟨_, rfl⟩
    | 3, _ => exact ⟨_, rfl⟩
    | i + 4, hi => omega
theorem ks3_1 (ob : Option ABlk) (M M' : Nat → Nat → P2) (X : P2) (tx : Bool) : ∀ (i : Nat) (B0 : ABlk), (hN3 M')[i]? = some (some B0) → ∃ B, (froze (lawH2 #[ob] 3 M M' (xL tx X)))[sgN 1 3 i]? = some (some B) ∧ B.cells.size = B0.cells.size ∧ ∀ (j : Nat) (u0 : Value), B0.cells[j]? = some u0 → ∃ u, B.cells[j]? = some u ∧ BackV 4 (sgN 1 3) u0 u := by
  intro i B0 hB
  match i, hB with
  | 0, hB =>
    have e : B0 = ⟨(cells 3 (M' 0) 3).toArray, 29, 2, false⟩ := (Option.some.inj (Option.some.inj hB)).symm
    subst e
    exact ⟨⟨(cells 3 (M' 0) 3).toArray, 29, 2, false⟩, by cases tx <;> kernel_rfl, rfl, fun j u0 hu => ⟨u0, hu, .clos (cells_cl 3 u0 (List.mem_of_getElem? (by simpa using hu)))⟩⟩
  | 1, hB =>
    have e : B0 = ⟨(cells 3 (M' 1) 3).toArray, 29, 2, false⟩ := (Option.some.inj (Option.some.inj hB)).symm
    subst e
    exact ⟨⟨(cells 3 (M' 1) 3).toArray, 29, 2, false⟩, by cases tx <;> kernel_rfl, rfl, fun j u0 hu => ⟨u0, hu, .clos (cells_cl 3 u0 (List.mem_of_getElem? (by simpa using hu)))⟩⟩
  | 2, hB =>
    have e : B0 = ⟨(cells 3 (M' 2) 3).toArray, 29, 2, false⟩ := (Option.some.inj (Option.some.inj hB)).symm
    subst e
    exact ⟨⟨(cells 3 (M' 2) 3).toArray, 29, 2, false⟩, by cases tx <;> kernel_rfl, rfl, fun j u0 hu => ⟨u0, hu, .clos (cells_cl 3 u0 (List.mem_of_getElem? (by simpa using hu)))⟩⟩
  | 3, hB =>
    have e : B0 = ⟨(oCells 3 idN 3).toArray, 26, 1, false⟩ := (Option.some.inj (Option.some.inj hB)).symm
    subst e
    refine ⟨⟨(oCells 3 (posR 1 3) 3).toArray, 26, 1, false⟩, by cases tx <;> kernel_rfl, rfl, fun j u0 hu => ?_⟩
    match j, hu with
    | 0, hu =>
      have e : u0 = .slice (some ⟨0, 0, none⟩) 3 3 := (Option.some.inj hu).symm
      subst e
      exact ⟨.slice (some ⟨sgN 1 3 0, 0, none⟩) 3 3, by kernel_rfl, .slice 0 0 3 3 (by decide)⟩
    | 1, hu =>
      have e : u0 = .slice (some ⟨1, 0, none⟩) 3 3 := (Option.some.inj hu).symm
      subst e
      exact ⟨.slice (some ⟨sgN 1 3 1, 0, none⟩) 3 3, by kernel_rfl, .slice 1 0 3 3 (by decide)⟩
    | 2, hu =>
      have e : u0 = .slice (some ⟨2, 0, none⟩) 3 3 := (Option.some.inj hu).symm
      subst e
      exact ⟨.slice (some ⟨sgN 1 3 2, 0, none⟩) 3 3, by kernel_rfl, .slice 2 0 3 3 (by decide)⟩
    | j + 3, hu => exact absurd hu (by intro h; cases h)
  | i + 4, hB => exact absurd hB (by intro h; cases h)
theorem kr3_1 (ob : Option ABlk) {f : FuncId} {M M' : Nat → Nat → P2} {X : P2} {tx : Bool} {x : Nat} (hx : ∃ bs, Runs Try.prog f #[.slice (some ⟨3, 0, none⟩) 3 3] (hN3 M') (.float .f64 x) (hN3 M' ++ bs)) : Runs Try.prog f #[.slice (some ⟨posO 1 3, 0, none⟩) 3 3] (froze (lawH2 #[ob] 3 M M' (xL tx X))) (.float .f64 x) (froze (lawH2 #[ob] 3 M M' (xL tx X))) := by
  obtain ⟨bs, hx⟩ := hx
  have hs : (hN3 M').size = 4 := rfl
  refine read_rows (sgN 1 3) hx ?_ rfl (by rw [hs]; decide) ?_ ?_ (by rw [hs]; exact ks3_1 ob M M' X tx)
  · intro b B hB
    match b, hB with
    | 0, hB => exact (Option.some.inj (Option.some.inj hB)) ▸ rfl
    | 1, hB => exact (Option.some.inj (Option.some.inj hB)) ▸ rfl
    | 2, hB => exact (Option.some.inj (Option.some.inj hB)) ▸ rfl
    | 3, hB => exact (Option.some.inj (Option.some.inj hB)) ▸ rfl
    | b + 4, hB => exact absurd hB (by intro h; cases h)
  · intro i hi
    rw [hs] at hi
    have hz : 25 ≤ (froze (lawH2 #[ob] 3 M M' (xL tx X))).size := by cases tx <;> exact Nat.le_of_ble_eq_true (by kernel_rfl)
    match i, hi with
    | 0, _ => exact Nat.lt_of_lt_of_le (by decide : sgN 1 3 0 < 25) hz
    | 1, _ => exact Nat.lt_of_lt_of_le (by decide : sgN 1 3 1 < 25) hz
    | 2, _ => exact Nat.lt_of_lt_of_le (by decide : sgN 1 3 2 < 25) hz
    | 3, _ => exact Nat.lt_of_lt_of_le (by decide : sgN 1 3 3 < 25) hz
    | i + 4, hi => omega
  · intro i hi
    rw [hs] at hi
    match i, hi with
    | 0, _ => exact ⟨_, rfl⟩
    | 1, _ => exact ⟨_, rfl⟩
    | 2, _ => exact ⟨_, rfl⟩
    | 3, _ => exact ⟨_, rfl⟩
    | i + 4, hi => omega
theorem ks4_0 (M M' : Nat → Nat → P2) (X : P2) (tx : Bool) : ∀ (i : Nat) (B0 : ABlk), (hN4 M')[i]? = some (some B0) → ∃ B, (froze (lawH2 #[] 4 M M' (xL tx X)))[sgN 0 4 i]? = some (some B) ∧ B.cells.size = B0.cells.size ∧ ∀ (j : Nat) (u0 : Value), B0.cells[j]? = some u0 → ∃ u, B.cells[j]? = some u ∧ BackV 5 (sgN 0 4) u0 u := by
  intro i B0 hB
  match i, hB with
  | 0, hB =>
    have e : B0 = ⟨(cells 4 (M' 0) 4).toArray, 29, 2, false⟩ := (Option.some.inj (Option.some.inj hB)).symm
    subst e
    exact ⟨⟨(cells 4 (M' 0) 4).toArray, 29, 2, false⟩, by cases tx <;> kernel_rfl, rfl, fun j u0 hu => ⟨u0, hu, .clos (cells_cl 4 u0 (List.mem_of_getElem? (by simpa using hu)))⟩⟩
  | 1, hB =>
    have e : B0 = ⟨(cells 4 (M' 1) 4).toArray, 29, 2, false⟩ := (Option.some.inj (Option.some.inj hB)).symm
    subst e
    exact ⟨⟨(cells 4 (M' 1) 4).toArray, 29, 2, false⟩, by cases tx <;> kernel_rfl, rfl, fun j u0 hu => ⟨u0, hu, .clos (cells_cl 4 u0 (List.mem_of_getElem? (by simpa using hu)))⟩⟩
  | 2, hB =>
    have e : B0 = ⟨(cells 4 (M' 2) 4).toArray, 29, 2, false⟩ := (Option.some.inj (Option.some.inj hB)).symm
    subst e
    exact ⟨⟨(cells 4 (M' 2) 4).toArray, 29, 2, false⟩, by cases tx <;> kernel_rfl, rfl, fun j u0 hu => ⟨u0, hu, .clos (cells_cl 4 u0 (List.mem_of_getElem? (by simpa using hu)))⟩⟩
  | 3, hB =>
    have e : B0 = ⟨(cells 4 (M' 3) 4).toArray, 29, 2, false⟩ := (Option.some.inj (Option.some.inj hB)).symm
    subst e
    exact ⟨⟨(cells 4 (M' 3) 4).toArray, 29, 2, false⟩, by cases tx <;> kernel_rfl, rfl, fun j u0 hu => ⟨u0, hu, .clos (cells_cl 4 u0 (List.mem_of_getElem? (by simpa using hu)))⟩⟩
  | 4, hB =>
    have e : B0 = ⟨(oCells 4 idN 4).toArray, 26, 1, false⟩ := (Option.some.inj (Option.some.inj hB)).symm
    subst e
    refine ⟨⟨(oCells 4 (posR 0 4) 4).toArray, 26, 1, false⟩, by cases tx <;> kernel_rfl, rfl, fun j u0 hu => ?_⟩
    match j, hu with
    | 0, hu =>
      have e : u0 = .slice (some ⟨0, 0, none⟩) 4 4 := (Option.some.inj hu).symm
      subst e
      exact ⟨.slice (some ⟨sgN 0 4 0, 0, none⟩) 4 4, by kernel_rfl, .slice 0 0 4 4 (by decide)⟩
    | 1, hu =>
      have e : u0 = .slice (some ⟨1, 0, none⟩) 4 4 := (Option.some.inj hu).symm
      subst e
      exact ⟨.slice (some ⟨sgN 0 4 1, 0, none⟩) 4 4, by kernel_rfl, .slice 1 0 4 4 (by decide)⟩
    | 2, hu =>
      have e : u0 = .slice (some ⟨2, 0, none⟩) 4 4 := (Option.some.inj hu).symm
      subst e
      exact ⟨.slice (some ⟨sgN 0 4 2, 0, none⟩) 4 4, by kernel_rfl, .slice 2 0 4 4 (by decide)⟩
    | 3, hu =>
      have e : u0 = .slice (some ⟨3, 0, none⟩) 4 4 := (Option.some.inj hu).symm
      subst e
      exact ⟨.slice (some ⟨sgN 0 4 3, 0, none⟩) 4 4, by kernel_rfl, .slice 3 0 4 4 (by decide)⟩
    | j + 4, hu => exact absurd hu (by intro h; cases h)
  | i + 5, hB => exact absurd hB (by intro h; cases h)
theorem kr4_0 {f : FuncId} {M M' : Nat → Nat → P2} {X : P2} {tx : Bool} {x : Nat} (hx : ∃ bs, Runs Try.prog f #[.slice (some ⟨4, 0, none⟩) 4 4] (hN4 M') (.float .f64 x) (hN4 M' ++ bs)) : Runs Try.prog f #[.slice (some ⟨posO 0 4, 0, none⟩) 4 4] (froze (lawH2 #[] 4 M M' (xL tx X))) (.float .f64 x) (froze (lawH2 #[] 4 M M' (xL tx X))) := by
  obtain ⟨bs, hx⟩ := hx
  have hs : (hN4 M').size = 5 := rfl
  refine read_rows (sgN 0 4) hx ?_ rfl (by rw [hs]; decide) ?_ ?_ (by rw [hs]; exact ks4_0 M M' X tx)
  · intro b B hB
    match b, hB with
    | 0, hB => exact (Option.some.inj (Option.some.inj hB)) ▸ rfl
    | 1, hB => exact (Option.some.inj (Option.some.inj hB)) ▸ rfl
    | 2, hB => exact (Option.some.inj (Option.some.inj hB)) ▸ rfl
    | 3, hB => exact (Option.some.inj (Option.some.inj hB)) ▸ rfl
    | 4, hB => exact (Option.some.inj (Option.some.inj hB)) ▸ rfl
    | b + 5, hB => exact absurd hB (by intro h; cases h)
  · intro i hi
    rw [hs] at hi
    have hz : 40 ≤ (froze (lawH2 #[] 4 M M' (xL tx X))).size := by cases tx <;> exact Nat.le_of_ble_eq_true (by kernel_rfl)
    match i, hi with
    | 0, _ => exact Nat.lt_of_lt_of_le (by decide : sgN 0 4 0 < 40) hz
    | 1, _ => exact Nat.lt_of_lt_of_le (by decide : sgN 0 4 1 < 40) hz
    | 2, _ => exact Nat.lt_of_lt_of_le (by decide : sgN 0 4 2 < 40) hz
    | 3, _ => exact Nat.lt_of_lt_of_le (by decide : sgN 0 4 3 < 40) hz
    | 4, _ => exact Nat.lt_of_lt_of_le (by decide : sgN 0 4 4 < 40) hz
    | i + 5, hi => omega
  · intro i hi
    rw [hs] at hi
    match i, hi with
    | 0, _ => exact ⟨_, rfl⟩
    | 1, _ => exact ⟨_, rfl⟩
    | 2, _ => exact ⟨_, rfl⟩
    | 3, _ => exact ⟨_, rfl⟩
    | 4, _ => exact ⟨_, rfl⟩
    | i + 5, hi => omega
theorem ks4_1 (ob : Option ABlk) (M M' : Nat → Nat → P2) (X : P2) (tx : Bool) : ∀ (i : Nat) (B0 : ABlk), (hN4 M')[i]? = some (some B0) → ∃ B, (froze (lawH2 #[ob] 4 M M' (xL tx X)))[sgN 1 4 i]? = some (some B) ∧ B.cells.size = B0.cells.size ∧ ∀ (j : Nat) (u0 : Value), B0.cells[j]? = some u0 → ∃ u, B.cells[j]? = some u ∧ BackV 5 (sgN 1 4) u0 u := by
  intro i B0 hB
  match i, hB with
  | 0, hB =>
    have e : B0 = ⟨(cells 4 (M' 0) 4).toArray, 29, 2, false⟩ := (Option.some.inj (Option.some.inj hB)).symm
    subst e
    exact ⟨⟨(cells 4 (M' 0) 4).toArray, 29, 2, false⟩, by cases tx <;> kernel_rfl, rfl, fun j u0 hu => ⟨u0, hu, .clos (cells_cl 4 u0 (List.mem_of_getElem? (by simpa using hu)))⟩⟩
  | 1, hB =>
    have e : B0 = ⟨(cells 4 (M' 1) 4).toArray, 29, 2, false⟩ := (Option.some.inj (Option.some.inj hB)).symm
    subst e
    exact ⟨⟨(cells 4 (M' 1) 4).toArray, 29, 2, false⟩, by cases tx <;> kernel_rfl, rfl, fun j u0 hu => ⟨u0, hu, .clos (cells_cl 4 u0 (List.mem_of_getElem? (by simpa using hu)))⟩⟩
  | 2, hB =>
    have e : B0 = ⟨(cells 4 (M' 2) 4).toArray, 29, 2, false⟩ := (Option.some.inj (Option.some.inj hB)).symm
    subst e
    exact ⟨⟨(cells 4 (M' 2) 4).toArray, 29, 2, false⟩, by cases tx <;> kernel_rfl, rfl, fun j u0 hu => ⟨u0, hu, .clos (cells_cl 4 u0 (List.mem_of_getElem? (by simpa using hu)))⟩⟩
  | 3, hB =>
    have e : B0 = ⟨(cells 4 (M' 3) 4).toArray, 29, 2, false⟩ := (Option.some.inj (Option.some.inj hB)).symm
    subst e
    exact ⟨⟨(cells 4 (M' 3) 4).toArray, 29, 2, false⟩, by cases tx <;> kernel_rfl, rfl, fun j u0 hu => ⟨u0, hu, .clos (cells_cl 4 u0 (List.mem_of_getElem? (by simpa using hu)))⟩⟩
  | 4, hB =>
    have e : B0 = ⟨(oCells 4 idN 4).toArray, 26, 1, false⟩ := (Option.some.inj (Option.some.inj hB)).symm
    subst e
    refine ⟨⟨(oCells 4 (posR 1 4) 4).toArray, 26, 1, false⟩, by cases tx <;> kernel_rfl, rfl, fun j u0 hu => ?_⟩
    match j, hu with
    | 0, hu =>
      have e : u0 = .slice (some ⟨0, 0, none⟩) 4 4 := (Option.some.inj hu).symm
      subst e
      exact ⟨.slice (some ⟨sgN 1 4 0, 0, none⟩) 4 4, by kernel_rfl, .slice 0 0 4 4 (by decide)⟩
    | 1, hu =>
      have e : u0 = .slice (some ⟨1, 0, none⟩) 4 4 := (Option.some.inj hu).symm
      subst e
      exact ⟨.slice (some ⟨sgN 1 4 1, 0, none⟩) 4 4, by kernel_rfl, .slice 1 0 4 4 (by decide)⟩
    | 2, hu =>
      have e : u0 = .slice (some ⟨2, 0, none⟩) 4 4 := (Option.some.inj hu).symm
      subst e
      exact ⟨.slice (some ⟨sgN 1 4 2, 0, none⟩) 4 4, by kernel_rfl, .slice 2 0 4 4 (by decide)⟩
    | 3, hu =>
      have e : u0 = .slice (some ⟨3, 0, none⟩) 4 4 := (Option.some.inj hu).symm
      subst e
      exact ⟨.slice (some ⟨sgN 1 4 3, 0, none⟩) 4 4, by kernel_rfl, .slice 3 0 4 4 (by decide)⟩
    | j + 4, hu => exact absurd hu (by intro h; cases h)
  | i + 5, hB => exact absurd hB (by intro h; cases h)
theorem kr4_1 (ob : Option ABlk) {f : FuncId} {M M' : Nat → Nat → P2} {X : P2} {tx : Bool} {x : Nat} (hx : ∃ bs, Runs Try.prog f #[.slice (some ⟨4, 0, none⟩) 4 4] (hN4 M') (.float .f64 x) (hN4 M' ++ bs)) : Runs Try.prog f #[.slice (some ⟨posO 1 4, 0, none⟩) 4 4] (froze (lawH2 #[ob] 4 M M' (xL tx X))) (.float .f64 x) (froze (lawH2 #[ob] 4 M M' (xL tx X))) := by
  obtain ⟨bs, hx⟩ := hx
  have hs : (hN4 M').size = 5 := rfl
  refine read_rows (sgN 1 4) hx ?_ rfl (by rw [hs]; decide) ?_ ?_ (by rw [hs]; exact ks4_1 ob M M' X tx)
  · intro b B hB
    match b, hB with
    | 0, hB => exact (Option.some.inj (Option.some.inj hB)) ▸ rfl
    | 1, hB => exact (Option.some.inj (Option.some.inj hB)) ▸ rfl
    | 2, hB => exact (Option.some.inj (Option.some.inj hB)) ▸ rfl
    | 3, hB => exact (Option.some.inj (Option.some.inj hB)) ▸ rfl
    | 4, hB => exact (Option.some.inj (Option.some.inj hB)) ▸ rfl
    | b + 5, hB => exact absurd hB (by intro h; cases h)
  · intro i hi
    rw [hs] at hi
    have hz : 41 ≤ (froze (lawH2 #[ob] 4 M M' (xL tx X))).size := by cases tx <;> exact Nat.le_of_ble_eq_true (by kernel_rfl)
    match i, hi with
    | 0, _ => exact Nat.lt_of_lt_of_le (by decide : sgN 1 4 0 < 41) hz
    | 1, _ => exact Nat.lt_of_lt_of_le (by decide : sgN 1 4 1 < 41) hz
    | 2, _ => exact Nat.lt_of_lt_of_le (by decide : sgN 1 4 2 < 41) hz
    | 3, _ => exact Nat.lt_of_lt_of_le (by decide : sgN 1 4 3 < 41) hz
    | 4, _ => exact Nat.lt_of_lt_of_le (by decide : sgN 1 4 4 < 41) hz
    | i + 5, hi => omega
  · intro i hi
    rw [hs] at hi
    match i, hi with
    | 0, _ => exact ⟨_, rfl⟩
    | 1, _ => exact ⟨_, rfl⟩
    | 2, _ => exact ⟨_, rfl⟩
    | 3, _ => exact ⟨_, rfl⟩
    | 4, _ => exact ⟨_, rfl⟩
    | i + 5, hi => omega

/-! the document's -/
noncomputable def askNr (f : FuncId) : Nat := if f == 22 || f == 45 then 1 else 2
noncomputable def rOR (M : Nat → P2) (e u : Nat → Nat) (i : Nat) : Nat → Nat → Nat → List Obl
  | 0, _, _ => []
  | m + 1, k, s => bif Nat.beq k i then rOR M e u i m (k + 1) s else .run 22 #[vI (M k)] #[] (.float .f64 (e k)) #[] :: .run 45 #[.float .f64 (fop .add .f64 s (e k))] #[] (.float .f64 (u k)) #[] :: rOR M e u i m (k + 1) (u k)
def nAR (n : Nat) (e u : Nat → Nat → Nat) (t : Nat → Bool) : Nat → Nat → List Ans
  | 0, _ => []
  | m + 1, i => rA (e i) (u i) i n 0 ++ (yes false :: yes (t i) :: nAR n e u t m (i + 1))
noncomputable def nOR (n : Nat) (M : Nat → Nat → P2) (e u : Nat → Nat → Nat) (t : Nat → Bool) : Nat → Nat → Nat → List Obl
  | 0, _, _ => []
  | m + 1, i, x => rOR (M i) (e i) (u i) i n 0 (M i i).2 ++ (cmpF .neq (rowW n M u i) (rowW n M u i) false :: cmpF .gtr (rowW n M u i) x (t i) :: nOR n M e u t m (i + 1) (sel (t i) (rowW n M u i) x))
def nSR (n : Nat) (M : Nat → Nat → P2) (u : Nat → Nat → Nat) (t : Nat → Bool) : Nat → Nat → Nat → Nat
  | 0, _, x => x
  | m + 1, i, x => nSR n M u t m (i + 1) (sel (t i) (rowW n M u i) x)
def tB4 (t0 t1 t2 t3 : Bool) (i : Nat) : Bool := match i with | 0 => t0 | 1 => t1 | 2 => t2 | _ => t3
def bR : Nat := 18442240474082181120
theorem bR_eq : bR = ninf := rfl
theorem normR1_came (M : Nat → Nat → P2) (e u : Nat → Nat → Nat) (t0 t1 t2 t3 : Bool) : (askN askNr fltC 12 24 #[.slice (some ⟨1, 0, none⟩) 1 1] (hN1 M) (nAR 1 e u (tB4 t0 t1 t2 t3) 1 0)).map (fun r => (r.1, r.2.1.toList.take (hN1 M).size, r.2.2)) =
    some (.float .f64 (nSR 1 M u (tB4 t0 t1 t2 t3) 1 0 bR), (hN1 M).toList, nOR 1 M e u (tB4 t0 t1 t2 t3) 1 0 bR) := by
  cases t0 <;> kernel_rfl
theorem normR2_came (M : Nat → Nat → P2) (e u : Nat → Nat → Nat) (t1 t2 t3 : Bool) : (askN askNr fltC 12 24 #[.slice (some ⟨2, 0, none⟩) 2 2] (hN2 M) (nAR 2 e u (tB4 true t1 t2 t3) 2 0)).map (fun r => (r.1, r.2.1.toList.take (hN2 M).size, r.2.2)) =
    some (.float .f64 (nSR 2 M u (tB4 true t1 t2 t3) 2 0 bR), (hN2 M).toList, nOR 2 M e u (tB4 true t1 t2 t3) 2 0 bR) := by
  cases t1 <;> kernel_rfl
theorem normR3_came (M : Nat → Nat → P2) (e u : Nat → Nat → Nat) (t1 t2 t3 : Bool) : (askN askNr fltC 12 24 #[.slice (some ⟨3, 0, none⟩) 3 3] (hN3 M) (nAR 3 e u (tB4 true t1 t2 t3) 3 0)).map (fun r => (r.1, r.2.1.toList.take (hN3 M).size, r.2.2)) =
    some (.float .f64 (nSR 3 M u (tB4 true t1 t2 t3) 3 0 bR), (hN3 M).toList, nOR 3 M e u (tB4 true t1 t2 t3) 3 0 bR) := by
  cases t1 <;> cases t2 <;> kernel_rfl
theorem normR4_came (M : Nat → Nat → P2) (e u : Nat → Nat → Nat) (t1 t2 t3 : Bool) : (askN askNr fltC 12 24 #[.slice (some ⟨4, 0, none⟩) 4 4] (hN4 M) (nAR 4 e u (tB4 true t1 t2 t3) 4 0)).map (fun r => (r.1, r.2.1.toList.take (hN4 M).size, r.2.2)) =
    some (.float .f64 (nSR 4 M u (tB4 true t1 t2 t3) 4 0 bR), (hN4 M).toList, nOR 4 M e u (tB4 true t1 t2 t3) 4 0 bR) := by
  cases t1 <;> cases t2 <;> cases t3 <;> kernel_rfl

noncomputable def askAbR (f : FuncId) : Nat := if f == 60 then 1 else if f == 43 then 2 else 0
theorem mag_cameR (a b x y : Nat) (c : Bool) : (askN askAbR fltC 12 22 #[fl2 a b] #[] [isG x, isG y, yes c]).map (fun r => (r.1, r.2.2)) = some (.float .f64 (sel c y x), [absO a x, absO b y, cmpF .gtr y x c]) := by
  cases c <;> kernel_rfl
theorem mag_two {X : P2} (h1 : NN X.1) (h2 : NN X.2) : ∃ g, Runs Try.prog 35 #[vI X] #[] (.float .f64 g) #[] ∧ Runs Try.prog 22 #[vI X] #[] (.float .f64 g) #[] ∧ NN g ∧ 0 ≤ ix g := by
  obtain ⟨a1, a2⟩ := abs_ix h1
  obtain ⟨b1, b2⟩ := abs_ix h2
  obtain ⟨s1, s2, s3, s4⟩ := sel_hi b1 a1 rfl
  have ob : okAll Try.prog [absO X.1 (fabs X.1), absO X.2 (fabs X.2), cmpF .gtr (fabs X.2) (fabs X.1) (decide (ix (fabs X.1) < ix (fabs X.2)))] := ⟨abs_runs h1, abs_runs h2, (fc _ rfl _ _).trans (gtr_ix b1 a1), trivial⟩
  exact ⟨_, quiet_of' (mag_came X.1 X.2 _ _ _) ob rfl rfl, quiet_of' (mag_cameR X.1 X.2 _ _ _) ob rfl rfl, s1, by omega⟩

/-- A sum with what is not below nought. -/
theorem add_up {s e : Nat} (hs : NN s) (h0 : -9218868437227405312 < ix s) (he : NN e) (e0 : 0 ≤ ix e) : NN (fop .add .f64 s e) ∧ NN (up (fop .add .f64 s e)) ∧ -9218868437227405312 < ix (up (fop .add .f64 s e)) := by
  have key : NN (fop .add .f64 s e) ∧ -9218868437227405312 < ix (fop .add .f64 s e) := by
    rcases nn_cases he with fe | rfl | rfl
    · rcases nn_cases hs with fs | rfl | rfl
      · have h1 := add_rd fs fe
        have h2 := add_ge fs fe e0
        exact ⟨h1.nn, by omega⟩
      · have : fop .add .f64 pinf e = pinf := add_inf_l false fe
        rw [this]; exact ⟨pinf_nn.1, by rw [pinf_nn.2]; decide⟩
      · rw [ninf_nn.2] at h0; omega
    · have : fop .add .f64 s pinf = pinf := by
        rcases nn_cases hs with fs | rfl | rfl
        · exact add_inf_r false fs
        · decide +kernel
        · rw [ninf_nn.2] at h0; omega
      rw [this]; exact ⟨pinf_nn.1, by rw [pinf_nn.2]; decide⟩
    · rw [ninf_nn.2] at e0; omega
  obtain ⟨u1, u2⟩ := up_ix key.1
  refine ⟨key.1, u1, ?_⟩
  have := le_up key.1
  omega
theorem sAt_gt {M : Nat → P2} {e : Nat → Nat} {i : Nat} (hM : NN (M i).2) (h0 : -9218868437227405312 < ix (M i).2) (he : ∀ k, NN (e k) ∧ 0 ≤ ix (e k)) : ∀ k, NN (sAt M e i k) ∧ -9218868437227405312 < ix (sAt M e i k)
  | 0 => ⟨hM, h0⟩
  | k + 1 => by
    obtain ⟨a, b⟩ := sAt_gt (i := i) hM h0 he k
    unfold sAt
    cases Nat.beq k i with
    | true => rw [cond_true]; exact ⟨a, b⟩
    | false => rw [cond_false]; exact (add_up a b (he k).1 (he k).2).2
theorem rOR_ok {M : Nat → P2} {e : Nat → Nat} {i : Nat} {n : Nat} (he : ∀ k, k < n → Runs Try.prog 22 #[vI (M k)] #[] (.float .f64 (e k)) #[]) (hs : ∀ k, k < n → NN (fop .add .f64 (sAt M e i k) (e k))) :
    ∀ m k : Nat, k + m ≤ n → okAll Try.prog (rOR M e (fun k => sAt M e i (k + 1)) i m k (sAt M e i k))
  | 0, k, _ => trivial
  | m + 1, k, hk => by
    have ih := rOR_ok he hs m (k + 1) (by omega)
    unfold rOR
    cases h : Nat.beq k i with
    | true =>
      rw [cond_true]
      have : sAt M e i (k + 1) = sAt M e i k := by
        show (bif Nat.beq k i then sAt M e i k else _) = _
        rw [h, cond_true]
      rw [this] at ih
      exact ih
    | false =>
      rw [cond_false]
      have hu : sAt M e i (k + 1) = up (fop .add .f64 (sAt M e i k) (e k)) := by
        show (bif Nat.beq k i then sAt M e i k else _) = _
        rw [h, cond_false]
      refine ⟨he k (by omega), ?_, ih⟩
      show Runs _ _ _ _ (.float .f64 (sAt M e i (k + 1))) _
      rw [hu]
      exact up_runsR (hs k (by omega))
def mxR (r : Nat → Nat) : Nat → Nat
  | 0 => bR
  | i + 1 => sel (decide (ix (mxR r i) < ix (r i))) (r i) (mxR r i)
def tR (r : Nat → Nat) (i : Nat) : Bool := decide (ix (mxR r i) < ix (r i))
theorem ninf_of' {a : Nat} (h : NN a) (e : ix a ≤ -9218868437227405312) : a = ninf := by
  rcases nn_cases h with f | rfl | rfl
  · have := f.2; omega
  · rw [pinf_nn.2] at e; omega
  · rfl
theorem mxR_eq {r : Nat → Nat} : ∀ i, (∀ k, k ≤ i → NN (r k)) → mxR r (i + 1) = mxW r i
  | 0, h => by
    show sel (decide (ix bR < ix (r 0))) (r 0) bR = r 0
    rw [bR_eq, ninf_nn.2]
    by_cases c : -9218868437227405312 < ix (r 0)
    · rw [decide_eq_true c]; rfl
    · rw [decide_eq_false c, ninf_of' (h 0 (Nat.le_refl _)) (by omega)]; rfl
  | i + 1, h => by
    have ih := mxR_eq i fun k hk => h k (by omega)
    show sel (decide (ix (mxR r (i + 1)) < ix (r (i + 1)))) (r (i + 1)) (mxR r (i + 1)) = _
    rw [ih]
    rfl
theorem mxR_nn {r : Nat → Nat} : ∀ i, (∀ k, k < i → NN (r k)) → NN (mxR r i)
  | 0, _ => ninf_nn.1
  | i + 1, h => by rw [mxR_eq i fun k hk => h k (by omega)]; exact mx_nn i fun k hk => h k (by omega)
theorem nOR_ok {n : Nat} {M : Nat → Nat → P2} {e : Nat → Nat → Nat} (hr : ∀ i, i < n → okAll Try.prog (rOR (M i) (e i) (fun k => sAt (M i) (e i) i (k + 1)) i n 0 (M i i).2)) (hn : ∀ i, i < n → NN (sAt (M i) (e i) i n)) :
    ∀ m i : Nat, i + m ≤ n → okAll Try.prog (nOR n M e (uOf M e) (tR fun i => sAt (M i) (e i) i n) m i (mxR (fun i => sAt (M i) (e i) i n) i))
  | 0, i, _ => trivial
  | m + 1, i, hi => by
    have ih := nOR_ok hr hn m (i + 1) (by omega)
    unfold nOR
    rw [row_at]
    exact app_ok' (hr _ (by omega)) ⟨(fc _ rfl _ _).trans (nn_self (hn _ (by omega))).1, (fc _ rfl _ _).trans (gtr_ix (hn _ (by omega)) (mxR_nn i fun k hk => hn k (by omega))), ih⟩
theorem nSR_at {n : Nat} {M : Nat → Nat → P2} {e : Nat → Nat → Nat} : ∀ m i : Nat, nSR n M (uOf M e) (tR fun i => sAt (M i) (e i) i n) m i (mxR (fun i => sAt (M i) (e i) i n) i) = mxR (fun i => sAt (M i) (e i) i n) (i + m)
  | 0, i => rfl
  | m + 1, i => by
    have ih := nSR_at (n := n) (M := M) (e := e) m (i + 1)
    unfold nSR
    rw [row_at]
    have e2 : i + (m + 1) = i + 1 + m := by omega
    rw [e2]
    exact ih

/-- Rows that may be reckoned with. -/
structure OkM (n : Nat) (M : Nat → Nat → P2) : Prop where
  nn : ∀ i c, NN (M i c).1 ∧ NN (M i c).2
  gt : 2 ≤ n → ∀ i, -9218868437227405312 < ix (M i i).2
theorem norm_both {n : Nat} (hn : 1 ≤ n) {M : Nat → Nat → P2} (hM : OkM n M) :
    ∃ (e : Nat → Nat → Nat) (x : Nat), NN x ∧ okAll Try.prog (nO n M e (uOf M e) (tOf fun i => sAt (M i) (e i) i n) n 0 0) ∧ nS n M (uOf M e) (tOf fun i => sAt (M i) (e i) i n) n 0 0 = x ∧
      okAll Try.prog (nOR n M e (uOf M e) (tR fun i => sAt (M i) (e i) i n) n 0 bR) ∧ nSR n M (uOf M e) (tR fun i => sAt (M i) (e i) i n) n 0 bR = x ∧ (2 ≤ n → tR (fun i => sAt (M i) (e i) i n) 0 = true) := by
  have hm : ∀ i c : Nat, ∃ e, Runs Try.prog 35 #[vI (M i c)] #[] (.float .f64 e) #[] ∧ Runs Try.prog 22 #[vI (M i c)] #[] (.float .f64 e) #[] ∧ NN e ∧ 0 ≤ ix e := fun i c => mag_two (hM.nn i c).1 (hM.nn i c).2
  let e : Nat → Nat → Nat := fun i c => Classical.choose (hm i c)
  have he : ∀ i c, Runs Try.prog 35 #[vI (M i c)] #[] (.float .f64 (e i c)) #[] ∧ Runs Try.prog 22 #[vI (M i c)] #[] (.float .f64 (e i c)) #[] ∧ NN (e i c) ∧ 0 ≤ ix (e i c) := fun i c => Classical.choose_spec (hm i c)
  generalize e = e at he
  have rows : ∀ i, i < n → okAll Try.prog (rO (M i) (e i) (fun k => sAt (M i) (e i) i (k + 1)) i n 0 (M i i).2) ∧ okAll Try.prog (rOR (M i) (e i) (fun k => sAt (M i) (e i) i (k + 1)) i n 0 (M i i).2) := by
    intro i hi
    by_cases h1 : n = 1
    · subst h1
      have : i = 0 := by omega
      subst this
      exact ⟨trivial, trivial⟩
    · have g := fun k => sAt_gt (i := i) (hM.nn i i).2 (hM.gt (by omega) i) (fun k => (he i k).2.2) k
      have nn : ∀ k, k < n → NN (fop .add .f64 (sAt (M i) (e i) i k) (e i k)) := fun k _ => (add_up (g k).1 (g k).2 (he i k).2.2.1 (he i k).2.2.2).1
      exact ⟨rO_ok (n := n) (fun k _ => (he i k).1) nn n 0 (by omega), rOR_ok (n := n) (fun k _ => (he i k).2.1) nn n 0 (by omega)⟩
  have rn : ∀ i, i < n → NN (sAt (M i) (e i) i n) := by
    intro i hi
    by_cases h1 : n = 1
    · subst h1
      have : i = 0 := by omega
      subst this
      exact (hM.nn 0 0).2
    · exact (sAt_gt (i := i) (hM.nn i i).2 (hM.gt (by omega) i) (fun k => (he i k).2.2) n).1
  obtain ⟨m, rfl⟩ : ∃ m, n = m + 1 := ⟨n - 1, by omega⟩
  have xn : NN (mxW (fun i => sAt (M i) (e i) i (m + 1)) m) := mx_nn m fun k hk => rn k (by omega)
  refine ⟨e, mxW (fun i => sAt (M i) (e i) i (m + 1)) m, xn, ?_, ?_, ?_, ?_, fun h2 => ?_⟩
  · unfold nO
    rw [row_at]
    exact app_ok' (rows 0 (by omega)).1 ⟨(fc _ rfl _ _).trans (nn_self (rn 0 (by omega))).1, nO_ok (fun i hi => (rows i hi).1) rn m 1 (by decide) (by omega)⟩
  · have h := nS_at (n := m + 1) (M := M) (e := e) m 1 (by decide)
    have h0 : nS (m + 1) M (uOf M e) (tOf fun i => sAt (M i) (e i) i (m + 1)) (m + 1) 0 0 = nS (m + 1) M (uOf M e) (tOf fun i => sAt (M i) (e i) i (m + 1)) m 1 (mxW (fun i => sAt (M i) (e i) i (m + 1)) 0) := by
      show nS (m + 1) M (uOf M e) _ m (0 + 1) (rowW (m + 1) M (uOf M e) 0) = _
      rw [row_at]
      rfl
    rw [h0, h]
    have e1 : 1 + m - 1 = m := by omega
    rw [e1]
  · exact nOR_ok (fun i hi => (rows i hi).2) rn (m + 1) 0 (by omega)
  · have h := nSR_at (n := m + 1) (M := M) (e := e) (m + 1) 0
    have h2 : nSR (m + 1) M (uOf M e) (tR fun i => sAt (M i) (e i) i (m + 1)) (m + 1) 0 bR = mxR (fun i => sAt (M i) (e i) i (m + 1)) (0 + (m + 1)) := h
    rw [h2, Nat.zero_add]
    exact mxR_eq m fun k hk => rn k (by omega)
  · have g := (sAt_gt (i := 0) (hM.nn 0 0).2 (hM.gt h2 0) (fun k => (he 0 k).2.2) (m + 1)).2
    show decide (ix bR < ix (sAt (M 0) (e 0) 0 (m + 1))) = true
    rw [bR_eq, ninf_nn.2]
    exact decide_eq_true g

theorem nR_tB1 (M : Nat → Nat → P2) (e u : Nat → Nat → Nat) (t : Nat → Bool) : nOR 1 M e u (tB4 (t 0) (t 1) (t 2) (t 3)) 1 0 bR = nOR 1 M e u t 1 0 bR ∧ nSR 1 M u (tB4 (t 0) (t 1) (t 2) (t 3)) 1 0 bR = nSR 1 M u t 1 0 bR := ⟨rfl, rfl⟩
theorem nJ_tB1 (M : Nat → Nat → P2) (e u : Nat → Nat → Nat) (t : Nat → Bool) : nO 1 M e u (tB (t 1) (t 2) (t 3)) 1 0 0 = nO 1 M e u t 1 0 0 ∧ nS 1 M u (tB (t 1) (t 2) (t 3)) 1 0 0 = nS 1 M u t 1 0 0 := ⟨rfl, rfl⟩
theorem both1 {M : Nat → Nat → P2} (hM : OkM 1 M) : ∃ x, NN x ∧ (∃ bs, Runs Try.prog 14 #[.slice (some ⟨1, 0, none⟩) 1 1] (hN1 M) (.float .f64 x) (hN1 M ++ bs)) ∧ (∃ bs, Runs Try.prog 24 #[.slice (some ⟨1, 0, none⟩) 1 1] (hN1 M) (.float .f64 x) (hN1 M ++ bs)) := by
  obtain ⟨e, x, hx, h1, h2, h3, h4, h5⟩ := norm_both (by decide) hM
  obtain ⟨p1, p2⟩ := nJ_tB1 M e (uOf M e) (tOf fun i => sAt (M i) (e i) i 1)
  obtain ⟨q1, q2⟩ := nR_tB1 M e (uOf M e) (tR fun i => sAt (M i) (e i) i 1)
  rw [← p1] at h1
  rw [← p2] at h2
  rw [← q1] at h3
  rw [← q2] at h4
  refine ⟨x, hx, ?_, ?_⟩
  · rw [← h2]; exact askN_ex (norm1_came M e (uOf M e) _ _ _) h1
  · rw [← h4]; exact askN_ex (normR1_came M e (uOf M e) _ _ _ _) h3

theorem nR_tB2 (M : Nat → Nat → P2) (e u : Nat → Nat → Nat) (t : Nat → Bool) : nOR 2 M e u (tB4 (t 0) (t 1) (t 2) (t 3)) 2 0 bR = nOR 2 M e u t 2 0 bR ∧ nSR 2 M u (tB4 (t 0) (t 1) (t 2) (t 3)) 2 0 bR = nSR 2 M u t 2 0 bR := ⟨rfl, rfl⟩
theorem nJ_tB2 (M : Nat → Nat → P2) (e u : Nat → Nat → Nat) (t : Nat → Bool) : nO 2 M e u (tB (t 1) (t 2) (t 3)) 2 0 0 = nO 2 M e u t 2 0 0 ∧ nS 2 M u (tB (t 1) (t 2) (t 3)) 2 0 0 = nS 2 M u t 2 0 0 := ⟨rfl, rfl⟩
theorem both2 {M : Nat → Nat → P2} (hM : OkM 2 M) : ∃ x, NN x ∧ (∃ bs, Runs Try.prog 14 #[.slice (some ⟨2, 0, none⟩) 2 2] (hN2 M) (.float .f64 x) (hN2 M ++ bs)) ∧ (∃ bs, Runs Try.prog 24 #[.slice (some ⟨2, 0, none⟩) 2 2] (hN2 M) (.float .f64 x) (hN2 M ++ bs)) := by
  obtain ⟨e, x, hx, h1, h2, h3, h4, h5⟩ := norm_both (by decide) hM
  obtain ⟨p1, p2⟩ := nJ_tB2 M e (uOf M e) (tOf fun i => sAt (M i) (e i) i 2)
  obtain ⟨q1, q2⟩ := nR_tB2 M e (uOf M e) (tR fun i => sAt (M i) (e i) i 2)
  rw [← p1] at h1
  rw [← p2] at h2
  rw [h5 (by decide)] at q1 q2
  rw [← q1] at h3
  rw [← q2] at h4
  refine ⟨x, hx, ?_, ?_⟩
  · rw [← h2]; exact askN_ex (norm2_came M e (uOf M e) _ _ _) h1
  · rw [← h4]; exact askN_ex (normR2_came M e (uOf M e) _ _ _) h3

theorem nR_tB3 (M : Nat → Nat → P2) (e u : Nat → Nat → Nat) (t : Nat → Bool) : nOR 3 M e u (tB4 (t 0) (t 1) (t 2) (t 3)) 3 0 bR = nOR 3 M e u t 3 0 bR ∧ nSR 3 M u (tB4 (t 0) (t 1) (t 2) (t 3)) 3 0 bR = nSR 3 M u t 3 0 bR := ⟨rfl, rfl⟩
theorem nJ_tB3 (M : Nat → Nat → P2) (e u : Nat → Nat → Nat) (t : Nat → Bool) : nO 3 M e u (tB (t 1) (t 2) (t 3)) 3 0 0 = nO 3 M e u t 3 0 0 ∧ nS 3 M u (tB (t 1) (t 2) (t 3)) 3 0 0 = nS 3 M u t 3 0 0 := ⟨rfl, rfl⟩
theorem both3 {M : Nat → Nat → P2} (hM : OkM 3 M) : ∃ x, NN x ∧ (∃ bs, Runs Try.prog 14 #[.slice (some ⟨3, 0, none⟩) 3 3] (hN3 M) (.float .f64 x) (hN3 M ++ bs)) ∧ (∃ bs, Runs Try.prog 24 #[.slice (some ⟨3, 0, none⟩) 3 3] (hN3 M) (.float .f64 x) (hN3 M ++ bs)) := by
  obtain ⟨e, x, hx, h1, h2, h3, h4, h5⟩ := norm_both (by decide) hM
  obtain ⟨p1, p2⟩ := nJ_tB3 M e (uOf M e) (tOf fun i => sAt (M i) (e i) i 3)
  obtain ⟨q1, q2⟩ := nR_tB3 M e (uOf M e) (tR fun i => sAt (M i) (e i) i 3)
  rw [← p1] at h1
  rw [← p2] at h2
  rw [h5 (by decide)] at q1 q2
  rw [← q1] at h3
  rw [← q2] at h4
  refine ⟨x, hx, ?_, ?_⟩
  · rw [← h2]; exact askN_ex (norm3_came M e (uOf M e) _ _ _) h1
  · rw [← h4]; exact askN_ex (normR3_came M e (uOf M e) _ _ _) h3

theorem nR_tB4 (M : Nat → Nat → P2) (e u : Nat → Nat → Nat) (t : Nat → Bool) : nOR 4 M e u (tB4 (t 0) (t 1) (t 2) (t 3)) 4 0 bR = nOR 4 M e u t 4 0 bR ∧ nSR 4 M u (tB4 (t 0) (t 1) (t 2) (t 3)) 4 0 bR = nSR 4 M u t 4 0 bR := ⟨rfl, rfl⟩
theorem nJ_tB4 (M : Nat → Nat → P2) (e u : Nat → Nat → Nat) (t : Nat → Bool) : nO 4 M e u (tB (t 1) (t 2) (t 3)) 4 0 0 = nO 4 M e u t 4 0 0 ∧ nS 4 M u (tB (t 1) (t 2) (t 3)) 4 0 0 = nS 4 M u t 4 0 0 := ⟨rfl, rfl⟩
theorem both4 {M : Nat → Nat → P2} (hM : OkM 4 M) : ∃ x, NN x ∧ (∃ bs, Runs Try.prog 14 #[.slice (some ⟨4, 0, none⟩) 4 4] (hN4 M) (.float .f64 x) (hN4 M ++ bs)) ∧ (∃ bs, Runs Try.prog 24 #[.slice (some ⟨4, 0, none⟩) 4 4] (hN4 M) (.float .f64 x) (hN4 M ++ bs)) := by
  obtain ⟨e, x, hx, h1, h2, h3, h4, h5⟩ := norm_both (by decide) hM
  obtain ⟨p1, p2⟩ := nJ_tB4 M e (uOf M e) (tOf fun i => sAt (M i) (e i) i 4)
  obtain ⟨q1, q2⟩ := nR_tB4 M e (uOf M e) (tR fun i => sAt (M i) (e i) i 4)
  rw [← p1] at h1
  rw [← p2] at h2
  rw [h5 (by decide)] at q1 q2
  rw [← q1] at h3
  rw [← q2] at h4
  refine ⟨x, hx, ?_, ?_⟩
  · rw [← h2]; exact askN_ex (norm4_came M e (uOf M e) _ _ _) h1
  · rw [← h4]; exact askN_ex (normR4_came M e (uOf M e) _ _ _) h3

end Go.Proofs.Ytdlinjijccnaeaa
