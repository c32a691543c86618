/- NordLeaf / NordRescA / NordLeafG / NordTabs: several texts in one. -/
import Derived.Test.YtclphdmaedpipaaNordSmall
/-!  Predict and At of rows: what they tell, in any memory that holds the rows. -/
namespace Go.Proofs.Ytclphdmaedpipaa
open Go
set_option linter.unusedVariables false
set_option linter.unusedSimpArgs false
set_option maxRecDepth 100000

def fW (x : Nat) : Value := .float .f64 x
def rowW (own : Bool) (k : Nat) (X : Nat → Nat) : Option ABlk := some ⟨((List.range k).map fun i => fW (X i)).toArray, 28, 1, own⟩
def outW (own : Bool) (q k e : Nat) : Option ABlk := some ⟨((List.range (q + 1)).map fun j => Value.slice (some ⟨e + j, 0, none⟩) k k).toArray, 30, 1, own⟩
def canH (q k : Nat) (X : Nat → Nat → Nat) : AHeap := (((List.range (q + 1)).map fun j => rowW false k (X j)) ++ [outW false q k 0]).toArray
def colX (q : Nat) (X : Nat → Nat → Nat) (i : Nat) : List Nat := (List.range (q + 1)).map fun j => X j i
def predW (q : Nat) (X : Nat → Nat → Nat) (j i : Nat) : Nat := (predL q (colX q X i)).getD j 0
def pBs (q k e : Nat) (X : Nat → Nat → Nat) : List (Option ABlk) := outW true q k (e + 1) :: ((List.range (q + 1)).map fun j => rowW true k (predW q X j))
def aBs (q k : Nat) (X : Nat → Nat → Nat) (t : Nat) : List (Option ABlk) := [rowW true k fun i => atL t (colX q X i)]
def pV (e q : Nat) : Value := .slice (some ⟨e, 0, none⟩) (q + 1) (q + 1)
def PredAt (q k : Nat) : Prop := ∀ X : Nat → Nat → Nat, callD 12 16 #[.slice (some ⟨q + 1, 0, none⟩) (q + 1) (q + 1)] (canH q k X) = some (pV (q + 2) q, canH q k X ++ (pBs q k (q + 2) X).toArray)
def AtAt (q k : Nat) : Prop := ∀ (X : Nat → Nat → Nat) (t : Nat), callD 12 18 #[.slice (some ⟨q + 1, 0, none⟩) (q + 1) (q + 1), fW t] (canH q k X) = some (.slice (some ⟨q + 2, 0, none⟩) k k, canH q k X ++ (aBs q k X t).toArray)
theorem pred_1_1 : PredAt 1 1 := fun X => by kernel_rfl
theorem att_1_1 : AtAt 1 1 := fun X t => by kernel_rfl
theorem pred_1_2 : PredAt 1 2 := fun X => by kernel_rfl
theorem att_1_2 : AtAt 1 2 := fun X t => by kernel_rfl
theorem pred_1_3 : PredAt 1 3 := fun X => by kernel_rfl
theorem att_1_3 : AtAt 1 3 := fun X t => by kernel_rfl
theorem pred_2_1 : PredAt 2 1 := fun X => by kernel_rfl
theorem att_2_1 : AtAt 2 1 := fun X t => by kernel_rfl
theorem pred_2_2 : PredAt 2 2 := fun X => by kernel_rfl
theorem att_2_2 : AtAt 2 2 := fun X t => by kernel_rfl
theorem pred_2_3 : PredAt 2 3 := fun X => by kernel_rfl
theorem att_2_3 : AtAt 2 3 := fun X t => by kernel_rfl
theorem pred_3_1 : PredAt 3 1 := fun X => by kernel_rfl
theorem att_3_1 : AtAt 3 1 := fun X t => by kernel_rfl
theorem pred_3_2 : PredAt 3 2 := fun X => by kernel_rfl
theorem att_3_2 : AtAt 3 2 := fun X t => by kernel_rfl
theorem pred_3_3 : PredAt 3 3 := fun X => by kernel_rfl
theorem att_3_3 : AtAt 3 3 := fun X t => by kernel_rfl
theorem pred_4_1 : PredAt 4 1 := fun X => by kernel_rfl
theorem att_4_1 : AtAt 4 1 := fun X t => by kernel_rfl
theorem pred_4_2 : PredAt 4 2 := fun X => by kernel_rfl
theorem att_4_2 : AtAt 4 2 := fun X t => by kernel_rfl
theorem pred_4_3 : PredAt 4 3 := fun X => by kernel_rfl
theorem att_4_3 : AtAt 4 3 := fun X t => by kernel_rfl
theorem pred_5_1 : PredAt 5 1 := fun X => by kernel_rfl
theorem att_5_1 : AtAt 5 1 := fun X t => by kernel_rfl
theorem pred_5_2 : PredAt 5 2 := fun X => by kernel_rfl
theorem att_5_2 : AtAt 5 2 := fun X t => by kernel_rfl
theorem pred_5_3 : PredAt 5 3 := fun X => by kernel_rfl
theorem att_5_3 : AtAt 5 3 := fun X t => by kernel_rfl

/-- Where the rows stand in a memory. -/
structure InH (H : AHeap) (e q k : Nat) (X : Nat → Nat → Nat) : Prop where
  row : ∀ j, j ≤ q → ∃ B, H[e + j]? = some (some B) ∧ B.cells = ((List.range k).map fun i => fW (X j i)).toArray
  out : ∃ B, H[e + (q + 1)]? = some (some B) ∧ B.cells = ((List.range (q + 1)).map fun j => Value.slice (some ⟨e + j, 0, none⟩) k k).toArray
theorem can_size (q k : Nat) (X : Nat → Nat → Nat) : (canH q k X).size = q + 2 := by simp [canH]
theorem can_row {q k : Nat} {X : Nat → Nat → Nat} {j : Nat} (hj : j ≤ q) : (canH q k X)[j]? = some (rowW false k (X j)) := by
  unfold canH
  rw [List.getElem?_toArray, List.getElem?_append_left (by simp; omega), List.getElem?_map, List.getElem?_range (by omega)]
  rfl
theorem can_out {q k : Nat} {X : Nat → Nat → Nat} : (canH q k X)[q + 1]? = some (outW false q k 0) := by
  unfold canH
  rw [List.getElem?_toArray, List.getElem?_append_right (by simp)]
  simp
theorem fW_cl {k : Nat} {X : Nat → Nat} {i : Nat} {u : Value} (h : ((List.range k).map fun i => fW (X i)).toArray[i]? = some u) : closN 4 u = true := by
  have h3 : ((List.range k).map fun i => fW (X i))[i]? = some u := by simpa using h
  obtain ⟨n, _, rfl⟩ := List.mem_map.1 (List.mem_of_getElem? h3)
  rfl
theorem can_cases {q k : Nat} {X : Nat → Nat → Nat} {i : Nat} {B0 : ABlk} (h : (canH q k X)[i]? = some (some B0)) : (i ≤ q ∧ rowW false k (X i) = some B0) ∨ (i = q + 1 ∧ outW false q k 0 = some B0) := by
  have hs := (Array.getElem?_eq_some_iff.1 h).1
  rw [can_size] at hs
  by_cases c : i ≤ q
  · rw [can_row c] at h; injection h with h; exact .inl ⟨c, h⟩
  · have : i = q + 1 := by omega
    subst this
    rw [can_out] at h; injection h with h; exact .inr ⟨rfl, h⟩
theorem sl_get {n e k i : Nat} {u : Value} (h : ((List.range n).map fun j => Value.slice (some ⟨e + j, 0, none⟩) k k).toArray[i]? = some u) : i < n ∧ u = .slice (some ⟨e + i, 0, none⟩) k k := by
  have h3 : ((List.range n).map fun j => Value.slice (some ⟨e + j, 0, none⟩) k k)[i]? = some u := by simpa using h
  have hi : i < n := by
    have := (List.getElem?_eq_some_iff.1 h3).1
    simpa using this
  rw [List.getElem?_map, List.getElem?_range hi] at h3
  exact ⟨hi, (Option.some.inj h3).symm⟩
theorem leaf_reloc {f : FuncId} {q k e : Nat} {X : Nat → Nat → Nat} {H : AHeap} {ex : List Value} {v0 v : Value} {bs0 bs : List (Option ABlk)} (hex : ∀ u ∈ ex, closN 4 u = true) (hin : InH H e q k X)
    (hr : Runs Try.prog f (Value.slice (some ⟨q + 1, 0, none⟩) (q + 1) (q + 1) :: ex).toArray (canH q k X) v0 (canH q k X ++ bs0.toArray))
    (hv : RelV (relB (q + 2) H.size (fun j => e + j)) v0 v) (hl : bs.length = bs0.length)
    (hb : ∀ (j : Nat) (B' : ABlk), bs[j]? = some (some B') → ∃ B, bs0[j]? = some (some B) ∧ B.own = true ∧ B'.own = true ∧ B'.elem = B.elem ∧ B'.esz = B.esz ∧ B'.cells.size = B.cells.size ∧
      ∀ (i : Nat) (u : Value), B'.cells[i]? = some u → ∃ u0, B.cells[i]? = some u0 ∧ RelV (relB (q + 2) H.size (fun j => e + j)) u0 u) :
    Runs Try.prog f (zV2 e q k :: ex).toArray H v (H ++ bs.toArray) := by
  have hs := can_size q k X
  have hout : e + (q + 1) < H.size := by
    obtain ⟨B, h1, _⟩ := hin.out
    exact (Array.getElem?_eq_some_iff.1 h1).1
  refine Runs.relocR (H0 := canH q k X) (bs0 := bs0.toArray) (bs := bs.toArray) (fun j => e + j) hr ?_ ?_ ?_ ?_ (by rw [hs]; exact hv) (by simp [hl]) ?_
  · intro i hi
    rw [hs] at hi
    show e + i < H.size
    omega
  · intro i hi
    rw [hs] at hi
    by_cases c : i ≤ q
    · exact ⟨_, can_row c⟩
    · have : i = q + 1 := by omega
      subst this
      exact ⟨_, can_out⟩
  · intro i B0 hB
    rcases can_cases hB with ⟨c, hB2⟩ | ⟨rfl, hB2⟩
    · obtain ⟨B, h1, h2⟩ := hin.row i c
      injection hB2 with hB2
      subst hB2
      exact ⟨rfl, B, h1, by rw [h2], fun j u0 hu => ⟨u0, by rw [h2]; exact hu, .clos (fW_cl hu)⟩⟩
    · obtain ⟨B, h1, h2⟩ := hin.out
      injection hB2 with hB2
      subst hB2
      refine ⟨rfl, B, h1, by rw [h2]; simp, fun j u0 hu => ?_⟩
      obtain ⟨hj, rfl⟩ := sl_get hu
      refine ⟨.slice (some ⟨e + j, 0, none⟩) k k, ?_, ?_⟩
      · rw [h2, List.getElem?_toArray, List.getElem?_map, List.getElem?_range hj]
        rfl
      · have g := BackV.slice (n := (canH q k X).size) (σ := fun j => e + j) (0 + j) 0 k k (by rw [hs]; omega)
        have e0 : e + (0 + j) = e + j := by omega
        simp only [e0] at g
        exact g
  · intro m mσ r hg hr2
    have hl2 := hr2.list
    obtain ⟨r⟩ := r
    cases hl2 with
    | cons g1 g2 =>
      refine VRl.arr (.cons (vr_slice (hg (q + 1) (by rw [hs]; omega)).symm g1) ?_)
      clear hr hr2
      induction g2 with
      | nil => exact .nil
      | cons h t ih => exact .cons (h.clos_any 4 _ _ (hex _ (List.mem_cons_self ..))) (ih fun u hu => hex u (List.mem_cons_of_mem _ hu))
  · intro j B' hB'
    rw [hs]
    have h5 : bs[j]? = some (some B') := by simpa using hB'
    obtain ⟨B, h1, h2⟩ := hb j B' h5
    exact ⟨B, by simpa using h1, h2⟩
theorem relB_new (n N j : Nat) (σ : Nat → Nat) : relB n N σ (n + j) = N + j := by
  unfold relB
  rw [if_neg (by omega)]
  omega
theorem rel_sl (n N j off k c : Nat) (σ : Nat → Nat) : RelV (relB n N σ) (.slice (some ⟨n + j, off, none⟩) k c) (.slice (some ⟨N + j, off, none⟩) k c) := by
  have g := RelV.slice (τ := relB n N σ) (n + j) off k c
  rw [relB_new] at g
  exact g
theorem pred_in {q k e : Nat} (hp : PredAt q k) {X : Nat → Nat → Nat} {H : AHeap} (hin : InH H e q k X) : Runs Try.prog 16 #[zV2 e q k] H (pV H.size q) (H ++ (pBs q k H.size X).toArray) := by
  refine leaf_reloc (ex := []) (fun u h => by cases h) hin (callD_runs (hp X)) ?_ (by simp [pBs]) ?_
  · exact rel_sl (q + 2) H.size 0 0 (q + 1) (q + 1) _
  · intro j B' h
    cases j with
    | zero =>
      have e1 : B' = ⟨((List.range (q + 1)).map fun j => Value.slice (some ⟨H.size + 1 + j, 0, none⟩) k k).toArray, 30, 1, true⟩ := (Option.some.inj (Option.some.inj h)).symm
      subst e1
      refine ⟨⟨((List.range (q + 1)).map fun j => Value.slice (some ⟨q + 2 + 1 + j, 0, none⟩) k k).toArray, 30, 1, true⟩, rfl, rfl, rfl, rfl, rfl, by simp, fun i u hu => ?_⟩
      obtain ⟨hi, rfl⟩ := sl_get hu
      refine ⟨.slice (some ⟨q + 2 + 1 + i, 0, none⟩) k k, ?_, ?_⟩
      · rw [List.getElem?_toArray, List.getElem?_map, List.getElem?_range hi]
        rfl
      · have g := rel_sl (q + 2) H.size (1 + i) 0 k k (fun j => e + j)
        rw [show q + 2 + (1 + i) = q + 2 + 1 + i by omega, show H.size + (1 + i) = H.size + 1 + i by omega] at g
        exact g
    | succ j =>
      have h5 : ((List.range (q + 1)).map fun j => rowW true k (predW q X j))[j]? = some (some B') := h
      refine ⟨B', h, ?_⟩
      obtain ⟨j', _, h6⟩ := List.mem_map.1 (List.mem_of_getElem? h5)
      injection h6 with h6
      subst h6
      exact ⟨rfl, rfl, rfl, rfl, rfl, fun i u hu => ⟨u, hu, .clos (fW_cl hu)⟩⟩
theorem at_in {q k e : Nat} (hp : AtAt q k) {X : Nat → Nat → Nat} {t : Nat} {H : AHeap} (hin : InH H e q k X) : Runs Try.prog 18 #[zV2 e q k, fW t] H (.slice (some ⟨H.size, 0, none⟩) k k) (H ++ (aBs q k X t).toArray) := by
  refine leaf_reloc (ex := [fW t]) (fun u h => by rw [List.mem_singleton] at h; subst h; rfl) hin (callD_runs (hp X t)) ?_ rfl ?_
  · exact rel_sl (q + 2) H.size 0 0 k k _
  · intro j B' h
    cases j with
    | zero =>
      refine ⟨B', h, ?_⟩
      have e1 := (Option.some.inj (Option.some.inj h))
      subst e1
      exact ⟨rfl, rfl, rfl, rfl, rfl, fun i u hu => ⟨u, hu, .clos (fW_cl hu)⟩⟩
    | succ j => cases h

end Go.Proofs.Ytclphdmaedpipaa

/-!  Rescale of rows: what it tells, in any memory that holds the rows, by what fp.Scale tells of each number. -/
namespace Go.Proofs.Ytclphdmaedpipaa
open Go
set_option linter.unusedVariables false
set_option linter.unusedSimpArgs false
set_option maxRecDepth 100000

noncomputable def askRs (f : FuncId) : Nat := if f == 45 then 1 else if f == 44 then 4 else 2
def jkW (j : Nat) (s : Int) : Int := IntKind.i64.wrap (Int.ofNat j * s)
noncomputable def scQ (x : Nat) (z : Int) (y : Nat) : Obl := .run 45 #[fW x, .int .i64 z] #[] (fW y) #[]
def rsA (k : Nat) (Y : Nat → Nat → Nat) : Nat → Nat → List Ans
  | 0, _ => []
  | m + 1, j => ((List.range k).map fun i => (⟨fun _ => fW (Y j i), []⟩ : Ans)) ++ rsA k Y m (j + 1)
noncomputable def rsO (k : Nat) (X Y : Nat → Nat → Nat) (s : Int) : Nat → Nat → List Obl
  | 0, _ => []
  | m + 1, j => ((List.range k).map fun i => scQ (X j i) (jkW j s) (Y j i)) ++ rsO k X Y s m (j + 1)
def rsB (q k e : Nat) (Y : Nat → Nat → Nat) (s : Int) : List (Option ABlk) := some ⟨#[.int .i64 s], 3, 0, true⟩ :: outW true q k (e + 2) :: ((List.range (q + 1)).map fun j => rowW true k (Y j))
def RescAt (q k : Nat) : Prop := ∀ (X Y : Nat → Nat → Nat) (s : Int), askN askRs noC 12 24 #[.slice (some ⟨q + 1, 0, none⟩) (q + 1) (q + 1), .int .i64 s] (canH q k X) (rsA k Y (q + 1) 0) = some (pV (q + 2 + 1) q, canH q k X ++ (rsB q k (q + 2) Y s).toArray, rsO k X Y s (q + 1) 0)
theorem resc_1_1 : RescAt 1 1 := fun X Y s => by kernel_rfl
theorem resc_1_2 : RescAt 1 2 := fun X Y s => by kernel_rfl
theorem resc_1_3 : RescAt 1 3 := fun X Y s => by kernel_rfl
theorem resc_2_1 : RescAt 2 1 := fun X Y s => by kernel_rfl
theorem resc_2_2 : RescAt 2 2 := fun X Y s => by kernel_rfl
theorem resc_2_3 : RescAt 2 3 := fun X Y s => by kernel_rfl
theorem resc_3_1 : RescAt 3 1 := fun X Y s => by kernel_rfl
theorem resc_3_2 : RescAt 3 2 := fun X Y s => by kernel_rfl
theorem resc_3_3 : RescAt 3 3 := fun X Y s => by kernel_rfl
theorem resc_4_1 : RescAt 4 1 := fun X Y s => by kernel_rfl
theorem resc_4_2 : RescAt 4 2 := fun X Y s => by kernel_rfl
theorem resc_4_3 : RescAt 4 3 := fun X Y s => by kernel_rfl
theorem resc_5_1 : RescAt 5 1 := fun X Y s => by kernel_rfl
theorem resc_5_2 : RescAt 5 2 := fun X Y s => by kernel_rfl
theorem resc_5_3 : RescAt 5 3 := fun X Y s => by kernel_rfl

theorem rsO_ok {k : Nat} {X Y : Nat → Nat → Nat} {s : Int} (h : ∀ j i, (scQ (X j i) (jkW j s) (Y j i)).ok Try.prog) : ∀ m j : Nat, okAll Try.prog (rsO k X Y s m j)
  | 0, _ => trivial
  | m + 1, j => by
    have ih := rsO_ok (k := k) h m (j + 1)
    unfold rsO
    generalize List.range k = l
    induction l with
    | nil => exact ih
    | cons i l ihl => exact ⟨h j i, ihl⟩
theorem resc_in {q k e : Nat} (hp : RescAt q k) {X Y : Nat → Nat → Nat} {s : Int} {H : AHeap} (hin : InH H e q k X) (hs : ∀ j i, Runs Try.prog 45 #[fW (X j i), .int .i64 (jkW j s)] #[] (fW (Y j i)) #[]) :
    Runs Try.prog 24 #[zV2 e q k, .int .i64 s] H (pV (H.size + 1) q) (H ++ (rsB q k H.size Y s).toArray) := by
  refine leaf_reloc (ex := [.int .i64 s]) (fun u h => by rw [List.mem_singleton] at h; subst h; rfl) hin (askN_runs (hp X Y s) (rsO_ok (fun j i => hs j i) _ _)) ?_ (by simp [rsB]) ?_
  · exact rel_sl (q + 2) H.size 1 0 (q + 1) (q + 1) _
  · intro j B' h
    match j, h with
    | 0, h =>
      refine ⟨B', h, ?_⟩
      have e1 := (Option.some.inj (Option.some.inj h))
      subst e1
      refine ⟨rfl, rfl, rfl, rfl, rfl, fun i u hu => ⟨u, hu, .clos ?_⟩⟩
      have : u ∈ [Value.int .i64 s] := List.mem_of_getElem? (by simpa using hu)
      rw [List.mem_singleton] at this
      subst this; rfl
    | 1, h =>
      have e1 : B' = ⟨((List.range (q + 1)).map fun j => Value.slice (some ⟨H.size + 2 + j, 0, none⟩) k k).toArray, 30, 1, true⟩ := (Option.some.inj (Option.some.inj h)).symm
      subst e1
      refine ⟨⟨((List.range (q + 1)).map fun j => Value.slice (some ⟨q + 2 + 2 + j, 0, none⟩) k k).toArray, 30, 1, true⟩, rfl, rfl, rfl, rfl, rfl, by simp, fun i u hu => ?_⟩
      obtain ⟨hi, rfl⟩ := sl_get hu
      refine ⟨.slice (some ⟨q + 2 + 2 + i, 0, none⟩) k k, ?_, ?_⟩
      · rw [List.getElem?_toArray, List.getElem?_map, List.getElem?_range hi]
        rfl
      · have g := rel_sl (q + 2) H.size (2 + i) 0 k k (fun j => e + j)
        rw [show q + 2 + (2 + i) = q + 2 + 2 + i by omega, show H.size + (2 + i) = H.size + 2 + i by omega] at g
        exact g
    | j + 2, h =>
      have h5 : ((List.range (q + 1)).map fun j => rowW true k (Y j))[j]? = some (some B') := h
      refine ⟨B', h, ?_⟩
      obtain ⟨j', _, h6⟩ := List.mem_map.1 (List.mem_of_getElem? h5)
      injection h6 with h6
      subst h6
      exact ⟨rfl, rfl, rfl, rfl, rfl, fun i u hu => ⟨u, hu, .clos (fW_cl hu)⟩⟩

end Go.Proofs.Ytclphdmaedpipaa

/-!  Predict, At, Rescale of rows that stand in a memory in any place: the head in one block, the rows in a row. -/
namespace Go.Proofs.Ytclphdmaedpipaa
open Go
set_option linter.unusedVariables false
set_option linter.unusedSimpArgs false
set_option maxRecDepth 100000

structure InG (H : AHeap) (o r q k : Nat) (X : Nat → Nat → Nat) : Prop where
  row : ∀ j, j ≤ q → ∃ B, H[r + j]? = some (some B) ∧ B.cells = ((List.range k).map fun i => fW (X j i)).toArray
  out : ∃ B, H[o]? = some (some B) ∧ B.cells = ((List.range (q + 1)).map fun j => Value.slice (some ⟨r + j, 0, none⟩) k k).toArray
def sgG (o r q j : Nat) : Nat := if j ≤ q then r + j else o
theorem leafG {f : FuncId} {q k o r : Nat} {X : Nat → Nat → Nat} {H : AHeap} {ex : List Value} {v0 v : Value} {bs0 bs : List (Option ABlk)} (hex : ∀ u ∈ ex, closN 4 u = true) (hin : InG H o r q k X)
    (hr : Runs Try.prog f (Value.slice (some ⟨q + 1, 0, none⟩) (q + 1) (q + 1) :: ex).toArray (canH q k X) v0 (canH q k X ++ bs0.toArray))
    (hv : RelV (relB (q + 2) H.size (sgG o r q)) v0 v) (hl : bs.length = bs0.length)
    (hb : ∀ (j : Nat) (B' : ABlk), bs[j]? = some (some B') → ∃ B, bs0[j]? = some (some B) ∧ B.own = true ∧ B'.own = true ∧ B'.elem = B.elem ∧ B'.esz = B.esz ∧ B'.cells.size = B.cells.size ∧
      ∀ (i : Nat) (u : Value), B'.cells[i]? = some u → ∃ u0, B.cells[i]? = some u0 ∧ RelV (relB (q + 2) H.size (sgG o r q)) u0 u) :
    Runs Try.prog f (Value.slice (some ⟨o, 0, none⟩) (q + 1) (q + 1) :: ex).toArray H v (H ++ bs.toArray) := by
  have hs := can_size q k X
  have s1 : ∀ j, j ≤ q → sgG o r q j = r + j := fun j hj => if_pos hj
  have s2 : sgG o r q (q + 1) = o := if_neg (by omega)
  refine Runs.relocR (H0 := canH q k X) (bs0 := bs0.toArray) (bs := bs.toArray) (sgG o r q) hr ?_ ?_ ?_ ?_ (by rw [hs]; exact hv) (by simp [hl]) ?_
  · intro i hi
    rw [hs] at hi
    by_cases c : i ≤ q
    · rw [s1 i c]
      obtain ⟨B, h1, _⟩ := hin.row i c
      exact (Array.getElem?_eq_some_iff.1 h1).1
    · have : i = q + 1 := by omega
      subst this
      rw [s2]
      obtain ⟨B, h1, _⟩ := hin.out
      exact (Array.getElem?_eq_some_iff.1 h1).1
  · intro i hi
    rw [hs] at hi
    by_cases c : i ≤ q
    · exact ⟨_, can_row c⟩
    · have : i = q + 1 := by omega
      subst this
      exact ⟨_, can_out⟩
  · intro i B0 hB
    rcases can_cases hB with ⟨c, hB2⟩ | ⟨rfl, hB2⟩
    · obtain ⟨B, h1, h2⟩ := hin.row i c
      injection hB2 with hB2
      subst hB2
      exact ⟨rfl, B, by rw [s1 i c]; exact h1, by rw [h2], fun j u0 hu => ⟨u0, by rw [h2]; exact hu, .clos (fW_cl hu)⟩⟩
    · obtain ⟨B, h1, h2⟩ := hin.out
      injection hB2 with hB2
      subst hB2
      refine ⟨rfl, B, by rw [s2]; exact h1, by rw [h2]; simp, fun j u0 hu => ?_⟩
      obtain ⟨hj, rfl⟩ := sl_get hu
      refine ⟨.slice (some ⟨r + j, 0, none⟩) k k, ?_, ?_⟩
      · rw [h2, List.getElem?_toArray, List.getElem?_map, List.getElem?_range hj]
        rfl
      · have g := BackV.slice (n := (canH q k X).size) (σ := sgG o r q) (0 + j) 0 k k (by rw [hs]; omega)
        have e0 : sgG o r q (0 + j) = r + j := by rw [Nat.zero_add]; exact s1 j (by omega)
        rw [e0] at g
        exact g
  · intro m mσ r' hg hr2
    have hl2 := hr2.list
    obtain ⟨r'⟩ := r'
    cases hl2 with
    | cons g1 g2 =>
      have hq := hg (q + 1) (by rw [hs]; omega)
      rw [s2] at hq
      refine VRl.arr (.cons (vr_slice hq.symm g1) ?_)
      clear hr hr2
      induction g2 with
      | nil => exact .nil
      | cons h t ih => exact .cons (h.clos_any 4 _ _ (hex _ (List.mem_cons_self ..))) (ih fun u hu => hex u (List.mem_cons_of_mem _ hu))
  · intro j B' hB'
    rw [hs]
    have h5 : bs[j]? = some (some B') := by simpa using hB'
    obtain ⟨B, h1, h2⟩ := hb j B' h5
    exact ⟨B, by simpa using h1, h2⟩
theorem at_inG {q k o r : Nat} (hp : AtAt q k) {X : Nat → Nat → Nat} {t : Nat} {H : AHeap} (hin : InG H o r q k X) : Runs Try.prog 18 #[.slice (some ⟨o, 0, none⟩) (q + 1) (q + 1), fW t] H (.slice (some ⟨H.size, 0, none⟩) k k) (H ++ (aBs q k X t).toArray) := by
  refine leafG (ex := [fW t]) (fun u h => by rw [List.mem_singleton] at h; subst h; rfl) hin (callD_runs (hp X t)) ?_ rfl ?_
  · exact rel_sl (q + 2) H.size 0 0 k k _
  · intro j B' h
    cases j with
    | zero =>
      refine ⟨B', h, ?_⟩
      have e1 := (Option.some.inj (Option.some.inj h))
      subst e1
      exact ⟨rfl, rfl, rfl, rfl, rfl, fun i u hu => ⟨u, hu, .clos (fW_cl hu)⟩⟩
    | succ j => cases h
theorem resc_inG {q k o r : Nat} (hp : RescAt q k) {X Y : Nat → Nat → Nat} {s : Int} {H : AHeap} (hin : InG H o r q k X) (hs : ∀ j i, Runs Try.prog 45 #[fW (X j i), .int .i64 (jkW j s)] #[] (fW (Y j i)) #[]) :
    Runs Try.prog 24 #[.slice (some ⟨o, 0, none⟩) (q + 1) (q + 1), .int .i64 s] H (pV (H.size + 1) q) (H ++ (rsB q k H.size Y s).toArray) := by
  refine leafG (ex := [.int .i64 s]) (fun u h => by rw [List.mem_singleton] at h; subst h; rfl) hin (askN_runs (hp X Y s) (rsO_ok (fun j i => hs j i) _ _)) ?_ (by simp [rsB]) ?_
  · exact rel_sl (q + 2) H.size 1 0 (q + 1) (q + 1) _
  · intro j B' h
    match j, h with
    | 0, h =>
      refine ⟨B', h, ?_⟩
      have e1 := (Option.some.inj (Option.some.inj h))
      subst e1
      refine ⟨rfl, rfl, rfl, rfl, rfl, fun i u hu => ⟨u, hu, .clos ?_⟩⟩
      have : u ∈ [Value.int .i64 s] := List.mem_of_getElem? (by simpa using hu)
      rw [List.mem_singleton] at this
      subst this; rfl
    | 1, h =>
      have e1 : B' = ⟨((List.range (q + 1)).map fun j => Value.slice (some ⟨H.size + 2 + j, 0, none⟩) k k).toArray, 30, 1, true⟩ := (Option.some.inj (Option.some.inj h)).symm
      subst e1
      refine ⟨⟨((List.range (q + 1)).map fun j => Value.slice (some ⟨q + 2 + 2 + j, 0, none⟩) k k).toArray, 30, 1, true⟩, rfl, rfl, rfl, rfl, rfl, by simp, fun i u hu => ?_⟩
      obtain ⟨hi, rfl⟩ := sl_get hu
      refine ⟨.slice (some ⟨q + 2 + 2 + i, 0, none⟩) k k, ?_, ?_⟩
      · rw [List.getElem?_toArray, List.getElem?_map, List.getElem?_range hi]
        rfl
      · have g := rel_sl (q + 2) H.size (2 + i) 0 k k (sgG o r q)
        rw [show q + 2 + (2 + i) = q + 2 + 2 + i by omega, show H.size + (2 + i) = H.size + 2 + i by omega] at g
        exact g
    | j + 2, h =>
      have h5 : ((List.range (q + 1)).map fun j => rowW true k (Y j))[j]? = some (some B') := h
      refine ⟨B', h, ?_⟩
      obtain ⟨j', _, h6⟩ := List.mem_map.1 (List.mem_of_getElem? h5)
      injection h6 with h6
      subst h6
      exact ⟨rfl, rfl, rfl, rfl, rfl, fun i u hu => ⟨u, hu, .clos (fW_cl hu)⟩⟩

end Go.Proofs.Ytclphdmaedpipaa

/-!  The document's Tables of two that stand in a memory in any places: true, if their numbers are the same one by one. -/
namespace Go.Proofs.Ytclphdmaedpipaa
open Go
set_option linter.unusedVariables false
set_option linter.unusedSimpArgs false
set_option maxRecDepth 100000

def canL (q k r : Nat) (X : Nat → Nat → Nat) : List (Option ABlk) := ((List.range (q + 1)).map fun j => rowW false k (X j)) ++ [outW false q k r]
def canH2 (q k : Nat) (X Y : Nat → Nat → Nat) : AHeap := (canL q k 0 X ++ canL q k (q + 2) Y).toArray
noncomputable def askTb (f : FuncId) : Nat := if f == 31 then 1 else 2
noncomputable def smQ (x y : Nat) : Obl := .run 31 #[fW x, fW y] #[] (.bool true) #[]
noncomputable def tbO (k : Nat) (X Y : Nat → Nat → Nat) : Nat → Nat → List Obl
  | 0, _ => []
  | m + 1, j => ((List.range k).map fun i => smQ (X j i) (Y j i)) ++ tbO k X Y m (j + 1)
def yesK : Nat → List Ans
  | 0 => []
  | n + 1 => yes true :: yesK n
def TabAt (q k : Nat) : Prop := ∀ X Y : Nat → Nat → Nat, askN askTb noC 12 25 #[.slice (some ⟨q + 1, 0, none⟩) (q + 1) (q + 1), .slice (some ⟨q + 2 + (q + 1), 0, none⟩) (q + 1) (q + 1)] (canH2 q k X Y) (yesK ((q + 1) * k)) = some (.bool true, canH2 q k X Y, tbO k X Y (q + 1) 0)
theorem tab_1_1 : TabAt 1 1 := fun X Y => by kernel_rfl
theorem tab_1_2 : TabAt 1 2 := fun X Y => by kernel_rfl
theorem tab_1_3 : TabAt 1 3 := fun X Y => by kernel_rfl
theorem tab_2_1 : TabAt 2 1 := fun X Y => by kernel_rfl
theorem tab_2_2 : TabAt 2 2 := fun X Y => by kernel_rfl
theorem tab_2_3 : TabAt 2 3 := fun X Y => by kernel_rfl
theorem tab_3_1 : TabAt 3 1 := fun X Y => by kernel_rfl
theorem tab_3_2 : TabAt 3 2 := fun X Y => by kernel_rfl
theorem tab_3_3 : TabAt 3 3 := fun X Y => by kernel_rfl
theorem tab_4_1 : TabAt 4 1 := fun X Y => by kernel_rfl
theorem tab_4_2 : TabAt 4 2 := fun X Y => by kernel_rfl
theorem tab_4_3 : TabAt 4 3 := fun X Y => by kernel_rfl
theorem tab_5_1 : TabAt 5 1 := fun X Y => by kernel_rfl
theorem tab_5_2 : TabAt 5 2 := fun X Y => by kernel_rfl
theorem tab_5_3 : TabAt 5 3 := fun X Y => by kernel_rfl

theorem canL_len (q k r : Nat) (X : Nat → Nat → Nat) : (canL q k r X).length = q + 2 := by simp [canL]
theorem canL_row {q k r j : Nat} {X : Nat → Nat → Nat} (hj : j ≤ q) : (canL q k r X)[j]? = some (rowW false k (X j)) := by
  unfold canL
  rw [List.getElem?_append_left (by simp; omega), List.getElem?_map, List.getElem?_range (by omega)]
  rfl
theorem canL_out {q k r : Nat} {X : Nat → Nat → Nat} : (canL q k r X)[q + 1]? = some (outW false q k r) := by
  unfold canL
  rw [List.getElem?_append_right (by simp)]
  simp
theorem canL_cases {q k r : Nat} {X : Nat → Nat → Nat} {i : Nat} {B0 : ABlk} (h : (canL q k r X)[i]? = some (some B0)) : (i ≤ q ∧ rowW false k (X i) = some B0) ∨ (i = q + 1 ∧ outW false q k r = some B0) := by
  have hs := (List.getElem?_eq_some_iff.1 h).1
  rw [canL_len] at hs
  by_cases c : i ≤ q
  · rw [canL_row c] at h; injection h with h; exact .inl ⟨c, h⟩
  · have : i = q + 1 := by omega
    subst this
    rw [canL_out] at h; injection h with h; exact .inr ⟨rfl, h⟩
def sg2 (o1 r1 o2 r2 q j : Nat) : Nat := if j < q + 2 then sgG o1 r1 q j else sgG o2 r2 q (j - (q + 2))
theorem tabs_in {q k o1 r1 o2 r2 : Nat} (hp : TabAt q k) {X Y : Nat → Nat → Nat} {H : AHeap} (h1 : InG H o1 r1 q k X) (h2 : InG H o2 r2 q k Y) (hs : ∀ j i, Runs Try.prog 31 #[fW (X j i), fW (Y j i)] #[] (.bool true) #[]) :
    Runs Try.prog 25 #[.slice (some ⟨o1, 0, none⟩) (q + 1) (q + 1), .slice (some ⟨o2, 0, none⟩) (q + 1) (q + 1)] H (.bool true) H := by
  have ob : ∀ m j : Nat, okAll Try.prog (tbO k X Y m j) := by
    intro m
    induction m with
    | zero => intro j; exact trivial
    | succ m ih =>
      intro j
      have ih' := ih (j + 1)
      unfold tbO
      generalize List.range k = l
      induction l with
      | nil => exact ih'
      | cons i l ihl => exact ⟨hs j i, ihl⟩
  have hr := askN_runs (hp X Y) (ob _ _)
  have hr' : Runs Try.prog 25 #[.slice (some ⟨q + 1, 0, none⟩) (q + 1) (q + 1), .slice (some ⟨q + 2 + (q + 1), 0, none⟩) (q + 1) (q + 1)] (canH2 q k X Y) (.bool true) (canH2 q k X Y ++ #[]) := by rw [Array.append_empty]; exact hr
  have sz : (canH2 q k X Y).size = q + 2 + (q + 2) := by simp [canH2, canL_len]
  have getA : ∀ i, i < q + 2 → (canH2 q k X Y)[i]? = (canL q k 0 X)[i]? := by
    intro i hi
    unfold canH2
    rw [List.getElem?_toArray, List.getElem?_append_left (by rw [canL_len]; exact hi)]
  have getB : ∀ i, (canH2 q k X Y)[q + 2 + i]? = (canL q k (q + 2) Y)[i]? := by
    intro i
    unfold canH2
    rw [List.getElem?_toArray, List.getElem?_append_right (by rw [canL_len]; omega), canL_len, Nat.add_sub_cancel_left]
  have sA : ∀ i, i < q + 2 → sg2 o1 r1 o2 r2 q i = sgG o1 r1 q i := fun i hi => if_pos hi
  have sB : ∀ i, sg2 o1 r1 o2 r2 q (q + 2 + i) = sgG o2 r2 q i := fun i => by
    unfold sg2
    rw [if_neg (by omega), Nat.add_sub_cancel_left]
  have g1 : ∀ o r j, j ≤ q → sgG o r q j = r + j := fun o r j hj => if_pos hj
  have g2 : ∀ o r, sgG o r q (q + 1) = o := fun o r => if_neg (by omega)
  have lt : ∀ {o r : Nat} {Z : Nat → Nat → Nat}, InG H o r q k Z → ∀ i, i < q + 2 → sgG o r q i < H.size := by
    intro o r Z hZ i hi
    by_cases c : i ≤ q
    · rw [g1 o r i c]
      obtain ⟨B, e, _⟩ := hZ.row i c
      exact (Array.getElem?_eq_some_iff.1 e).1
    · have : i = q + 1 := by omega
      subst this
      rw [g2]
      obtain ⟨B, e, _⟩ := hZ.out
      exact (Array.getElem?_eq_some_iff.1 e).1
  have one : ∀ {o r b : Nat} {Z : Nat → Nat → Nat}, InG H o r q k Z → (∀ j, j ≤ q → sg2 o1 r1 o2 r2 q (b + j) = r + j) → b + q + 1 < q + 2 + (q + 2) → ∀ (i : Nat) (B0 : ABlk), (canL q k b Z)[i]? = some (some B0) → B0.own = false ∧ ∃ B, H[sgG o r q i]? = some (some B) ∧ B.cells.size = B0.cells.size ∧ ∀ (j : Nat) (u0 : Value), B0.cells[j]? = some u0 → ∃ u, B.cells[j]? = some u ∧ BackV (canH2 q k X Y).size (sg2 o1 r1 o2 r2 q) u0 u := by
    intro o r b Z hZ hb hbs i B0 hB
    rcases canL_cases hB with ⟨c, hB2⟩ | ⟨rfl, hB2⟩
    · obtain ⟨B, e1, e2⟩ := hZ.row i c
      injection hB2 with hB2
      subst hB2
      exact ⟨rfl, B, by rw [g1 o r i c]; exact e1, by rw [e2], fun j u0 hu => ⟨u0, by rw [e2]; exact hu, .clos (fW_cl hu)⟩⟩
    · obtain ⟨B, e1, e2⟩ := hZ.out
      injection hB2 with hB2
      subst hB2
      refine ⟨rfl, B, by rw [g2]; exact e1, by rw [e2]; simp, fun j u0 hu => ?_⟩
      obtain ⟨hj, rfl⟩ := sl_get hu
      refine ⟨.slice (some ⟨r + j, 0, none⟩) k k, ?_, ?_⟩
      · rw [e2, List.getElem?_toArray, List.getElem?_map, List.getElem?_range hj]
        rfl
      · have g := BackV.slice (n := (canH2 q k X Y).size) (σ := sg2 o1 r1 o2 r2 q) (b + j) 0 k k (by rw [sz]; omega)
        rw [hb j (by omega)] at g
        exact g
  have res := Runs.relocR (H0 := canH2 q k X Y) (H := H) (bs := #[]) (v := .bool true) (args := #[.slice (some ⟨o1, 0, none⟩) (q + 1) (q + 1), .slice (some ⟨o2, 0, none⟩) (q + 1) (q + 1)]) (sg2 o1 r1 o2 r2 q) hr' ?_ ?_ ?_ ?_ (.clos rfl) rfl (fun j B h => by simp at h)
  · rw [Array.append_empty] at res
    exact res
  · intro i hi
    rw [sz] at hi
    by_cases c : i < q + 2
    · rw [sA i c]; exact lt h1 i c
    · obtain ⟨i', rfl⟩ : ∃ i', i = q + 2 + i' := ⟨i - (q + 2), by omega⟩
      rw [sB]; exact lt h2 i' (by omega)
  · intro i hi
    rw [sz] at hi
    have h5 : ∀ (r : Nat) (Z : Nat → Nat → Nat) (i : Nat), i < q + 2 → ∃ B0, (canL q k r Z)[i]? = some (some B0) := by
      intro r Z i hi
      by_cases c : i ≤ q
      · exact ⟨_, canL_row c⟩
      · have : i = q + 1 := by omega
        subst this
        exact ⟨_, canL_out⟩
    by_cases c : i < q + 2
    · rw [getA i c]; exact h5 0 X i c
    · obtain ⟨i', rfl⟩ : ∃ i', i = q + 2 + i' := ⟨i - (q + 2), by omega⟩
      rw [getB]; exact h5 (q + 2) Y i' (by omega)
  · intro i B0 hB
    have hi := (Array.getElem?_eq_some_iff.1 hB).1
    rw [sz] at hi
    by_cases c : i < q + 2
    · rw [getA i c] at hB
      rw [sA i c]
      exact one (b := 0) h1 (fun j hj => by rw [Nat.zero_add, sA j (by omega)]; exact g1 o1 r1 j hj) (by omega) i B0 hB
    · obtain ⟨i', rfl⟩ : ∃ i', i = q + 2 + i' := ⟨i - (q + 2), by omega⟩
      rw [getB] at hB
      rw [sB]
      exact one (b := q + 2) h2 (fun j hj => by rw [sB]; exact g1 o2 r2 j hj) (by omega) i' B0 hB
  · intro m mσ r' hg hr2
    have hl2 := hr2.list
    obtain ⟨r'⟩ := r'
    have q1 := hg (q + 1) (by rw [sz]; omega)
    rw [sA (q + 1) (by omega), g2] at q1
    have q2 := hg (q + 2 + (q + 1)) (by rw [sz]; omega)
    rw [sB, g2] at q2
    cases hl2 with
    | cons a1 a2 => cases a2 with
      | cons b1 b2 => cases b2 with
        | nil => exact VRl.arr (.cons (vr_slice q1.symm a1) (.cons (vr_slice q2.symm b1) .nil))

end Go.Proofs.Ytclphdmaedpipaa
