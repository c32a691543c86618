/- NordAll: what functions of rows tell, moved into any memory that holds the rows and other plain blocks. -/
import Derived.Test.YtclphdmaedpipaaNordScaleL
namespace Go.Proofs.Ytclphdmaedpipaa
open Go
set_option linter.unusedVariables false
set_option linter.unusedSimpArgs false
set_option maxRecDepth 100000

/-- Rows, and other blocks behind them: where they stand. -/
def sgE (o r q : Nat) (p : Nat → Nat) (j : Nat) : Nat := if j < q + 2 then sgG o r q j else p (j - (q + 2))
inductive BackL (n : Nat) (σ : Nat → Nat) : List Value → List Value → Prop
  | nil : BackL n σ [] []
  | cons {a b : Value} {us vs : List Value} (h : BackV n σ a b) (t : BackL n σ us vs) : BackL n σ (a :: us) (b :: vs)
theorem BackL.vr {n : Nat} {σ : Nat → Nat} {m mσ : Mp} {us vs : List Value} (h : BackL n σ us vs) (hg : ∀ i : Nat, i < n → mσ[i]? = m[σ i]?) : ∀ {ys : List Value}, VRl m vs ys → VRl mσ us ys := by
  induction h with
  | nil => intro ys g; cases g; exact .nil
  | cons h t ih =>
    intro ys g
    cases g with
    | cons k1 k2 => exact .cons (h.vr hg k1) (ih k2)
structure PlE (H : AHeap) (E : List (Option ABlk)) (p : Nat → Nat) : Prop where
  som : ∀ i, i < E.length → ∃ B0, E[i]? = some (some B0)
  at' : ∀ (i : Nat) (B0 : ABlk), E[i]? = some (some B0) → B0.own = false ∧ PlainB B0 ∧ ∃ B, H[p i]? = some (some B) ∧ B.cells = B0.cells
theorem canE_size (q k : Nat) (X : Nat → Nat → Nat) (E : List (Option ABlk)) : (canH q k X ++ E.toArray).size = q + 2 + E.length := by simp [can_size]
theorem sgE_lo {o r q : Nat} {p : Nat → Nat} {j : Nat} (h : j < q + 2) : sgE o r q p j = sgG o r q j := if_pos h
theorem sgE_hi {o r q : Nat} {p : Nat → Nat} {j : Nat} : sgE o r q p (q + 2 + j) = p j := by
  unfold sgE
  rw [if_neg (by omega), Nat.add_sub_cancel_left]
theorem leafE {f : FuncId} {q k o r : Nat} {X : Nat → Nat → Nat} {H : AHeap} {E : List (Option ABlk)} {p : Nat → Nat} {ex0 ex : List Value} {v0 v : Value} {bs0 bs : List (Option ABlk)} (hin : InG H o r q k X) (hE : PlE H E p)
    (hex : BackL (q + 2 + E.length) (sgE o r q p) ex0 ex)
    (hr : Runs Try.prog f (Value.slice (some ⟨q + 1, 0, none⟩) (q + 1) (q + 1) :: ex0).toArray (canH q k X ++ E.toArray) v0 (canH q k X ++ E.toArray ++ bs0.toArray))
    (hv : RelV (relB (q + 2 + E.length) H.size (sgE o r q p)) v0 v) (hl : bs.length = bs0.length)
    (hb : ∀ (j : Nat) (B' : ABlk), bs[j]? = some (some B') → ∃ B, bs0[j]? = some (some B) ∧ B.own = true ∧ B'.own = true ∧ B'.elem = B.elem ∧ B'.esz = B.esz ∧ B'.cells.size = B.cells.size ∧
      ∀ (i : Nat) (u : Value), B'.cells[i]? = some u → ∃ u0, B.cells[i]? = some u0 ∧ RelV (relB (q + 2 + E.length) H.size (sgE o r q p)) u0 u) :
    Runs Try.prog f (Value.slice (some ⟨o, 0, none⟩) (q + 1) (q + 1) :: ex).toArray H v (H ++ bs.toArray) := by
  have hs0 := can_size q k X
  have hs := canE_size q k X E
  have s1 : ∀ j, j ≤ q → sgG o r q j = r + j := fun j hj => if_pos hj
  have s2 : sgG o r q (q + 1) = o := if_neg (by omega)
  have gA : ∀ i, i < q + 2 → (canH q k X ++ E.toArray)[i]? = (canH q k X)[i]? := fun i hi => Array.getElem?_append_left (by omega)
  have gB : ∀ i, (canH q k X ++ E.toArray)[q + 2 + i]? = E[i]? := fun i => by
    rw [Array.getElem?_append_right (by omega), hs0, Nat.add_sub_cancel_left, List.getElem?_toArray]
  refine Runs.relocR (H0 := canH q k X ++ E.toArray) (bs0 := bs0.toArray) (bs := bs.toArray) (sgE o r q p) hr ?_ ?_ ?_ ?_ (by rw [hs]; exact hv) (by simp [hl]) ?_
  · intro i hi
    rw [hs] at hi
    by_cases c2 : i < q + 2
    · rw [sgE_lo c2]
      by_cases c : i ≤ q
      · rw [s1 i c]
        obtain ⟨B, h1, _⟩ := hin.row i c
        exact (Array.getElem?_eq_some_iff.1 h1).1
      · have : i = q + 1 := by omega
        subst this
        rw [s2]
        obtain ⟨B, h1, _⟩ := hin.out
        exact (Array.getElem?_eq_some_iff.1 h1).1
    · obtain ⟨i', rfl⟩ : ∃ i', i = q + 2 + i' := ⟨i - (q + 2), by omega⟩
      rw [sgE_hi]
      obtain ⟨B0, h0⟩ := hE.som i' (by omega)
      obtain ⟨_, _, B, h1, _⟩ := hE.at' i' B0 h0
      exact (Array.getElem?_eq_some_iff.1 h1).1
  · intro i hi
    rw [hs] at hi
    by_cases c2 : i < q + 2
    · rw [gA i c2]
      by_cases c : i ≤ q
      · exact ⟨_, can_row c⟩
      · have : i = q + 1 := by omega
        subst this
        exact ⟨_, can_out⟩
    · obtain ⟨i', rfl⟩ : ∃ i', i = q + 2 + i' := ⟨i - (q + 2), by omega⟩
      rw [gB]
      exact hE.som i' (by omega)
  · intro i B0 hB
    have hi := (Array.getElem?_eq_some_iff.1 hB).1
    rw [hs] at hi
    by_cases c2 : i < q + 2
    · rw [gA i c2] at hB
      rw [sgE_lo c2]
      rcases can_cases hB with ⟨c, hB2⟩ | ⟨rfl, hB2⟩
      · obtain ⟨B, h1, h2⟩ := hin.row i c
        injection hB2 with hB2
        subst hB2
        exact ⟨rfl, B, by rw [s1 i c]; exact h1, by rw [h2], fun j u0 hu => ⟨u0, by rw [h2]; exact hu, .clos (fW_cl hu)⟩⟩
      · obtain ⟨B, h1, h2⟩ := hin.out
        injection hB2 with hB2
        subst hB2
        refine ⟨rfl, B, by rw [s2]; exact h1, by rw [h2]; simp, fun j u0 hu => ?_⟩
        obtain ⟨hj, rfl⟩ := sl_get hu
        refine ⟨.slice (some ⟨r + j, 0, none⟩) k k, ?_, ?_⟩
        · rw [h2, List.getElem?_toArray, List.getElem?_map, List.getElem?_range hj]
          rfl
        · have g := BackV.slice (n := (canH q k X ++ E.toArray).size) (σ := sgE o r q p) (0 + j) 0 k k (by rw [hs]; omega)
          have e0 : sgE o r q p (0 + j) = r + j := by rw [Nat.zero_add, sgE_lo (by omega)]; exact s1 j (by omega)
          rw [e0] at g
          exact g
    · obtain ⟨i', rfl⟩ : ∃ i', i = q + 2 + i' := ⟨i - (q + 2), by omega⟩
      rw [gB] at hB
      rw [sgE_hi]
      obtain ⟨h1, h2, B, h3, h4⟩ := hE.at' i' B0 hB
      exact ⟨h1, B, h3, by rw [h4], fun j u0 hu => ⟨u0, by rw [h4]; exact hu, .clos (h2 j u0 hu)⟩⟩
  · intro m mσ r' hg hr2
    have hl2 := hr2.list
    obtain ⟨r'⟩ := r'
    cases hl2 with
    | cons g1 g2 =>
      have hq := hg (q + 1) (by rw [hs]; omega)
      rw [sgE_lo (by omega), s2] at hq
      refine VRl.arr (.cons (vr_slice hq.symm g1) ?_)
      rw [hs] at hg
      exact hex.vr hg g2
  · intro j B' hB'
    rw [hs]
    have h5 : bs[j]? = some (some B') := by simpa using hB'
    obtain ⟨B, h1, h2⟩ := hb j B' h5
    exact ⟨B, by simpa using h1, h2⟩

end Go.Proofs.Ytclphdmaedpipaa
