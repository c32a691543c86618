/- Slices of ints that are handed in, each with a place of its own, be it nothing: how a law's contract becomes its walk. -/
import Derived.Test.YtclphdmaedpipaaSliceTwo
namespace Go.Proofs.Ytclphdmaedpipaa
open Go
open Go.RowKit
set_option linter.unusedVariables false

abbrev SlG (w : World) (a : Option Addr) (len cap : Nat) (z : List Int) : Prop :=
  (a = none ∧ len = 0 ∧ cap = 0 ∧ z = []) ∨ ∃ x, a = some x ∧ len ≤ cap ∧ cap ≤ maxLen ∧ z.length = cap ∧ (∀ i, i < z.length → w.cell? (x.add i) = some (.int .i64 (z.getD i 0))) ∧ ∀ n ∈ z, (Lit.int .i64 n).wf = true
/-- A place for it. -/
structure PadOK (w : World) (ob : Option ABlk) (l : Loc) : Prop where
  old : l.live = true → l.blk < w.heap.size
  blk : ∀ B, ob = some B → B.own = false ∧ ∃ cs fr, ∀ m : Mp, BR m w B l cs fr

theorem slice_pad {w : World} {a : Option Addr} {len cap : Nat} {z : List Int} (hz : SlG w a len cap z) : ∃ (ob : Option ABlk) (l : Loc), PadOK w ob l ∧
    ∀ i : Nat, ∃ va, (∀ m : Mp, m[i]? = some l → VR m va (.slice a len cap)) ∧ ∀ H : AHeap, H[i]? = some ob → Handed H (z.take len) va := by
  rcases slice_key hz with ⟨e1, v1⟩ | ⟨n1, l1, c1, fr1, lt1, br1, v1⟩
  · exact ⟨none, deadLoc, ⟨(fun h => by cases h), (fun B h => by cases h)⟩, fun i => ⟨_, fun m _ => v1 m, fun H _ => .inl ⟨e1, rfl⟩⟩⟩
  · refine ⟨some (iBlk (z.take len)), l1, ⟨fun _ => lt1, fun B h => ?_⟩, fun i => ⟨_, fun m hm => v1 m i hm, fun H hH => .inr ⟨i, _, n1, rfl, hH, rfl⟩⟩⟩
    injection h with h
    subst h
    exact ⟨rfl, c1, fr1, br1⟩

theorem hr_pad {w : World} {obs : List (Option ABlk)} {ls : List Loc} (hl : ls.length = obs.length) (h : ∀ (i : Nat) (ob : Option ABlk) (l : Loc), obs[i]? = some ob → ls[i]? = some l → PadOK w ob l) : HR obs.toArray ls.toArray w := by
  have get : ∀ {i : Nat} {l : Loc}, ls[i]? = some l → ∃ ob, obs[i]? = some ob := by
    intro i l h
    have : i < obs.length := by rw [← hl]; exact (List.getElem?_eq_some_iff.1 h).1
    exact ⟨_, List.getElem?_eq_getElem this⟩
  refine ⟨by simp [hl], ?_, ?_, ?_⟩
  · intro b l hb
    have h1 : ls[b]? = some l := by simpa using hb
    obtain ⟨ob, h2⟩ := get h1
    exact (h b ob l h2 h1).old
  · intro b B hb
    have h1 : obs[b]? = some (some B) := by simpa using hb
    have h2 : b < ls.length := by rw [hl]; exact (List.getElem?_eq_some_iff.1 h1).1
    obtain ⟨_, cs, fr, h3⟩ := (h b _ ls[b] h1 (List.getElem?_eq_getElem h2)).blk B rfl
    exact ⟨ls[b], cs, fr, by simp [h2], h3 _⟩
  · intro b b' B B' l l' hb _ h3 _ ho _
    have h1 : obs[b]? = some (some B) := by simpa using hb
    have := ((h b _ l h1 (by simpa using h3)).blk B rfl).1
    rw [this] at ho
    cases ho

theorem frozen_pad {w : World} {obs : List (Option ABlk)} {ls : List Loc} (hl : ls.length = obs.length) (h : ∀ (i : Nat) (ob : Option ABlk) (l : Loc), obs[i]? = some ob → ls[i]? = some l → PadOK w ob l) : ∀ (b : Nat) (B : ABlk), obs.toArray[b]? = some (some B) → B.own = false := by
  intro b B hb
  have h1 : obs[b]? = some (some B) := by simpa using hb
  have h2 : b < ls.length := by rw [hl]; exact (List.getElem?_eq_some_iff.1 h1).1
  exact ((h b _ ls[b] h1 (List.getElem?_eq_getElem h2)).blk B rfl).1

theorem walk1 {f : FuncId} (mk : Value → Array Value) (hmk : ∀ m v v', VR m v v' → VRs m (mk v) (mk v')) {w : World} {a : Option Addr} {len cap : Nat} {z : List Int} (hz : SlG w a len cap z)
    (h : ∀ (o : Option ABlk) (va : Value), Handed #[o] (z.take len) va → Tells f (mk va) #[o] (.bool true)) :
    Calls Try.prog f (mk (.slice a len cap)) w fun e w' => e = .returned (.bool true) ∧ Below w.heap.size w w' := by
  obtain ⟨o1, l1, p1, g1⟩ := slice_pad hz
  obtain ⟨v1, r1, s1⟩ := g1 0
  have hp : ∀ (i : Nat) (ob : Option ABlk) (l : Loc), [o1][i]? = some ob → [l1][i]? = some l → PadOK w ob l := by
    intro i ob l hi hl
    match i, hi, hl with
    | 0, hi, hl => cases hi; cases hl; exact p1
  exact walk_fin (H := [o1].toArray) (m := [l1].toArray) (hr_pad rfl hp) (frozen_pad rfl hp) (hmk _ _ _ (r1 _ rfl)) (h o1 v1 (s1 _ rfl))

theorem walk2 {f : FuncId} (mk : Value → Value → Array Value) (hmk : ∀ m v v' u u', VR m v v' → VR m u u' → VRs m (mk v u) (mk v' u')) {w : World} {a a2 : Option Addr} {len cap len2 cap2 : Nat} {z z2 : List Int} (hz : SlG w a len cap z) (hz2 : SlG w a2 len2 cap2 z2)
    (h : ∀ (o o2 : Option ABlk) (va vb : Value), Handed #[o, o2] (z.take len) va → Handed #[o, o2] (z2.take len2) vb → Tells f (mk va vb) #[o, o2] (.bool true)) :
    Calls Try.prog f (mk (.slice a len cap) (.slice a2 len2 cap2)) w fun e w' => e = .returned (.bool true) ∧ Below w.heap.size w w' := by
  obtain ⟨o1, l1, p1, g1⟩ := slice_pad hz
  obtain ⟨o2, l2, p2, g2⟩ := slice_pad hz2
  obtain ⟨v1, r1, s1⟩ := g1 0
  obtain ⟨v2, r2, s2⟩ := g2 1
  have hp : ∀ (i : Nat) (ob : Option ABlk) (l : Loc), [o1, o2][i]? = some ob → [l1, l2][i]? = some l → PadOK w ob l := by
    intro i ob l hi hl
    match i, hi, hl with
    | 0, hi, hl => cases hi; cases hl; exact p1
    | 1, hi, hl => cases hi; cases hl; exact p2
  exact walk_fin (H := [o1, o2].toArray) (m := [l1, l2].toArray) (hr_pad rfl hp) (frozen_pad rfl hp) (hmk _ _ _ _ _ (r1 _ rfl) (r2 _ rfl)) (h o1 o2 v1 v2 (s1 _ rfl) (s2 _ rfl))

theorem walk3 {f : FuncId} (mk : Value → Value → Value → Array Value) (hmk : ∀ m v v' u u' x x', VR m v v' → VR m u u' → VR m x x' → VRs m (mk v u x) (mk v' u' x')) {w : World} {a a2 a3 : Option Addr} {len cap len2 cap2 len3 cap3 : Nat} {z z2 z3 : List Int} (hz : SlG w a len cap z) (hz2 : SlG w a2 len2 cap2 z2) (hz3 : SlG w a3 len3 cap3 z3)
    (h : ∀ (o o2 o3 : Option ABlk) (va vb vc : Value), Handed #[o, o2, o3] (z.take len) va → Handed #[o, o2, o3] (z2.take len2) vb → Handed #[o, o2, o3] (z3.take len3) vc → Tells f (mk va vb vc) #[o, o2, o3] (.bool true)) :
    Calls Try.prog f (mk (.slice a len cap) (.slice a2 len2 cap2) (.slice a3 len3 cap3)) w fun e w' => e = .returned (.bool true) ∧ Below w.heap.size w w' := by
  obtain ⟨o1, l1, p1, g1⟩ := slice_pad hz
  obtain ⟨o2, l2, p2, g2⟩ := slice_pad hz2
  obtain ⟨o3, l3, p3, g3⟩ := slice_pad hz3
  obtain ⟨v1, r1, s1⟩ := g1 0
  obtain ⟨v2, r2, s2⟩ := g2 1
  obtain ⟨v3, r3, s3⟩ := g3 2
  have hp : ∀ (i : Nat) (ob : Option ABlk) (l : Loc), [o1, o2, o3][i]? = some ob → [l1, l2, l3][i]? = some l → PadOK w ob l := by
    intro i ob l hi hl
    match i, hi, hl with
    | 0, hi, hl => cases hi; cases hl; exact p1
    | 1, hi, hl => cases hi; cases hl; exact p2
    | 2, hi, hl => cases hi; cases hl; exact p3
  exact walk_fin (H := [o1, o2, o3].toArray) (m := [l1, l2, l3].toArray) (hr_pad rfl hp) (frozen_pad rfl hp) (hmk _ _ _ _ _ _ _ (r1 _ rfl) (r2 _ rfl) (r3 _ rfl)) (h o1 o2 o3 v1 v2 v3 (s1 _ rfl) (s2 _ rfl) (s3 _ rfl))

end Go.Proofs.Ytclphdmaedpipaa
