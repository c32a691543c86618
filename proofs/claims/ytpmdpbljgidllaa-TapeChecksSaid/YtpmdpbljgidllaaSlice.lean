/- A slice of ints that is handed in: how it stands here, and how a law's contract becomes its walk. -/
import Derived.Test.YtpmdpbljgidllaaWithin
namespace Go.Proofs.Ytpmdpbljgidllaa
open Go
open Go.RowKit
set_option linter.unusedVariables false

/-- A slice of ints handed in, as it stands here: nothing; or all of block 0. -/
def arg0 (zs : List Int) : Value :=
  match zs with
  | [] => .slice none 0 1
  | z :: r => .slice (some ⟨0, 0, none⟩) (z :: r).length (z :: r).length
def heap0 (zs : List Int) : AHeap :=
  match zs with
  | [] => #[]
  | z :: r => #[some ⟨((z :: r).map (Value.int .i64)).toArray, 3, 1, false⟩]

theorem cell_open {w : World} {x : Addr} {v : Value} (h : w.cell? x = some v) : ∃ c e fr, w.heap[x.block]? = some (.cells c e fr) ∧ x.spot = none ∧ c[x.off]? = some v := by
  unfold World.cell? at h
  split at h
  · rename_i c e fr hc
    split at h
    · cases h
    · rename_i hs
      exact ⟨c, e, fr, hc, by simpa using hs, h⟩
  · cases h

theorem walk_slice {f : FuncId} (mk : Value → Array Value) (hmk : ∀ m v v', VR m v v' → VRs m (mk v) (mk v')) {w : World} {a : Option Addr} {len cap : Nat} {z : List Int}
    (hz : (a = none ∧ len = 0 ∧ cap = 0 ∧ z = []) ∨ ∃ x, a = some x ∧ len ≤ cap ∧ cap ≤ maxLen ∧ z.length = cap ∧ (∀ i, i < z.length → w.cell? (x.add i) = some (.int .i64 (z.getD i 0))) ∧ ∀ n ∈ z, (Lit.int .i64 n).wf = true)
    (h : Tells f (mk (arg0 (z.take len))) (heap0 (z.take len)) (.bool true)) :
    Calls Try.prog f (mk (.slice a len cap)) w fun e w' => e = .returned (.bool true) ∧ Below w.heap.size w w' := by
  have key : ∃ m, HR (heap0 (z.take len)) m w ∧ VR m (arg0 (z.take len)) (.slice a len cap) := by
    rcases hz with ⟨rfl, rfl, rfl, rfl⟩ | ⟨x, rfl, hl, hm, hzl, hc, _⟩
    · exact ⟨#[], .empty w, .loose _ _⟩
    · have htl : (z.take len).length = len := by rw [List.length_take]; omega
      have hget : ∀ i, i < len → (z.take len)[i]? = some (z.getD i 0) := by
        intro i hi
        rw [List.getElem?_take_of_lt hi, List.getD_eq_getElem?_getD, List.getElem?_eq_getElem (by omega)]
        rfl
      cases hzs : z.take len with
      | nil =>
        rw [hzs] at htl
        have : len = 0 := by simpa using htl.symm
        subst this
        exact ⟨#[], .empty w, .loose _ _⟩
      | cons y r =>
        rw [hzs] at htl hget
        have hpos : 0 < len := by rw [← htl]; simp
        have h0 := hc 0 (by omega)
        have hx0 : x.add 0 = x := by simp [Addr.add]
        rw [hx0] at h0
        obtain ⟨c, e, fr, h1, h2, h3⟩ := cell_open h0
        have hci : ∀ i, i < len → c[x.off + i]? = some (.int .i64 (z.getD i 0)) := by
          intro i hi
          by_cases hi0 : i = 0
          · subst hi0; simpa using h3
          · obtain ⟨c2, e2, fr2, g1, g2, g3⟩ := cell_open (hc i (by omega))
            have hb : (x.add i).block = x.block := by simp [Addr.add, hi0]
            have ho : (x.add i).off = x.off + i := by simp [Addr.add, hi0]
            rw [hb, h1] at g1
            cases g1
            rw [ho] at g3
            exact g3
        have hxx : x = ⟨x.block, x.off, none⟩ := by cases x; simp at h2; simp [h2]
        refine ⟨#[⟨x.block, x.off, c.size, 1, false, e, true⟩], ⟨rfl, ?_, ?_, ?_⟩, ?_⟩
        · intro b l hl
          have hb : b = 0 := by
            rcases Nat.eq_zero_or_pos b with h | h
            · exact h
            · rw [Array.getElem?_eq_none (by simp; omega)] at hl; cases hl
          subst hb
          simp at hl
          subst hl
          exact fun _ => (Array.getElem?_eq_some_iff.1 h1).1
        · intro b B hB
          have hb : b = 0 := by
            rcases Nat.eq_zero_or_pos b with h | h
            · exact h
            · unfold heap0 at hB; rw [Array.getElem?_eq_none (by simp; omega)] at hB; cases hB
          subst hb
          simp [heap0] at hB
          subst hB
          refine ⟨_, c, fr, rfl, h1, rfl, (by intro h; cases h), (by intro h; cases h), ?_, ?_, rfl⟩
          · have := hci (len - 1) (by omega)
            have := (Array.getElem?_eq_some_iff.1 this).1
            simp at htl ⊢
            omega
          · intro i v hv
            have hi : i < len := by
              have := (Array.getElem?_eq_some_iff.1 hv).1
              simp at this htl
              omega
            have h5 := hget i hi
            have hv' : v = .int .i64 (z.getD i 0) := by
              have h6 : ((y :: r).map (Value.int .i64))[i]? = some (.int .i64 (z.getD i 0)) := by rw [List.getElem?_map, h5]; rfl
              have h7 : ((y :: r).map (Value.int .i64))[i]? = some v := by simpa using hv
              rw [h6] at h7
              injection h7 with h7
              exact h7.symm
            subst hv'
            exact ⟨_, hci i hi, .int _ _⟩
        · intro b b' B B' l l' hB _ _ _ hown _
          have hb : b = 0 := by
            rcases Nat.eq_zero_or_pos b with h | h
            · exact h
            · unfold heap0 at hB; rw [Array.getElem?_eq_none (by simp; omega)] at hB; cases hB
          subst hb
          simp [heap0] at hB
          subst hB
          cases hown
        · unfold arg0
          simp only
          rw [htl, hxx]
          refine .slice (a' := ⟨x.block, x.off, none⟩) ?_ hl fun l hl ho _ => ?_
          · simp [tr]
          · simp at hl
            subst hl
            cases ho
  obtain ⟨m, hm, hv⟩ := key
  obtain ⟨H', hr⟩ := h
  obtain ⟨_, h2⟩ := hr m w _ hm (hmk m _ _ hv)
  refine h2.mono ?_
  rintro e w' ⟨v', m', he, hv', _, hs⟩
  cases hv'
  refine ⟨he, hs.os, hs.tape, hs.output, hs.size, fun g hg => hs.keep g hg ?_⟩
  rintro ⟨b, B, l, hb, hown, _⟩
  unfold heap0 at hb
  split at hb
  · simp at hb
  · rename_i y r hzs
    have hb0 : b = 0 := by
      rcases Nat.eq_zero_or_pos b with h | h
      · exact h
      · rw [Array.getElem?_eq_none (by simp; omega)] at hb; cases hb
    subst hb0
    simp at hb
    subst hb
    cases hown

end Go.Proofs.Ytpmdpbljgidllaa
