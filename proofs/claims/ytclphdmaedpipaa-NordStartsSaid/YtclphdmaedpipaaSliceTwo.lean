/- Two slices of ints that are handed in: how they stand here, and how a law's contract becomes its walk. -/
import Derived.Test.YtclphdmaedpipaaHanded
import Derived.Below
namespace Go.Proofs.Ytclphdmaedpipaa
open Go
open Go.RowKit
set_option linter.unusedVariables false

def iBlk (zs : List Int) : ABlk := ⟨(zs.map (Value.int .i64)).toArray, 3, 1, false⟩

theorem slice_key {w : World} {a : Option Addr} {len cap : Nat} {z : List Int}
    (hz : (a = none ∧ len = 0 ∧ cap = 0 ∧ z = []) ∨ ∃ x, a = some x ∧ len ≤ cap ∧ cap ≤ maxLen ∧ z.length = cap ∧ (∀ i, i < z.length → w.cell? (x.add i) = some (.int .i64 (z.getD i 0))) ∧ ∀ n ∈ z, (Lit.int .i64 n).wf = true) :
    (z.take len = [] ∧ ∀ m : Mp, VR m (.slice none 0 1) (.slice a len cap)) ∨
    (z.take len ≠ [] ∧ ∃ l cs fr, l.blk < w.heap.size ∧ (∀ m : Mp, BR m w (iBlk (z.take len)) l cs fr) ∧
      ∀ (m : Mp) (b : Nat), m[b]? = some l → VR m (.slice (some ⟨b, 0, none⟩) (z.take len).length (z.take len).length) (.slice a len cap)) := by
  rcases hz with ⟨rfl, rfl, rfl, rfl⟩ | ⟨x, rfl, hl, hm, hzl, hc, _⟩
  · exact .inl ⟨rfl, fun m => .loose _ _⟩
  · have htl : (z.take len).length = len := by rw [List.length_take]; omega
    have hget : ∀ i, i < len → (z.take len)[i]? = some (z.getD i 0) := by
      intro i hi
      rw [List.getElem?_take_of_lt hi, List.getD_eq_getElem?_getD, List.getElem?_eq_getElem (by omega)]
      rfl
    by_cases hlen : len = 0
    · subst hlen
      exact .inl ⟨by simp, fun m => .loose _ _⟩
    · refine .inr ⟨fun he => by rw [he] at htl; simp at htl; omega, ?_⟩
      have h0 := hc 0 (by omega)
      have hx0 : x.add 0 = x := by simp [Addr.add]
      rw [hx0] at h0
      obtain ⟨c, e, fr, h1, h2, h3⟩ := cell_open h0
      have hci : ∀ i, i < len → c[x.off + i]? = some (.int .i64 (z.getD i 0)) := by
        intro i hi
        by_cases hi0 : i = 0
        · subst hi0; simpa using h3
        · obtain ⟨c2, e2, fr2, g1, g2, g3⟩ := cell_open (hc i (by omega))
          have hb : (x.add i).block = x.block := by simp [Addr.add, hi0]
          have ho : (x.add i).off = x.off + i := by simp [Addr.add, hi0]
          rw [hb, h1] at g1
          cases g1
          rw [ho] at g3
          exact g3
      have hxx : x = ⟨x.block, x.off, none⟩ := by cases x; simp at h2; simp [h2]
      refine ⟨⟨x.block, x.off, c.size, 1, false, e, true⟩, c, fr, (Array.getElem?_eq_some_iff.1 h1).1, fun m => ⟨h1, rfl, (by intro h; cases h), (by intro h; cases h), ?_, ?_, rfl⟩, ?_⟩
      · have := hci (len - 1) (by omega)
        have := (Array.getElem?_eq_some_iff.1 this).1
        simp only [iBlk, List.size_toArray, List.length_map, htl]
        omega
      · intro i v hv
        have hi : i < len := by
          have := (Array.getElem?_eq_some_iff.1 hv).1
          simp only [iBlk, List.size_toArray, List.length_map, htl] at this
          exact this
        have h5 := hget i hi
        have hv' : v = .int .i64 (z.getD i 0) := by
          have h6 : ((z.take len).map (Value.int .i64))[i]? = some (.int .i64 (z.getD i 0)) := by rw [List.getElem?_map, h5]; rfl
          have h7 : ((z.take len).map (Value.int .i64))[i]? = some v := by simpa [iBlk] using hv
          rw [h6] at h7
          injection h7 with h7
          exact h7.symm
        subst hv'
        exact ⟨_, hci i hi, .int _ _⟩
      · intro m b hb
        rw [htl, hxx]
        refine .slice (a' := ⟨x.block, x.off, none⟩) ?_ hl fun l hl ho _ => ?_
        · unfold tr
          simp only
          rw [hb]
          rfl
        · rw [hb] at hl
          injection hl with hl
          subst hl
          cases ho

theorem walk_fin {f : FuncId} {H : AHeap} {m : Mp} {w : World} {A R : Array Value} (hr : HR H m w) (hro : ∀ (b : Nat) (B : ABlk), H[b]? = some (some B) → B.own = false) (hv : VRs m A R) (h : Tells f A H (.bool true)) :
    Calls Try.prog f R w fun e w' => e = .returned (.bool true) ∧ Below w.heap.size w w' := by
  obtain ⟨H', h⟩ := h
  obtain ⟨_, h2⟩ := h m w _ hr hv
  refine h2.mono ?_
  rintro e w' ⟨v', m', he, hv', _, hs⟩
  cases hv'
  refine ⟨he, hs.os, hs.tape, hs.output, hs.size, fun g hg => hs.keep g hg ?_⟩
  rintro ⟨b, B, l, hb, hown, _⟩
  rw [hro b B hb] at hown
  cases hown

theorem hr_of {w : World} {bs : List ABlk} {ls : List Loc} (hl : ls.length = bs.length) (hlt : ∀ l ∈ ls, l.blk < w.heap.size)
    (hb : ∀ (i : Nat) (B : ABlk) (l : Loc), bs[i]? = some B → ls[i]? = some l → B.own = false ∧ ∃ cs fr, ∀ m : Mp, BR m w B l cs fr) : HR (bs.map some).toArray ls.toArray w := by
  refine ⟨by simp [hl], ?_, ?_, ?_⟩
  · intro b l h
    exact fun _ => hlt l (List.mem_of_getElem? (by simpa using h))
  · intro b B h
    have h1 : bs[b]? = some B := by simpa using h
    have h2 : b < ls.length := by rw [hl]; exact (List.getElem?_eq_some_iff.1 h1).1
    obtain ⟨_, cs, fr, h3⟩ := hb b B ls[b] h1 (List.getElem?_eq_getElem h2)
    exact ⟨ls[b], cs, fr, by simp [h2], h3 _⟩
  · intro b b' B B' l l' h _ h3 _ ho _
    have h1 : bs[b]? = some B := by simpa using h
    have := (hb b B l h1 (by simpa using h3)).1
    rw [this] at ho
    cases ho

theorem walk_two {f : FuncId} (mk : Value → Value → Array Value) (hmk : ∀ m v v' u u', VR m v v' → VR m u u' → VRs m (mk v u) (mk v' u')) {w : World} {a a2 : Option Addr} {len cap len2 cap2 : Nat} {z z2 : List Int}
    (hz : (a = none ∧ len = 0 ∧ cap = 0 ∧ z = []) ∨ ∃ x, a = some x ∧ len ≤ cap ∧ cap ≤ maxLen ∧ z.length = cap ∧ (∀ i, i < z.length → w.cell? (x.add i) = some (.int .i64 (z.getD i 0))) ∧ ∀ n ∈ z, (Lit.int .i64 n).wf = true)
    (hz2 : (a2 = none ∧ len2 = 0 ∧ cap2 = 0 ∧ z2 = []) ∨ ∃ x, a2 = some x ∧ len2 ≤ cap2 ∧ cap2 ≤ maxLen ∧ z2.length = cap2 ∧ (∀ i, i < z2.length → w.cell? (x.add i) = some (.int .i64 (z2.getD i 0))) ∧ ∀ n ∈ z2, (Lit.int .i64 n).wf = true)
    (h : ∀ (H : AHeap) (va vb : Value), H.size ≤ 2 → Handed H (z.take len) va → Handed H (z2.take len2) vb → Tells f (mk va vb) H (.bool true)) :
    Calls Try.prog f (mk (.slice a len cap) (.slice a2 len2 cap2)) w fun e w' => e = .returned (.bool true) ∧ Below w.heap.size w w' := by
  rcases slice_key hz with ⟨e1, v1⟩ | ⟨n1, l1, c1, fr1, lt1, br1, v1⟩ <;> rcases slice_key hz2 with ⟨e2, v2⟩ | ⟨n2, l2, c2, fr2, lt2, br2, v2⟩
  · exact walk_fin (H := #[]) (m := #[]) (.empty w) (fun b B hb => by simp at hb) (hmk _ _ _ _ _ (v1 _) (v2 _)) (h #[] _ _ (by simp) (.inl ⟨e1, rfl⟩) (.inl ⟨e2, rfl⟩))
  · refine walk_fin (H := ([iBlk (z2.take len2)].map some).toArray) (m := [l2].toArray) (hr_of rfl (by simpa using lt2) ?_) ?_ (hmk _ _ _ _ _ (v1 _) (v2 _ 0 rfl)) (h _ _ _ (by simp) (.inl ⟨e1, rfl⟩) (.inr ⟨0, _, n2, rfl, rfl, rfl⟩))
    · intro i B l hB hl
      match i, hB, hl with
      | 0, hB, hl => cases hB; cases hl; exact ⟨rfl, c2, fr2, br2⟩
    · intro b B hb
      match b, hb with
      | 0, hb => cases hb; rfl
  · refine walk_fin (H := ([iBlk (z.take len)].map some).toArray) (m := [l1].toArray) (hr_of rfl (by simpa using lt1) ?_) ?_ (hmk _ _ _ _ _ (v1 _ 0 rfl) (v2 _)) (h _ _ _ (by simp) (.inr ⟨0, _, n1, rfl, rfl, rfl⟩) (.inl ⟨e2, rfl⟩))
    · intro i B l hB hl
      match i, hB, hl with
      | 0, hB, hl => cases hB; cases hl; exact ⟨rfl, c1, fr1, br1⟩
    · intro b B hb
      match b, hb with
      | 0, hb => cases hb; rfl
  · refine walk_fin (H := ([iBlk (z.take len), iBlk (z2.take len2)].map some).toArray) (m := [l1, l2].toArray) (hr_of rfl (by simp [lt1, lt2]) ?_) ?_ (hmk _ _ _ _ _ (v1 _ 0 rfl) (v2 _ 1 rfl)) (h _ _ _ (by simp) (.inr ⟨0, _, n1, rfl, rfl, rfl⟩) (.inr ⟨1, _, n2, rfl, rfl, rfl⟩))
    · intro i B l hB hl
      match i, hB, hl with
      | 0, hB, hl => cases hB; cases hl; exact ⟨rfl, c1, fr1, br1⟩
      | 1, hB, hl => cases hB; cases hl; exact ⟨rfl, c2, fr2, br2⟩
    · intro b B hb
      match b, hb with
      | 0, hb => cases hb; rfl
      | 1, hb => cases hb; rfl

end Go.Proofs.Ytclphdmaedpipaa
