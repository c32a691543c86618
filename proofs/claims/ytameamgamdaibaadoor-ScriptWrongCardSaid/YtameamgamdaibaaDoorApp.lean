/- One more behind a slice, whatever its length; reading and writing one of many. -/
import Derived.Test.YtameamgamdaibaaDoorTpW
import Derived.Test.YtameamgamdaibaaDoorGen
namespace Go.Proofs.YtameamgamdaibaaDoor
open Go
set_option linter.unusedVariables false
set_option linter.unusedSimpArgs false
set_option maxRecDepth 100000

/-- What a slice's type must be for one more of so many cells. -/
def growOk (P : Program) (t e : TypeId) (n : Nat) : Bool := match P.underlying t with
  | some (.slice e') => e' == e && (match P.info? e with
    | some i => (i.size == n) && decide (0 < n) && decide (i.bytes ≤ 1048576) && (match i.zero with
      | some z => z.cells.size == n
      | none => false)
    | none => false)
  | _ => false
section
variable {P : Program}
theorem growOk_ex {t e : TypeId} {n : Nat} (h : growOk P t e n = true) : P.underlying t = some (.slice e) ∧ ∃ i z, P.info? e = some i ∧ i.size = n ∧ 0 < n ∧ i.bytes ≤ 1048576 ∧ i.zero = some z ∧ z.cells.size = n := by
  unfold growOk at h
  split at h
  · rename_i e' hu
    simp only [Bool.and_eq_true, beq_iff_eq] at h
    obtain ⟨h1, h2⟩ := h
    subst h1
    refine ⟨hu, ?_⟩
    split at h2
    · rename_i i hi
      simp only [Bool.and_eq_true, beq_iff_eq, decide_eq_true_eq] at h2
      obtain ⟨⟨⟨g1, g2⟩, g3⟩, g4⟩ := h2
      split at g4
      · rename_i z hz
        exact ⟨i, z, hi, g1, g2, g3, hz, by simpa using g4⟩
      · cases g4
    · cases h2
  · cases h
/-- One more behind those that are there. -/
theorem app_at {α : Type} {f : α → List Value} {n : Nat} (hf : ∀ a, (f a).length = n) {t e : TypeId} (hg : growOk P t e n = true) {H : AHeap} {br bx k c c' : Nat} {B Bx : ABlk} {l : List α} {a : α}
    (hB : H[br]? = some (some B)) (ho : B.own = true) (hE : B.elem = e) (hZ : B.esz = n) (hc : B.cells = (l.flatMap f).toArray) (hk : l.length = k) (hx : H[bx]? = some (some Bx)) (hcx : Bx.cells = (f a).toArray) (h1 : (f a).all oneC = true) (hlim : k + 1 ≤ 16777216) :
    appendV P H t t (.slice (some ⟨br, 0, none⟩) k c) (.slice (some ⟨bx, 0, none⟩) 1 c') = some (.slice (some ⟨H.size, 0, none⟩) (k + 1) (k + 1), (H.setIfInBounds br none).push (some ⟨((l ++ [a]).flatMap f).toArray, e, n, true⟩)) := by
  obtain ⟨hu, i, z, hi, g1, g2, g3, hz, g4⟩ := growOk_ex hg
  have hcut : cut Bx.cells 0 (1 * n) = (f a).toArray := by
    unfold cut
    rw [hcx, List.drop_zero, Nat.one_mul, List.toList_toArray, List.take_of_length_le (by rw [hf]; exact Nat.le_refl _)]
  have hnews : newsV H i.size (.slice (some ⟨bx, 0, none⟩) 1 c') = some (1, (f a).toArray) := by
    unfold newsV
    simp only [hx, g1]
    rw [if_pos]
    · rw [hcut]
    · rw [hcut, Bool.and_eq_true]
      refine ⟨decide_eq_true ?_, h1⟩
      rw [hcx, List.size_toArray, hf]
      omega
  unfold appendV
  simp only [hu, hi, hz]
  rw [if_pos]
  · simp only [hnews, hB]
    rw [if_pos]
    · rw [hc, List.flatMap_append, List.flatMap_cons, List.flatMap_nil, List.append_nil, ← hE, ← hZ, ← ho]
    · simp only [ho, hE, hZ, g1, Bool.true_and, beq_self_eq_true, Bool.and_eq_true, beq_iff_eq, decide_eq_true_eq]
      refine ⟨?_, hlim⟩
      rw [hc, List.size_toArray, flat_len f n hf, hk]
  · simp only [beq_self_eq_true, Bool.true_and, Bool.and_eq_true, beq_iff_eq, decide_eq_true_eq]
    exact ⟨⟨by omega, by omega⟩, g3⟩
/-- The first. -/
theorem app_nil {α : Type} {f : α → List Value} {n : Nat} (hf : ∀ a, (f a).length = n) {t e : TypeId} (hg : growOk P t e n = true) {H : AHeap} {bx c' : Nat} {Bx : ABlk} {a : α} (hx : H[bx]? = some (some Bx)) (hcx : Bx.cells = (f a).toArray) (h1 : (f a).all oneC = true) :
    appendV P H t t (.slice none 0 0) (.slice (some ⟨bx, 0, none⟩) 1 c') = some (.slice (some ⟨H.size, 0, none⟩) 1 1, H.push (some ⟨(f a).toArray, e, n, true⟩)) := by
  obtain ⟨hu, i, z, hi, g1, g2, g3, hz, g4⟩ := growOk_ex hg
  have hcut : cut Bx.cells 0 (1 * n) = (f a).toArray := by
    unfold cut
    rw [hcx, List.drop_zero, Nat.one_mul, List.toList_toArray, List.take_of_length_le (by rw [hf]; exact Nat.le_refl _)]
  have hnews : newsV H i.size (.slice (some ⟨bx, 0, none⟩) 1 c') = some (1, (f a).toArray) := by
    unfold newsV
    simp only [hx, g1]
    rw [if_pos]
    · rw [hcut]
    · rw [hcut, Bool.and_eq_true]
      refine ⟨decide_eq_true ?_, h1⟩
      rw [hcx, List.size_toArray, hf]
      omega
  unfold appendV
  simp only [hu, hi, hz]
  rw [if_pos]
  · simp only [hnews]
    rw [if_neg (by decide), if_pos (by decide), g1]
  · simp only [beq_self_eq_true, Bool.true_and, Bool.and_eq_true, beq_iff_eq, decide_eq_true_eq]
    exact ⟨⟨by omega, by omega⟩, g3⟩
end
theorem getD_at {α : Type} {l : List α} {i : Nat} (d : α) (h : i < l.length) : l[i]? = some (l.getD i d) := by
  rw [List.getElem?_eq_getElem h, List.getD_eq_getElem?_getD, List.getElem?_eq_getElem h]; rfl

end Go.Proofs.YtameamgamdaibaaDoor
