/- What writes to memory, new slices, come to, where questions were asked. -/
import Derived.Test.YtameamgamdaibaaDoorTpC
namespace Go.Proofs.YtameamgamdaibaaDoor
open Go
set_option linter.unusedVariables false
set_option linter.unusedSimpArgs false
set_option maxRecDepth 100000

theorem putL_list : ∀ (vs : List Value) (cs : Array Value) (o : Nat), o + vs.length ≤ cs.size → (putL cs o vs).toList = cs.toList.take o ++ vs ++ cs.toList.drop (o + vs.length)
  | [], cs, o, h => by simp [putL]
  | v :: vs, cs, o, h => by
    simp only [List.length_cons] at h
    rw [putL, putL_list vs _ (o + 1) (by simp; omega)]
    have ho : o < cs.toList.length := by simp; omega
    rw [Array.toList_setIfInBounds, List.set_eq_take_append_cons_drop, if_pos ho]
    have hl : (cs.toList.take o).length = o := by rw [List.length_take]; omega
    rw [List.take_append, List.drop_append, hl]
    rw [show o + 1 - o = 1 by omega, List.take_of_length_le (by omega : (cs.toList.take o).length ≤ o + 1)]
    rw [List.drop_of_length_le (by omega : (cs.toList.take o).length ≤ o + 1 + vs.length), List.nil_append]
    rw [show o + 1 + vs.length - o = vs.length + 1 by omega, List.drop_succ_cons, List.drop_drop, List.length_cons]
    rw [show o + 1 + vs.length = o + (vs.length + 1) by omega]
    simp
theorem flat_take {α : Type} (f : α → List Value) (n : Nat) (hf : ∀ a, (f a).length = n) : ∀ (l : List α) (k : Nat), k ≤ l.length → (l.flatMap f).take (k * n) = (l.take k).flatMap f
  | l, 0, _ => by simp
  | [], k + 1, h => by simp at h
  | a :: l, k + 1, h => by
    simp only [List.length_cons] at h
    rw [List.flatMap_cons, List.take_append, List.take_succ_cons, List.flatMap_cons, hf, show (k + 1) * n = n + k * n by rw [Nat.add_mul, Nat.one_mul, Nat.add_comm]]
    rw [List.take_of_length_le (by rw [hf]; omega), Nat.add_sub_cancel_left, flat_take f n hf l k (by omega)]
theorem flat_drop {α : Type} (f : α → List Value) (n : Nat) (hf : ∀ a, (f a).length = n) : ∀ (l : List α) (k : Nat), k ≤ l.length → (l.flatMap f).drop (k * n) = (l.drop k).flatMap f
  | l, 0, _ => by simp
  | [], k + 1, h => by simp at h
  | a :: l, k + 1, h => by
    simp only [List.length_cons] at h
    rw [List.flatMap_cons, List.drop_append, List.drop_succ_cons, hf, show (k + 1) * n = n + k * n by rw [Nat.add_mul, Nat.one_mul, Nat.add_comm]]
    rw [List.drop_of_length_le (by rw [hf]; omega), Nat.add_sub_cancel_left, List.nil_append, flat_drop f n hf l k (by omega)]
theorem flat_put {α : Type} (f : α → List Value) (n : Nat) (hf : ∀ a, (f a).length = n) (l : List α) (k : Nat) (a : α) (hk : k < l.length) : putL (l.flatMap f).toArray (k * n) (f a) = ((l.set k a).flatMap f).toArray := by
  apply Array.ext'
  have hb : (k + 1) * n ≤ l.length * n := Nat.mul_le_mul_right n hk
  rw [Nat.add_mul, Nat.one_mul] at hb
  rw [putL_list _ _ _ (by rw [hf, List.size_toArray, flat_len f n hf]; exact hb), List.toList_toArray, List.toList_toArray, hf, flat_take f n hf l k (by omega)]
  rw [show k * n + n = (k + 1) * n by rw [Nat.add_mul, Nat.one_mul], flat_drop f n hf l (k + 1) (by omega)]
  rw [List.set_eq_take_append_cons_drop, if_pos hk, List.flatMap_append, List.flatMap_cons, List.append_assoc]

section
variable {P : Program}
theorem wr_at {α : Type} {f : α → List Value} {n : Nat} (hf : ∀ a, (f a).length = n) {t : TypeId} {i : TypeInfo} (hi : P.info? t = some i) (hn : i.size = n) {H : AHeap} {b k : Nat} {B : ABlk} {l : List α} {a : α} {v : Value}
    (hv : v.cells = (f a).toArray) (h1 : (f a).all oneC = true) (hb : H[b]? = some (some B)) (ho : B.own = true) (hc : B.cells = (l.flatMap f).toArray) (hk : k < l.length) {o : Nat} (he : o = k * n) :
    writeVar P H t ⟨b, o, none⟩ v = some (H.setIfInBounds b (some { B with cells := ((l.set k a).flatMap f).toArray })) := by
  subst he
  unfold writeVar
  simp only [hb, hi]
  have hle : k * n + n ≤ l.length * n := by
    have := Nat.mul_le_mul_right n (show k + 1 ≤ l.length from hk)
    rw [Nat.add_mul, Nat.one_mul] at this
    exact this
  have hna : notAny v = true := by
    cases v with
    | map r =>
      cases r with
      | none =>
        have e : f a = [.map none] := by
          have := congrArg Array.toList hv
          simpa [Value.cells] using this.symm
        rw [e] at h1
        cases h1
      | some r => rfl
    | _ => rfl
  rw [if_pos]
  · rw [hv, hc, List.toList_toArray, flat_put f n hf l k a hk]
  · rw [hv, hc, hn, ho, List.size_toArray, List.size_toArray, hf, flat_len f n hf, List.toList_toArray, h1, hna]
    simp [hle]

/-- What a type's new cells are. -/
def zeroB (P : Program) (e : TypeId) (n : Nat) : Bool := match P.info? e with
  | some i => match i.zero with
    | some z => closN 4 z && (z.cells.size == i.size) && decide (0 < i.size) && decide (i.bytes ≤ 1048576) && (i.size == n)
    | none => false
  | none => false
def zeroC (P : Program) (e : TypeId) : List Value := match P.info? e with
  | some i => match i.zero with
    | some z => z.cells.toList
    | none => []
  | none => []
theorem repL_flat {α : Type} (f : α → List Value) (a : α) : ∀ n : Nat, repL (f a) n = (List.replicate n a).flatMap f
  | 0 => rfl
  | n + 1 => by rw [repL, repL_flat f a n, List.replicate_succ, List.flatMap_cons]
theorem mk_sliceT {t e : TypeId} {n : Nat} (hs : isSliceB P t e = true) (hz : zeroB P e n = true) {α : Type} {f : α → List Value} {a : α} (hc : zeroC P e = f a) {H : AHeap} {M : Nat} (hM : M ≤ 16777216) :
    makeSliceV P H t (.int .i64 M) (.int .i64 M) = some (.slice (some ⟨H.size, 0, none⟩) M M, H.push (some ⟨((List.replicate M a).flatMap f).toArray, e, n, true⟩)) := by
  unfold zeroB at hz
  unfold zeroC at hc
  unfold makeSliceV
  rw [isSliceB_ex hs]
  simp only
  split at hz
  · rename_i i hi
    rw [hi] at hc ⊢
    simp only at hc ⊢
    split at hz
    · rename_i z hzz
      rw [hzz] at hc ⊢
      simp only at hc ⊢
      simp only [Bool.and_eq_true, beq_iff_eq, decide_eq_true_eq] at hz
      obtain ⟨⟨⟨⟨z1, z2⟩, z3⟩, z4⟩, z5⟩ := hz
      rw [if_pos]
      · rw [hc, Int.toNat_natCast, repL_flat, z5]
      · have e1 : ((0 : Int) ≤ (M : Int)) := by omega
        have e2 : ((M : Int) ≤ 16777216) := by omega
        simp [z1, z2, z3, z4, e1, e2]
    · cases hz
  · cases hz
end

theorem list_parts0 {α : Type} (d : α) (l a : List α) (n m : Nat) (h1 : l.take n = a) (h2 : l.length = n + m) : l = a ++ (List.range m).map (fun i => l.getD (n + i) d) := by
  apply List.ext_getElem?
  intro i
  have ha : a.length = n := by rw [← h1, List.length_take]; omega
  by_cases c1 : i < n
  · rw [List.getElem?_append_left (by omega), ← h1, List.getElem?_take, if_pos c1]
  rw [List.getElem?_append_right (by omega), ha]
  by_cases c2 : i < n + m
  · rw [List.getElem?_map, List.getElem?_range (by omega)]
    simp only [Option.map_some, List.getD_eq_getElem?_getD, show n + (i - n) = i by omega]
    rw [List.getElem?_eq_getElem (by omega)]
    rfl
  · rw [List.getElem?_eq_none (by omega), List.getElem?_eq_none (by simp; omega)]

/-- Registers, the first of them reckoned. -/
def rL {α : Type} (z : α) (F : Nat → α) (M k : Nat) : List α := (List.range M).map fun i => if i < k then F i else z
theorem rL_len {α : Type} (z : α) (F : Nat → α) (M k : Nat) : (rL z F M k).length = M := by simp [rL]
theorem rL_zero {α : Type} (z : α) (F : Nat → α) (M : Nat) : rL z F M 0 = List.replicate M z := by
  unfold rL
  simp only [Nat.not_lt_zero, if_false]
  rw [List.map_const', List.length_range]
theorem rL_full {α : Type} (z : α) (F : Nat → α) (M : Nat) : rL z F M M = (List.range M).map F := by
  unfold rL
  apply List.map_congr_left
  intro i hi
  rw [if_pos (List.mem_range.1 hi)]
theorem rL_set {α : Type} (z : α) (F : Nat → α) (M k : Nat) (hk : k < M) : (rL z F M k).set k (F k) = rL z F M (k + 1) := by
  unfold rL
  apply List.ext_getElem?
  intro i
  rw [List.getElem?_set]
  by_cases c : i < M
  · simp only [List.getElem?_map, List.getElem?_range c, Option.map_some]
    by_cases e : k = i
    · subst e
      rw [if_pos rfl, List.length_map, List.length_range, if_pos hk, if_pos (by omega)]
    · rw [if_neg e]
      congr 1
      by_cases c2 : i < k
      · rw [if_pos c2, if_pos (by omega)]
      · rw [if_neg c2, if_neg (by omega)]
  · simp only [List.getElem?_map]
    rw [List.getElem?_eq_none (l := List.range M) (by simp; omega), if_neg (by omega)]
    rfl
theorem rL_get {α : Type} (z : α) (F : Nat → α) {M k i : Nat} (h : i < k) (hM : i < M) : (rL z F M k)[i]? = some (F i) := by
  unfold rL
  rw [List.getElem?_map, List.getElem?_range hM, Option.map_some, if_pos h]

end Go.Proofs.YtameamgamdaibaaDoor
