/- Texts cut, split, trimmed at one byte: as plain functions of lists, and that the library's contracts speak of these. -/
import Derived.Test.YtameamgamdaibaaDoorScL
namespace Go.Proofs.YtameamgamdaibaaDoor
open Go
set_option linter.unusedVariables false
set_option maxRecDepth 100000

/-- Cut at the first. -/
def cutC (c : Nat) : List UInt8 → List UInt8 × List UInt8 × Bool
  | [] => ([], [], false)
  | x :: l => match Nat.beq x.toNat c with
    | true => ([], l, true)
    | false => match cutC c l with
      | (a, b, t) => (x :: a, b, t)
/-- Split at each; sv: 0, or 1: it stays at its piece's end. -/
def splitC (sv c : Nat) : List UInt8 → List (List UInt8)
  | [] => [[]]
  | x :: l => match Nat.beq x.toNat c with
    | true => [x].take sv :: splitC sv c l
    | false => match splitC sv c l with
      | p :: ps => (x :: p) :: ps
      | [] => [[x]]
def endsC (c : Nat) : List UInt8 → Bool
  | [] => false
  | [x] => Nat.beq x.toNat c
  | _ :: y :: l => endsC c (y :: l)
def trimC (c : Nat) (l : List UInt8) : List UInt8 := match endsC c l with
  | true => l.dropLast
  | false => l
/-- A sign below 0 ahead. -/
def minusC (c : Nat) : List UInt8 → List UInt8 × Bool
  | [] => ([], false)
  | x :: l => match Nat.beq x.toNat c with
    | true => (l, true)
    | false => (x :: l, false)

theorem beqU (x c : UInt8) : Nat.beq x.toNat c.toNat = true ↔ x = c := by rw [Nat.beq_eq, UInt8.toNat_inj]
theorem index_eq (c : UInt8) (l : List UInt8) : Lib.index (c :: l) [c] = 0 := by simp [Lib.index]
theorem index_ne {x c : UInt8} (h : x ≠ c) (l : List UInt8) : Lib.index (x :: l) [c] = if Lib.index l [c] == -1 then -1 else Lib.index l [c] + 1 := by
  rw [Lib.index]
  simp [h.symm]
theorem cut_cutC (c : UInt8) : ∀ l : List UInt8, Lib.cut l [c] = cutC c.toNat l
  | [] => by simp [Lib.cut, Lib.index, cutC]
  | x :: l => by
    have ih := cut_cutC c l
    have hg := Lib.index_ge l [c]
    by_cases h : x = c
    · subst h
      simp [Lib.cut, index_eq, cutC]
    · have hb : Nat.beq x.toNat c.toNat = false := by rw [Bool.eq_false_iff]; exact fun e => h ((beqU x c).1 e)
      rw [cutC, hb, ← ih]
      unfold Lib.cut
      rw [index_ne h]
      by_cases hi : Lib.index l [c] = -1
      · simp [hi]
      · have h0 : 0 ≤ Lib.index l [c] := by omega
        obtain ⟨i, hi2⟩ := Int.eq_ofNat_of_zero_le h0
        rw [hi2]
        have hn : ((i : Int) == -1) = false := by rw [beq_eq_false_iff_ne]; omega
        rw [hn]
        have e1 : ((i : Int) + 1).toNat = i + 1 := by omega
        simp only [Bool.false_eq_true, if_false, e1]
        rw [if_pos (by omega), if_pos (by omega)]
        simp

theorem splitK_zero (sep : List UInt8) (sv : Nat) (s : List UInt8) : Lib.splitK sep sv 0 s = [s] := rfl
theorem count_zero {c : UInt8} {l : List UInt8} (h : Lib.index l [c] = -1) : Lib.count l [c] = 0 := Lib.count_miss h
theorem splitK_splitC (c : UInt8) (sv : Nat) (hsv : sv ≤ 1) : ∀ l : List UInt8, Lib.splitK [c] sv (Lib.count l [c]) l = splitC sv c.toNat l
  | [] => by simp [Lib.count, Lib.countFrom, Lib.index, splitC, Lib.splitK]
  | x :: l => by
    have ih := splitK_splitC c sv hsv l
    by_cases h : x = c
    · subst h
      have hc : Lib.count (x :: l) [x] = Lib.count l [x] + 1 := by rw [Lib.count_cons_eq]; omega
      rw [hc]
      have hb : Nat.beq x.toNat x.toNat = true := (beqU x x).2 rfl
      rw [splitC, hb, Lib.splitK, index_eq]
      simp only [← ih, Int.toNat_zero, Nat.zero_add, List.length_cons, List.length_nil, List.drop_succ_cons, List.drop_zero]
      rw [if_neg (by decide)]
      have h2 : sv = 0 ∨ sv = 1 := by omega
      rcases h2 with rfl | rfl <;> simp
    · have hb : Nat.beq x.toNat c.toNat = false := by rw [Bool.eq_false_iff]; exact fun e => h ((beqU x c).1 e)
      rw [Lib.count_cons_ne x c l h, splitC, hb]
      by_cases hi : Lib.index l [c] = -1
      · have h0 := count_zero hi
        rw [h0] at ih ⊢
        rw [splitK_zero] at ih ⊢
        rw [← ih]
      · obtain ⟨i, hi2⟩ := Int.eq_ofNat_of_zero_le (show 0 ≤ Lib.index l [c] by have := Lib.index_ge l [c]; omega)
        have hc := Lib.count_hit (sub := [c]) (by simp) hi2
        rw [hc, Nat.add_comm] at ih ⊢
        rw [Lib.splitK, hi2] at ih
        have hn : ((i : Int) == -1) = false := by rw [beq_eq_false_iff_ne]; omega
        rw [hn] at ih
        simp only [Bool.false_eq_true, if_false, Int.toNat_natCast] at ih
        rw [Lib.splitK, index_ne h, hi2, hn]
        have e1 : ((i : Int) + 1).toNat = i + 1 := by omega
        have hn2 : ((i : Int) + 1 == -1) = false := by rw [beq_eq_false_iff_ne]; omega
        simp only [Bool.false_eq_true, if_false, hn2, e1]
        rw [← ih]
        simp only [List.length_cons, List.length_nil, Nat.zero_add]
        rw [show i + 1 + sv = (i + sv) + 1 by omega, List.take_succ_cons, show i + 1 + 1 = (i + 1) + 1 from rfl, List.drop_succ_cons]

theorem one_le (c : UInt8) : 1 ≤ (ByteArray.mk #[c]).size := by show 1 ≤ 1; omega
theorem str_st (s : ByteArray) : Value.string s = stL (bsL s) := by cases s; rfl
theorem bs_st (l : List UInt8) : bsL ⟨l.toArray⟩ = l := rfl
theorem pieces_eq (s : ByteArray) (c : UInt8) (sv : Nat) (hsv : sv ≤ 1) : ((Lib.splitB ⟨#[c]⟩ sv (Lib.countB s ⟨#[c]⟩) s).map Value.string).toArray = ((splitC sv c.toNat (bsL s)).map stL).toArray := by
  have h := Lib.splitB_data ⟨#[c]⟩ sv (Lib.countB s ⟨#[c]⟩) s
  have h2 : Lib.splitK [c] sv (Lib.count s.data.toList [c]) s.data.toList = splitC sv c.toNat (bsL s) := splitK_splitC c sv hsv _
  rw [show Lib.splitK (ByteArray.mk #[c]).data.toList sv (Lib.countB s ⟨#[c]⟩) s.data.toList = splitC sv c.toNat (bsL s) from h2] at h
  rw [← h, List.map_map]
  exact congrArg List.toArray (List.map_congr_left fun x _ => str_st x)
theorem splitC_length (sv : Nat) (hsv : sv ≤ 1) (s : ByteArray) (c : UInt8) : (splitC sv c.toNat (bsL s)).length = Lib.countB s ⟨#[c]⟩ + 1 := by
  rw [← splitK_splitC c sv hsv, ← Lib.splitB_all ⟨#[c]⟩ (one_le c) sv _ s rfl]
  have h := Lib.splitB_data ⟨#[c]⟩ sv (Lib.countB s ⟨#[c]⟩) s
  rw [show Lib.splitK [c] sv (Lib.count (bsL s) [c]) (bsL s) = Lib.splitK (ByteArray.mk #[c]).data.toList sv (Lib.countB s ⟨#[c]⟩) s.data.toList from rfl, ← h]
  simp

theorem endsC_iff (c : UInt8) : ∀ l : List UInt8, endsC c.toNat l = Lib.hasSuffix l [c]
  | [] => by rfl
  | [x] => by
    rw [endsC, Bool.eq_iff_iff, beqU, Lib.hasSuffix, List.isSuffixOf_iff_suffix]
    constructor
    · rintro rfl; exact List.suffix_refl _
    · rintro ⟨t, ht⟩
      cases t with
      | nil => injection ht with h1; exact h1.symm
      | cons y t => injection ht with h1 h2; simp at h2
  | x :: y :: l => by
    have ih := endsC_iff c (y :: l)
    rw [endsC, ih, Bool.eq_iff_iff, Lib.hasSuffix, Lib.hasSuffix, List.isSuffixOf_iff_suffix, List.isSuffixOf_iff_suffix]
    constructor
    · rintro ⟨t, ht⟩; exact ⟨x :: t, by rw [List.cons_append, ht]⟩
    · rintro ⟨t, ht⟩
      cases t with
      | nil => injection ht with h1 h2; cases h2
      | cons z t => injection ht with h1 h2; exact ⟨t, h2⟩
theorem trimC_eq (c : UInt8) (l : List UInt8) : trimC c.toNat l = Lib.trimSuffix l [c] := by
  unfold trimC Lib.trimSuffix
  rw [endsC_iff]
  split
  · rename_i h; rw [if_pos h, List.dropLast_eq_take]; rfl
  · rename_i h; rw [if_neg (by simp [h])]
theorem minusC_eq (c : UInt8) (l : List UInt8) : minusC c.toNat l = (Lib.trimPrefix l [c], Lib.hasPrefix l [c]) := by
  cases l with
  | nil => simp [minusC, Lib.trimPrefix, Lib.hasPrefix]
  | cons x l =>
    by_cases h : x = c
    · subst h
      have hb : Nat.beq x.toNat x.toNat = true := (beqU x x).2 rfl
      simp only [minusC, hb, Lib.trimPrefix, Lib.hasPrefix]; simp
    · have hb : Nat.beq x.toNat c.toNat = false := by rw [Bool.eq_false_iff]; exact fun e => h ((beqU x c).1 e)
      have hp : [c].isPrefixOf (x :: l) = false := by simp [List.isPrefixOf, Ne.symm h]
      simp only [minusC, hb, Lib.trimPrefix, Lib.hasPrefix, hp]; simp

/-! ### the contracts, at one byte -/
def s1 (c : UInt8) : Value := .string ⟨#[c]⟩
def cutV (c : Nat) (l : List UInt8) : Value := match cutC c l with
  | (a, b, t) => .tuple #[stL a, stL b, .bool t]
def minusV (c : Nat) (l : List UInt8) : Value := match minusC c l with
  | (a, t) => .tuple #[stL a, .bool t]
def piecesV (sv c : Nat) (l : List UInt8) : List Value := (splitC sv c l).map stL
theorem cut1 (s : ByteArray) (c : UInt8) (hs : (bsL s).length < 4294967281) (H : AHeap) : Runs Tryd.prog 28 #[.string s, s1 c] H (cutV c.toNat (bsL s)) H := by
  have h := cut_runs s ⟨#[c]⟩ (by rw [Lib.size_eq]; exact hs) H
  unfold cutV
  rw [← cut_cutC]
  exact h
theorem minus1 (s : ByteArray) (c : UInt8) (H : AHeap) : Runs Tryd.prog 69 #[.string s, s1 c] H (minusV c.toNat (bsL s)) H := by
  have h := cutp_runs s ⟨#[c]⟩ H
  unfold minusV
  rw [minusC_eq]
  exact h
theorem ends1 (s : ByteArray) (c : UInt8) (hs : (bsL s).length < 4294967281) (H : AHeap) : Runs Tryd.prog 13 #[.string s, s1 c] H (.bool (endsC c.toNat (bsL s))) H := by
  have h := suf_runs s ⟨#[c]⟩ (by rw [Lib.size_eq]; exact Nat.le_of_lt (Nat.lt_of_lt_of_le hs (by decide))) H
  rw [endsC_iff]
  exact h
theorem trim1 (s : ByteArray) (c : UInt8) (hs : (bsL s).length < 4294967281) (H : AHeap) : Runs Tryd.prog 14 #[.string s, s1 c] H (stL (trimC c.toNat (bsL s))) H := by
  have h := trims_runs s ⟨#[c]⟩ (by rw [Lib.size_eq]; exact Nat.le_of_lt (Nat.lt_of_lt_of_le hs (by decide))) H
  rw [trimC_eq]
  exact h
theorem split1 (s : ByteArray) (c : UInt8) (hs : (bsL s).length < 4294967281) (H : AHeap) :
    Runs Tryd.prog 49 #[.string s, s1 c] H (.slice (some ⟨H.size, 0, none⟩) (splitC 0 c.toNat (bsL s)).length (splitC 0 c.toNat (bsL s)).length) (H.push (some ⟨(piecesV 0 c.toNat (bsL s)).toArray, 9, 1, true⟩)) := by
  have h := split_runs s ⟨#[c]⟩ (by rw [Lib.size_eq]; exact hs) (one_le c) H
  unfold piecesA at h
  rw [pieces_eq s c 0 (by decide)] at h
  rw [splitC_length 0 (by decide)]
  exact h
theorem gens1 (s : ByteArray) (c : UInt8) (hs : (bsL s).length < 4294967281) (H : AHeap) :
    Runs Tryd.prog 22 #[.string s, s1 c, .int .i64 1, .int .i64 (-1)] H (.slice (some ⟨H.size, 0, none⟩) (splitC 1 c.toNat (bsL s)).length (splitC 1 c.toNat (bsL s)).length) (H.push (some ⟨(piecesV 1 c.toNat (bsL s)).toArray, 9, 1, true⟩)) := by
  refine runs_new (by intro args w; exact run_callFunc Tryd.func22 rfl (by decide) args w) (by rfl) (by simp [piecesV]) (by simp [piecesV, stL, closN]) (fun w hl => ?_) H
  obtain ⟨mx, hm⟩ := hl.most
  have hle := Lib.countB_le ⟨#[c]⟩ (one_le c) _ s (Nat.le_refl _)
  refine (Tryd.strings_genSplit s ⟨#[c]⟩ 1 (-1) (Lib.countB s ⟨#[c]⟩ + 1) mx w (by rw [Lib.size_eq]; exact hs) hm (one_le c) (one_le c) (by decide) (by decide) (by rw [if_pos (by decide)]; omega)).mono ?_
  rintro e w' ⟨rfl, rfl⟩
  have hlen := Lib.splitB_all ⟨#[c]⟩ (one_le c) 1 _ s rfl
  rw [Nat.add_sub_cancel, hlen, splitC_length 1 (by decide)]
  refine ⟨rfl, ?_⟩
  have e2 := Lib.cellsOf_full (Lib.splitB ⟨#[c]⟩ 1 (Lib.countB s ⟨#[c]⟩) s)
  rw [hlen] at e2
  rw [e2, pieces_eq s c 1 (by decide)]
  rfl

end Go.Proofs.YtameamgamdaibaaDoor
