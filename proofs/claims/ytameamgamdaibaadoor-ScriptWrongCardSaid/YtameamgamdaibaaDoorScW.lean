/- The text of a field of one number; counts as texts; words that are no number. -/
import Derived.Test.YtameamgamdaibaaDoorScY
namespace Go.Proofs.YtameamgamdaibaaDoor
open Go
set_option linter.unusedVariables false
set_option linter.unusedSimpArgs false
set_option maxRecDepth 100000

/-! ### pieces -/
theorem beqF {x : UInt8} {c : Nat} (h : x.toNat ≠ c) : Nat.beq x.toNat c = false := by
  rw [Bool.eq_false_iff]; intro e; exact h (Nat.eq_of_beq_eq_true e)
theorem splitC_to (sv c : Nat) (cc : UInt8) (hc : Nat.beq cc.toNat c = true) (v : List UInt8) : ∀ u : List UInt8, (∀ x ∈ u, x.toNat ≠ c) → splitC sv c (u ++ cc :: v) = (u ++ [cc].take sv) :: splitC sv c v
  | [], _ => by
    rw [List.nil_append, splitC, hc]; simp
  | x :: u, h => by
    rw [List.cons_append, splitC, beqF (h x (by simp)), splitC_to sv c cc hc v u fun y hy => h y (by simp [hy])]
    simp
theorem splitC_no (sv c : Nat) : ∀ l : List UInt8, (∀ x ∈ l, x.toNat ≠ c) → splitC sv c l = [l]
  | [], _ => rfl
  | x :: l, h => by
    rw [splitC, beqF (h x (by simp)), splitC_no sv c l fun y hy => h y (by simp [hy])]
theorem cutC_to (c : Nat) (cc : UInt8) (hc : Nat.beq cc.toNat c = true) (v : List UInt8) : ∀ u : List UInt8, (∀ x ∈ u, x.toNat ≠ c) → cutC c (u ++ cc :: v) = (u, v, true)
  | [], _ => by rw [List.nil_append, cutC, hc]
  | x :: u, h => by
    rw [List.cons_append, cutC, beqF (h x (by simp)), cutC_to c cc hc v u fun y hy => h y (by simp [hy])]
theorem cutC_no (c : Nat) : ∀ l : List UInt8, (∀ x ∈ l, x.toNat ≠ c) → cutC c l = (l, [], false)
  | [], _ => rfl
  | x :: l, h => by
    rw [cutC, beqF (h x (by simp)), cutC_no c l fun y hy => h y (by simp [hy])]
theorem endsC_app (c : Nat) (y : UInt8) (v : List UInt8) : ∀ u : List UInt8, endsC c (u ++ y :: v) = endsC c (y :: v)
  | [] => rfl
  | [x] => rfl
  | x :: z :: u => endsC_app c y v (z :: u)
theorem lineP_end (u : List UInt8) : lineP (u ++ [10]) = some u := by
  have e : endsC 10 (u ++ [10]) = true := by rw [endsC_app]; rfl
  unfold lineP trimC
  rw [if_pos e, e]
  simp

/-! ### the text -/
def plA : List UInt8 := [118, 97, 114, 115, 32, 49]
def plC : List UInt8 := [99, 111, 110, 115, 116]
def plB : List UInt8 := [111, 117, 116, 32, 48, 10, 98, 111, 120, 32, 45, 49, 112, 51, 32, 49, 112, 51, 10, 115, 116, 97, 114, 116, 32, 48, 112, 48, 10, 115, 116, 101, 112, 115, 32, 53, 32, 52, 32, 49, 32, 57, 10, 116, 111, 108, 32, 49, 112, 45, 51, 32, 48, 112, 48, 32, 49, 112, 48, 10]
def plT : List (List UInt8) := [[111, 117, 116, 32, 48], [98, 111, 120, 32, 45, 49, 112, 51, 32, 49, 112, 51], [115, 116, 97, 114, 116, 32, 48, 112, 48], [115, 116, 101, 112, 115, 32, 53, 32, 52, 32, 49, 32, 57], [116, 111, 108, 32, 49, 112, 45, 51, 32, 48, 112, 48, 32, 49, 112, 48]]
def plainL (x : List UInt8) : List UInt8 := (plA ++ 10 :: (plC ++ 32 :: x)) ++ 10 :: plB
/-- A word: no space, no line's end. -/
def wordW (x : List UInt8) : Prop := ∀ c ∈ x, c.toNat ≠ 10 ∧ c.toNat ≠ 32
def linesW (x : List UInt8) : List (List UInt8) := plA :: (plC ++ 32 :: x) :: plT
theorem plain_lines {x : List UInt8} (h : wordW x) : linesP (plainL x) = linesW x := by
  unfold linesP plainL
  rw [List.append_assoc, List.cons_append, splitC_to 1 10 10 rfl _ plA (by decide), splitC_to 1 10 10 rfl _ (plC ++ 32 :: x) (by
    intro y hy
    rcases List.mem_append.1 hy with hy | hy
    · exact (by decide : ∀ y ∈ plC, y.toNat ≠ 10) y hy
    · rcases List.mem_cons.1 hy with rfl | hy
      · decide
      · exact (h y hy).1)]
  have e : splitC 1 10 plB = (plT.map (· ++ [10])) ++ [[]] := by kernel_rfl
  rw [e, List.filterMap_cons, List.filterMap_cons]
  have e1 : lineP (plA ++ [10].take 1) = some plA := lineP_end plA
  have e2 : lineP (plC ++ 32 :: x ++ [10].take 1) = some (plC ++ 32 :: x) := lineP_end (plC ++ 32 :: x)
  rw [e1, e2]
  have e3 : (plT.map (· ++ [10]) ++ [[]]).filterMap lineP = plT := by kernel_rfl
  rw [e3]
  rfl
theorem plain_len (x : List UInt8) : (plainL x).length = x.length + 74 := by
  have h1 : plA.length = 6 := rfl
  have h2 : plC.length = 5 := rfl
  have h3 : plB.length = 60 := rfl
  unfold plainL
  simp only [List.length_append, List.length_cons, h1, h2, h3]
  omega
theorem plain_ends (x : List UInt8) : endsC 10 (plainL x) = true := by
  unfold plainL
  rw [endsC_app]
  kernel_rfl
section
variable {x : List UInt8}
theorem w_vars : cntP (linesW x) 0 wVars 1 = some [1] := by kernel_rfl
theorem w_out1 : beginP (linesW x) 1 wOut = false := by kernel_rfl
theorem w_op : (List.range 6).find? (fun j => beginP (linesW x) 1 (wd j)) = some 0 := by kernel_rfl
theorem w_take (h : wordW x) : takeP (linesW x) 1 (wd 0) 1 = some [x] := by
  have e : (linesW x)[1]? = some (plC ++ 32 :: x) := rfl
  unfold takeP
  rw [e]
  simp only
  rw [splitC_to 0 32 32 rfl x plC (by decide), splitC_no 0 32 x fun y hy => (h y hy).2]
  rfl
theorem w_at (h : wordW x) : opP (linesW x) 1 = if (fltP x).2 then some ⟨0, 0, 0, (fltP x).1⟩ else none := by
  unfold opP
  rw [w_op]
  simp only [opAt, w_take h, allP]
  cases (fltP x).2 <;> rfl
theorem w_out2 : beginP (linesW x) 2 wOut = true := by kernel_rfl
theorem w_cout : cntP (linesW x) 2 wOut (-1) = some [0] := by kernel_rfl
theorem w_st3 : beginP (linesW x) 3 wStart = false := by kernel_rfl
theorem w_st4 : beginP (linesW x) 4 wStart = true := by kernel_rfl
theorem w_box : takeP (linesW x) 3 wBox 2 = some [[45, 49, 112, 51], [49, 112, 51]] := by kernel_rfl
theorem w_start : takeP (linesW x) 4 wStart (-1) = some [[48, 112, 48]] := by kernel_rfl
theorem w_steps : cntP (linesW x) 5 wSteps 4 = some [5, 4, 1, 9] := by kernel_rfl
theorem w_tol : takeP (linesW x) 6 wTol 3 = some [[49, 112, 45, 51], [48, 112, 48], [49, 112, 48]] := by kernel_rfl
theorem n_00 : numP [48, 112, 48] = some (0, 0) := by kernel_rfl
theorem n_m13 : numP [45, 49, 112, 51] = some (-1, 3) := by kernel_rfl
theorem n_13 : numP [49, 112, 51] = some (1, 3) := by kernel_rfl
theorem n_1m3 : numP [49, 112, 45, 51] = some (1, -3) := by kernel_rfl
theorem n_10 : numP [49, 112, 48] = some (1, 0) := by kernel_rfl
theorem plain_bad (h : wordW x) (hl : x.length ≤ 1000) (hf : (fltP x).2 = false) : preP (plainL x) = .inl 2 := by
  rw [preP_eq, if_neg (by rw [plain_len]; omega), plain_lines h]
  unfold restP
  rw [w_vars]
  simp only
  rw [opsP, w_out1]
  simp only [Bool.false_eq_true, if_false]
  rw [w_at h, hf]
  rfl
/-! ### numbers of the text -/
theorem ld_in {m k : Int} (h0 : m ≠ 0) (h1 : m.natAbs < 9007199254740992) (hk : -900 ≤ k) (hk2 : k ≤ 900) : Fi (ldW m k) ∧ (0 < m → 0 < ix (ldW m k)) ∧ (m < 0 → ix (ldW m k) < 0) := by
  obtain ⟨_, hnn, hv⟩ := ldW_ok (ld_ex h0 h1 (by omega) (by omega : k ≤ 1023))
  obtain ⟨s, e, l, hs, he, he2, hl, hw⟩ := F_exp h0 h1
  obtain ⟨j, hj⟩ := Int.eq_ofNat_of_zero_le (show 0 ≤ k + e by omega)
  have hx := hv s e l j hs (by omega) (by omega) hl hw hj (by omega) (by omega)
  have hji := ix_W3 hs (e := j) (by omega) hl
  have hxi := ix_W3 hs (e := e) (by omega) hl
  rw [hji] at hx
  rw [← hw] at hxi
  have sg : (0 < m → s = 0) ∧ (m < 0 → s ≠ 0) := by
    constructor
    · intro hp
      have b := F_le (n := 1) (m := m) (by omega)
      have a1 : ix (F 1) = 4607182418800017408 := by decide +kernel
      rw [a1] at b
      split at hxi <;> omega
    · intro hp
      have b := F_le (n := m) (m := -1) (by omega)
      have a1 : ix (F (-1)) = -4607182418800017408 := by decide +kernel
      rw [a1] at b
      split at hxi <;> omega
  refine ⟨⟨hnn.1, ?_, ?_⟩, fun hp => ?_, fun hp => ?_⟩
  · split at hx <;> omega
  · split at hx <;> omega
  · have := sg.1 hp; rw [if_pos (by omega)] at hx; omega
  · have := sg.2 hp; rw [if_neg (by omega)] at hx; omega
theorem fin_fi {r : Nat} (h : Fi r) : finP r = (r, true) := by
  unfold finP infW mxW
  rw [if_neg]
  have := h.2
  simp
  omega
theorem flt_of {w : List UInt8} {m k : Int} (hn : numP w = some (m, k)) (h0 : m ≠ 0) (h1 : m.natAbs < 9007199254740992) (hk : -900 ≤ k) (hk2 : k ≤ 900) : fltP w = (ldW m k, true) := by
  unfold fltP
  rw [hn]
  simp only
  rw [if_neg h0, fin_fi (ld_in h0 h1 hk hk2).1]
theorem flt_00 : fltP [48, 112, 48] = (0, true) := by
  unfold fltP
  rw [n_00]
  rfl
/-- The problem that the text tells. -/
noncomputable def dP (C lo hi a c : Nat) : ProbD := ⟨1, [⟨0, 0, 0, C⟩], [0], [(lo, hi)], [0], 5, 4, 1, a, 0, c, 9, []⟩
noncomputable def dW (C : Nat) : ProbD := dP C (ldW (-1) 3) (ldW 1 3) (ldW 1 (-3)) (ldW 1 0)
theorem plain_good (h : wordW x) (hl : x.length ≤ 1000) {C : Nat} (hf : fltP x = (C, true)) : preP (plainL x) = .inr (dW C) := by
  have f1 := flt_of n_m13 (by decide) (by decide) (by decide) (by decide)
  have f2 := flt_of n_13 (by decide) (by decide) (by decide) (by decide)
  have f3 := flt_of n_1m3 (by decide) (by decide) (by decide) (by decide)
  have f4 := flt_of n_10 (by decide) (by decide) (by decide) (by decide)
  have hb : boxAt (linesW x) 3 = some (ldW (-1) 3, ldW 1 3) := by
    unfold boxAt
    rw [w_box]
    simp only [allP, f1, f2]
    rfl
  have hs : fltsP (linesW x) 4 wStart (-1) = some [0] := by
    unfold fltsP
    rw [w_start]
    simp only [allP, flt_00]
    rfl
  have ht : fltsP (linesW x) 6 wTol 3 = some [ldW 1 (-3), 0, ldW 1 0] := by
    unfold fltsP
    rw [w_tol]
    simp only [allP, f3, f4, flt_00]
    rfl
  have ho : opsP (linesW x) ((linesW x).length + 1) 1 [] = (true, [⟨0, 0, 0, C⟩], 2) := by
    rw [opsP, w_out1]
    simp only [Bool.false_eq_true, if_false]
    rw [w_at h, hf]
    simp only [if_true]
    show opsP (linesW x) 7 2 ([] ++ [_]) = _
    rw [opsP, w_out2]
    rfl
  have hx : boxP (linesW x) ((linesW x).length + 1) 3 [] = (true, [(ldW (-1) 3, ldW 1 3)], 4) := by
    rw [boxP, w_st3]
    simp only [Bool.false_eq_true, if_false]
    rw [hb]
    simp only
    show boxP (linesW x) 7 4 ([] ++ [_]) = _
    rw [boxP, w_st4]
    rfl
  rw [preP_eq, if_neg (by rw [plain_len]; omega), plain_lines h]
  unfold restP
  rw [w_vars]
  simp only
  rw [ho]
  simp only
  rw [w_cout]
  simp only
  rw [hx]
  simp only
  rw [hs]
  simp only
  rw [w_steps]
  simp only
  rw [ht]
  simp only
  have hl7 : (linesW x).length = 7 := rfl
  rw [hl7, if_neg (by decide)]
  unfold lastP
  rw [if_neg (by decide), plain_ends]
  rfl
end

/-! ### counts as texts -/
def decF : Nat → Nat → List UInt8
  | 0, n => [UInt8.ofNat (48 + n)]
  | f + 1, n => if n < 10 then [UInt8.ofNat (48 + n)] else decF f (n / 10) ++ [UInt8.ofNat (48 + n % 10)]
def dec (n : Nat) : List UInt8 := decF 3 n
def eqD (r : Int × Bool) (n : Int) : Bool := decide (r.1 = n) && r.2
def chkA (n : Nat) : Bool := eqD (sigP (dec n)) n && (dec n).all (fun c => Nat.ble 48 c.toNat && Nat.ble c.toNat 57) && Nat.ble (dec n).length 4
def chkB (n : Nat) : Bool := !(sigP (48 :: dec n)).2 && !(sigP (43 :: dec n)).2 && !(sigP (dec n ++ [112])).2 && !(sigP (dec n ++ [46, 53])).2 && !(sigP (45 :: 45 :: dec n)).2 && (n == 0 || eqD (sigP (45 :: dec n)) (-n))
theorem chkA_all : (List.range 2002).all chkA = true := by decide +kernel
theorem chkB_all : (List.range 1002).all chkB = true := by decide +kernel

end Go.Proofs.YtameamgamdaibaaDoor
