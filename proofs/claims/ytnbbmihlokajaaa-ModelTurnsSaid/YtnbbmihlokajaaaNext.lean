/- Next / NextKey / NextUp: several texts in one. -/
import Derived.Test.YtnbbmihlokajaaaWithin
import Derived.Test.YtnbbmihlokajaaaFloatK
/-!  The next float down, and up: of a positive number and of a negative one. -/
namespace Go.Proofs.Ytnbbmihlokajaaa
open Go
set_option linter.unusedVariables false
set_option maxRecDepth 100000

noncomputable def askX (f : FuncId) : Nat := if f == 76 then 3 else if f == 72 then 0 else 2
def isU (n : Nat) : Ans := ⟨fun _ => .int .u64 (Int.ofNat n), []⟩

theorem cmp_self {x : Nat} (h : Fin x) : cmpV Try.prog .neq 24 (.float .f64 x) (.float .f64 x) = some false := by
  have h2 : FloatKind.f64.format.order x x = some (compare (key x) (key x)) := order_key h h
  show (if FloatKind.f64 = FloatKind.f64 then (if isArith .neq then none else fcmp .neq .f64 x x) else none) = some false
  simp only [if_true, isArith, Bool.false_eq_true, if_false, fcmp]
  rw [h2]
  simp [compare, compareOfLessAndEq]

theorem ord_inf {x : Nat} (h : Fin x) : FloatKind.f64.format.order x 18442240474082181120 = some .gt ∧ FloatKind.f64.format.order 18442240474082181120 x = some .lt := by
  obtain ⟨s, m, e, hx⟩ := h
  have hi : Ieee.double.read 18442240474082181120 = .infinity true := by decide +kernel
  constructor
  · show (Ieee.double.read x).order (Ieee.double.read 18442240474082181120) = some .gt
    rw [hx, hi]; rfl
  · show (Ieee.double.read 18442240474082181120).order (Ieee.double.read x) = some .lt
    rw [hx, hi]; rfl

theorem fin_0 : Fin 0 ∧ key 0 = 0 := by
  have := key_word false (r := 0) (by decide)
  have e : Ieee.double.word false 0 = 0 := rfl
  rw [e] at this
  exact ⟨this.1, by simpa [rungK] using this.2⟩

theorem row_bits {x : Nat} (h : Fin x) : (orcD 12).row 76 #[.float .f64 x] = some (.int .u64 (Int.ofNat x)) := by
  have hn : isNan .f64 x = false := by
    obtain ⟨s, m, e, hx⟩ := h
    show (Ieee.double.read x).isNaN = false
    rw [hx]; rfl
  have e : (orcD 12).row 76 #[.float .f64 x] = if isNan .f64 x then none else some (.int .u64 (Int.ofNat x)) := by kernel_rfl
  rw [e, hn]
  rfl

theorem fc (op : BinOp) (h : isArith op = false) (x y : Nat) : cmpV Try.prog op 24 (.float .f64 x) (.float .f64 y) = fcmp op .f64 x y := by
  show (if FloatKind.f64 = FloatKind.f64 then (if isArith op then none else fcmp op .f64 x y) else none) = _
  rw [if_pos rfl, if_neg (by rw [h]; decide)]

theorem cmps {x : Nat} (h : Fin x) (h0 : key x ≠ 0) :
    fcmp .eql .f64 x 18442240474082181120 = some false ∧ fcmp .eql .f64 x 0 = some false ∧ fcmp .gtr .f64 18442240474082181120 x = some false ∧ fcmp .gtr .f64 x 0 = some (decide (0 < key x)) := by
  obtain ⟨o1, o2⟩ := ord_inf h
  have o3 : FloatKind.f64.format.order x 0 = some (compare (key x) (key 0)) := order_key h fin_0.1
  rw [fin_0.2] at o3
  simp only [fcmp, o1, o2, o3]
  refine ⟨rfl, ?_, rfl, ?_⟩
  · simp only [compare, compareOfLessAndEq]
    by_cases hl : key x < 0
    · simp [hl]
    · simp [hl, h0]
  · simp only [compare, compareOfLessAndEq]
    by_cases hl : key x < 0
    · have : ¬ 0 < key x := by omega
      simp [hl, this]
    · have : 0 < key x := by omega
      simp [hl, h0, this]

noncomputable def nObls (x : Nat) (c : Bool) : List Obl :=
  [.cmp .neq 24 (.float .f64 x) (.float .f64 x) false, .cmp .neq 24 (.float .f64 18442240474082181120) (.float .f64 18442240474082181120) false,
   .cmp .eql 24 (.float .f64 x) (.float .f64 18442240474082181120) false, .cmp .eql 24 (.float .f64 x) (.float .f64 0) false,
   .cmp .gtr 24 (.float .f64 18442240474082181120) (.float .f64 x) false, .cmp .gtr 24 (.float .f64 x) (.float .f64 0) c,
   .row (orcD 12).row 76 #[.float .f64 x] (.int .u64 (Int.ofNat x))]

theorem nObls_ok {x : Nat} (h : Fin x) (h0 : key x ≠ 0) : okAll Try.prog (nObls x (decide (0 < key x))) := by
  obtain ⟨c1, c2, c3, c4⟩ := cmps h h0
  exact ⟨cmp_self h, (by kernel_rfl : cmpV Try.prog .neq 24 (.float .f64 18442240474082181120) (.float .f64 18442240474082181120) = some false), (fc _ rfl _ _).trans c1, (fc _ rfl _ _).trans c2, (fc _ rfl _ _).trans c3, (fc _ rfl _ _).trans c4, row_bits h, trivial⟩

theorem down_pos {x : Nat} (h : Fin x) (h0 : 0 < key x) : Runs Try.prog 91 #[.float .f64 x] #[] (.float .f64 (IntKind.u64.wrap ((x : Int) - 1)).toNat) #[] := by
  have hk := nObls_ok h (by omega)
  rw [decide_eq_true h0] at hk
  exact askN_runs (ask := askX) (askC := fltC) (d := 12) (s := [yes false, yes false, yes false, yes false, yes false, yes true, isU x]) (l := nObls x true) (by kernel_rfl) hk

theorem down_neg {x : Nat} (h : Fin x) (h0 : key x < 0) : Runs Try.prog 91 #[.float .f64 x] #[] (.float .f64 (IntKind.u64.wrap ((x : Int) + 1)).toNat) #[] := by
  have hk := nObls_ok h (by omega)
  rw [decide_eq_false (by omega)] at hk
  exact askN_runs (ask := askX) (askC := fltC) (d := 12) (s := [yes false, yes false, yes false, yes false, yes false, yes false, isU x]) (l := nObls x false) (by kernel_rfl) hk

end Go.Proofs.Ytnbbmihlokajaaa

/-!  The next float down is less. -/
namespace Go.Proofs.Ytnbbmihlokajaaa
open Go
set_option linter.unusedVariables false
set_option maxRecDepth 20000

theorem fin_word {x : Nat} (hx : x < 18446744073709551616) (h : Fin x) : ∃ s r, r < 9218868437227405312 ∧ x = Ieee.double.word s r ∧ r = x % 9223372036854775808 := by
  have hr : x % 9223372036854775808 < 9218868437227405312 := by
    obtain ⟨s, m, e, h⟩ := h
    unfold Ieee.Format.read at h
    simp only [d_sign, d_binade, d_inf, d_least] at h
    split at h
    · omega
    · split at h
      · assumption
      · split at h <;> cases h
  by_cases hs : x < 9223372036854775808
  · refine ⟨false, _, hr, ?_, rfl⟩
    unfold Ieee.Format.word
    simp only [Bool.false_eq_true, if_false]
    omega
  · refine ⟨true, _, hr, ?_, rfl⟩
    unfold Ieee.Format.word
    simp only [if_true, d_sign]
    omega

theorem wrap_u64 {n : Int} (h0 : 0 ≤ n) (h : n < 18446744073709551616) : IntKind.u64.wrap n = n := by
  have hb : IntKind.u64.bits = 64 := rfl
  have hs : IntKind.u64.signed = false := rfl
  unfold IntKind.wrap
  simp only [hb, hs, Bool.false_and, Bool.false_eq_true, if_false]
  have e1 : (2 : Int) ^ 64 = 18446744073709551616 := by decide
  rw [e1]
  omega

theorem rungK_pos {r : Nat} (h : rungK r ≠ 0) : 0 < r := by
  rcases Nat.eq_zero_or_pos r with h0 | h0
  · subst h0; simp [rungK] at h
  · exact h0

theorem down_key {x : Nat} (hx : x < 18446744073709551616) (h : Fin x) (h0 : key x ≠ 0) (hm : x % 9223372036854775808 + 1 < 9218868437227405312) :
    ∃ d, d < 18446744073709551616 ∧ Runs Try.prog 91 #[.float .f64 x] #[] (.float .f64 d) #[] ∧ Fin d ∧ key d < key x := by
  obtain ⟨s, r, hr, hw, hrx⟩ := fin_word hx h
  rw [← hrx] at hm
  have hk := (key_word s hr).2
  rw [← hw] at hk
  cases s with
  | false =>
    simp only [Bool.false_eq_true, if_false] at hk
    have hp : 0 < r := rungK_pos (by omega)
    have hxr : x = r := by rw [hw]; rfl
    have hd := down_pos h (by omega)
    have e : (IntKind.u64.wrap ((x : Int) - 1)).toNat = r - 1 := by rw [wrap_u64 (by omega) (by omega)]; omega
    rw [e] at hd
    obtain ⟨g1, g2⟩ := key_word false (r := r - 1) (by omega)
    have e2 : Ieee.double.word false (r - 1) = r - 1 := rfl
    rw [e2] at g1 g2
    simp only [Bool.false_eq_true, if_false] at g2
    have := rungK_up (r - 1)
    rw [show r - 1 + 1 = r by omega] at this
    exact ⟨r - 1, by omega, hd, g1, by omega⟩
  | true =>
    simp only [if_true] at hk
    have hxr : x = 9223372036854775808 + r := by rw [hw]; unfold Ieee.Format.word; simp only [if_true, d_sign]
    have hd := down_neg h (by omega)
    have e : (IntKind.u64.wrap ((x : Int) + 1)).toNat = 9223372036854775808 + (r + 1) := by rw [wrap_u64 (by omega) (by omega)]; omega
    rw [e] at hd
    obtain ⟨g1, g2⟩ := key_word true (r := r + 1) hm
    have e2 : Ieee.double.word true (r + 1) = 9223372036854775808 + (r + 1) := by unfold Ieee.Format.word; simp only [if_true, d_sign]
    rw [e2] at g1 g2
    simp only [if_true] at g2
    have := rungK_up r
    exact ⟨9223372036854775808 + (r + 1), by omega, hd, g1, by omega⟩

end Go.Proofs.Ytnbbmihlokajaaa

/-!  The next float up is more; and both at a zero. -/
namespace Go.Proofs.Ytnbbmihlokajaaa
open Go
set_option linter.unusedVariables false
set_option maxRecDepth 100000

theorem ord_pinf {x : Nat} (h : Fin x) : FloatKind.f64.format.order x 9218868437227405312 = some .lt ∧ FloatKind.f64.format.order 9218868437227405312 x = some .gt := by
  obtain ⟨s, m, e, hx⟩ := h
  have hi : Ieee.double.read 9218868437227405312 = .infinity false := by decide +kernel
  constructor
  · show (Ieee.double.read x).order (Ieee.double.read 9218868437227405312) = some .lt
    rw [hx, hi]; rfl
  · show (Ieee.double.read 9218868437227405312).order (Ieee.double.read x) = some .gt
    rw [hx, hi]; rfl

theorem cmps_up {x : Nat} (h : Fin x) : fcmp .eql .f64 x 9218868437227405312 = some false ∧ fcmp .gtr .f64 9218868437227405312 x = some true := by
  obtain ⟨o1, o2⟩ := ord_pinf h
  simp only [fcmp, o1, o2]
  exact ⟨rfl, rfl⟩

theorem eql_zero {x : Nat} (h : Fin x) (h0 : key x = 0) : fcmp .eql .f64 x 0 = some true := by
  have o3 : FloatKind.f64.format.order x 0 = some (compare (key x) (key 0)) := order_key h fin_0.1
  rw [fin_0.2, h0] at o3
  simp only [fcmp, o3]
  rfl
theorem eql_ninf {x : Nat} (h : Fin x) : fcmp .eql .f64 x 18442240474082181120 = some false := by
  simp only [fcmp, (ord_inf h).1]
  rfl

noncomputable def uObls (x : Nat) (c : Bool) : List Obl :=
  [.cmp .neq 24 (.float .f64 x) (.float .f64 x) false, .cmp .neq 24 (.float .f64 9218868437227405312) (.float .f64 9218868437227405312) false,
   .cmp .eql 24 (.float .f64 x) (.float .f64 9218868437227405312) false, .cmp .eql 24 (.float .f64 x) (.float .f64 0) false,
   .cmp .gtr 24 (.float .f64 9218868437227405312) (.float .f64 x) true, .cmp .gtr 24 (.float .f64 x) (.float .f64 0) c,
   .row (orcD 12).row 76 #[.float .f64 x] (.int .u64 (Int.ofNat x))]

theorem pinf_self : cmpV Try.prog .neq 24 (.float .f64 9218868437227405312) (.float .f64 9218868437227405312) = some false := by kernel_rfl
theorem ninf_self : cmpV Try.prog .neq 24 (.float .f64 18442240474082181120) (.float .f64 18442240474082181120) = some false := by kernel_rfl

theorem uObls_ok {x : Nat} (h : Fin x) (h0 : key x ≠ 0) : okAll Try.prog (uObls x (decide (0 < key x))) := by
  obtain ⟨_, c2, _, c4⟩ := cmps h h0
  obtain ⟨u1, u2⟩ := cmps_up h
  exact ⟨cmp_self h, pinf_self, (fc _ rfl _ _).trans u1, (fc _ rfl _ _).trans c2, (fc _ rfl _ _).trans u2, (fc _ rfl _ _).trans c4, row_bits h, trivial⟩

theorem up_pos {x : Nat} (h : Fin x) (h0 : 0 < key x) : Runs Try.prog 92 #[.float .f64 x] #[] (.float .f64 (IntKind.u64.wrap ((x : Int) + 1)).toNat) #[] := by
  have hk := uObls_ok h (by omega)
  rw [decide_eq_true h0] at hk
  exact askN_runs (ask := askX) (askC := fltC) (d := 12) (s := [yes false, yes false, yes false, yes false, yes true, yes true, isU x]) (l := uObls x true) (by kernel_rfl) hk

theorem up_neg {x : Nat} (h : Fin x) (h0 : key x < 0) : Runs Try.prog 92 #[.float .f64 x] #[] (.float .f64 (IntKind.u64.wrap ((x : Int) - 1)).toNat) #[] := by
  have hk := uObls_ok h (by omega)
  rw [decide_eq_false (by omega)] at hk
  exact askN_runs (ask := askX) (askC := fltC) (d := 12) (s := [yes false, yes false, yes false, yes false, yes true, yes false, isU x]) (l := uObls x false) (by kernel_rfl) hk

theorem up_key {x : Nat} (hx : x < 18446744073709551616) (h : Fin x) (h0 : key x ≠ 0) (hm : x % 9223372036854775808 + 1 < 9218868437227405312) :
    ∃ d, d < 18446744073709551616 ∧ Runs Try.prog 92 #[.float .f64 x] #[] (.float .f64 d) #[] ∧ Fin d ∧ key x < key d := by
  obtain ⟨s, r, hr, hw, hrx⟩ := fin_word hx h
  rw [← hrx] at hm
  have hk := (key_word s hr).2
  rw [← hw] at hk
  cases s with
  | false =>
    simp only [Bool.false_eq_true, if_false] at hk
    have hp : 0 < r := rungK_pos (by omega)
    have hxr : x = r := by rw [hw]; rfl
    have hd := up_pos h (by omega)
    have e : (IntKind.u64.wrap ((x : Int) + 1)).toNat = r + 1 := by rw [wrap_u64 (by omega) (by omega)]; omega
    rw [e] at hd
    obtain ⟨g1, g2⟩ := key_word false (r := r + 1) hm
    have e2 : Ieee.double.word false (r + 1) = r + 1 := rfl
    rw [e2] at g1 g2
    simp only [Bool.false_eq_true, if_false] at g2
    have := rungK_up r
    exact ⟨r + 1, by omega, hd, g1, by omega⟩
  | true =>
    simp only [if_true] at hk
    have hp : 0 < r := rungK_pos (by omega)
    have hxr : x = 9223372036854775808 + r := by rw [hw]; unfold Ieee.Format.word; simp only [if_true, d_sign]
    have hd := up_neg h (by omega)
    have e : (IntKind.u64.wrap ((x : Int) - 1)).toNat = 9223372036854775808 + (r - 1) := by rw [wrap_u64 (by omega) (by omega)]; omega
    rw [e] at hd
    obtain ⟨g1, g2⟩ := key_word true (r := r - 1) (by omega)
    have e2 : Ieee.double.word true (r - 1) = 9223372036854775808 + (r - 1) := by unfold Ieee.Format.word; simp only [if_true, d_sign]
    rw [e2] at g1 g2
    simp only [if_true] at g2
    have := rungK_up (r - 1)
    rw [show r - 1 + 1 = r by omega] at this
    exact ⟨9223372036854775808 + (r - 1), by omega, hd, g1, by omega⟩

theorem down_zero {x : Nat} (h : Fin x) (h0 : key x = 0) : Runs Try.prog 91 #[.float .f64 x] #[] (.float .f64 9223372036854775809) #[] :=
  askN_runs (ask := askX) (askC := fltC) (d := 12) (s := [yes false, yes false, yes false, yes true, isU 1, isU 18442240474082181120])
    (l := [.cmp .neq 24 (.float .f64 x) (.float .f64 x) false, .cmp .neq 24 (.float .f64 18442240474082181120) (.float .f64 18442240474082181120) false, .cmp .eql 24 (.float .f64 x) (.float .f64 18442240474082181120) false, .cmp .eql 24 (.float .f64 x) (.float .f64 0) true,
      .row (orcD 12).row 76 #[.float .f64 1] (.int .u64 (Int.ofNat 1)), .row (orcD 12).row 76 #[.float .f64 18442240474082181120] (.int .u64 (Int.ofNat 18442240474082181120))]) (by kernel_rfl)
    ⟨cmp_self h, ninf_self, (fc _ rfl _ _).trans (eql_ninf h), (fc _ rfl _ _).trans (eql_zero h h0), (by kernel_rfl : (orcD 12).row 76 #[.float .f64 1] = some (.int .u64 (Int.ofNat 1))), (by kernel_rfl : (orcD 12).row 76 #[.float .f64 18442240474082181120] = some (.int .u64 (Int.ofNat 18442240474082181120))), trivial⟩

theorem up_zero {x : Nat} (h : Fin x) (h0 : key x = 0) : Runs Try.prog 92 #[.float .f64 x] #[] (.float .f64 1) #[] :=
  askN_runs (ask := askX) (askC := fltC) (d := 12) (s := [yes false, yes false, yes false, yes true, isU 1, isU 9218868437227405312])
    (l := [.cmp .neq 24 (.float .f64 x) (.float .f64 x) false, .cmp .neq 24 (.float .f64 9218868437227405312) (.float .f64 9218868437227405312) false, .cmp .eql 24 (.float .f64 x) (.float .f64 9218868437227405312) false, .cmp .eql 24 (.float .f64 x) (.float .f64 0) true,
      .row (orcD 12).row 76 #[.float .f64 1] (.int .u64 (Int.ofNat 1)), .row (orcD 12).row 76 #[.float .f64 9218868437227405312] (.int .u64 (Int.ofNat 9218868437227405312))]) (by kernel_rfl)
    ⟨cmp_self h, pinf_self, (fc _ rfl _ _).trans (cmps_up h).1, (fc _ rfl _ _).trans (eql_zero h h0), (by kernel_rfl : (orcD 12).row 76 #[.float .f64 1] = some (.int .u64 (Int.ofNat 1))), (by kernel_rfl : (orcD 12).row 76 #[.float .f64 9218868437227405312] = some (.int .u64 (Int.ofNat 9218868437227405312))), trivial⟩

end Go.Proofs.Ytnbbmihlokajaaa
