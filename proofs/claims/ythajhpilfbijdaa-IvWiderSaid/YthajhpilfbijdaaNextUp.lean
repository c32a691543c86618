/- The next float up is more; and both at a zero. -/
import Derived.Test.YthajhpilfbijdaaNextKey
namespace Go.Proofs.Ythajhpilfbijdaa
open Go
set_option linter.unusedVariables false
set_option maxRecDepth 100000

theorem ord_pinf {x : Nat} (h : Fin x) : FloatKind.f64.format.order x 9218868437227405312 = some .lt ∧ FloatKind.f64.format.order 9218868437227405312 x = some .gt := by
  obtain ⟨s, m, e, hx⟩ := h
  have hi : Ieee.double.read 9218868437227405312 = .infinity false := by decide +kernel
  constructor
  · show (Ieee.double.read x).order (Ieee.double.read 9218868437227405312) = some .lt
    rw [hx, hi]; rfl
  · show (Ieee.double.read 9218868437227405312).order (Ieee.double.read x) = some .gt
    rw [hx, hi]; rfl

theorem cmps_up {x : Nat} (h : Fin x) : fcmp .eql .f64 x 9218868437227405312 = some false ∧ fcmp .gtr .f64 9218868437227405312 x = some true := by
  obtain ⟨o1, o2⟩ := ord_pinf h
  simp only [fcmp, o1, o2]
  exact ⟨rfl, rfl⟩

theorem eql_zero {x : Nat} (h : Fin x) (h0 : key x = 0) : fcmp .eql .f64 x 0 = some true := by
  have o3 : FloatKind.f64.format.order x 0 = some (compare (key x) (key 0)) := order_key h fin_0.1
  rw [fin_0.2, h0] at o3
  simp only [fcmp, o3]
  rfl
theorem eql_ninf {x : Nat} (h : Fin x) : fcmp .eql .f64 x 18442240474082181120 = some false := by
  simp only [fcmp, (ord_inf h).1]
  rfl

noncomputable def uObls (x : Nat) (c : Bool) : List Obl :=
  [.cmp .neq 24 (.float .f64 x) (.float .f64 x) false, .cmp .neq 24 (.float .f64 9218868437227405312) (.float .f64 9218868437227405312) false,
   .cmp .eql 24 (.float .f64 x) (.float .f64 9218868437227405312) false, .cmp .eql 24 (.float .f64 x) (.float .f64 0) false,
   .cmp .gtr 24 (.float .f64 9218868437227405312) (.float .f64 x) true, .cmp .gtr 24 (.float .f64 x) (.float .f64 0) c,
   .row (orcD 12).row 56 #[.float .f64 x] (.int .u64 (Int.ofNat x))]

theorem pinf_self : cmpV Try.prog .neq 24 (.float .f64 9218868437227405312) (.float .f64 9218868437227405312) = some false := by kernel_rfl
theorem ninf_self : cmpV Try.prog .neq 24 (.float .f64 18442240474082181120) (.float .f64 18442240474082181120) = some false := by kernel_rfl

theorem uObls_ok {x : Nat} (h : Fin x) (h0 : key x ≠ 0) : okAll Try.prog (uObls x (decide (0 < key x))) := by
  obtain ⟨_, c2, _, c4⟩ := cmps h h0
  obtain ⟨u1, u2⟩ := cmps_up h
  exact ⟨cmp_self h, pinf_self, (fc _ rfl _ _).trans u1, (fc _ rfl _ _).trans c2, (fc _ rfl _ _).trans u2, (fc _ rfl _ _).trans c4, row_bits h, trivial⟩

theorem up_pos {x : Nat} (h : Fin x) (h0 : 0 < key x) : Runs Try.prog 68 #[.float .f64 x] #[] (.float .f64 (IntKind.u64.wrap ((x : Int) + 1)).toNat) #[] := by
  have hk := uObls_ok h (by omega)
  rw [decide_eq_true h0] at hk
  exact askN_runs (ask := askX) (askC := fltC) (d := 12) (s := [yes false, yes false, yes false, yes false, yes true, yes true, isU x]) (l := uObls x true) (by kernel_rfl) hk

theorem up_neg {x : Nat} (h : Fin x) (h0 : key x < 0) : Runs Try.prog 68 #[.float .f64 x] #[] (.float .f64 (IntKind.u64.wrap ((x : Int) - 1)).toNat) #[] := by
  have hk := uObls_ok h (by omega)
  rw [decide_eq_false (by omega)] at hk
  exact askN_runs (ask := askX) (askC := fltC) (d := 12) (s := [yes false, yes false, yes false, yes false, yes true, yes false, isU x]) (l := uObls x false) (by kernel_rfl) hk

theorem up_key {x : Nat} (hx : x < 18446744073709551616) (h : Fin x) (h0 : key x ≠ 0) (hm : x % 9223372036854775808 + 1 < 9218868437227405312) :
    ∃ d, d < 18446744073709551616 ∧ Runs Try.prog 68 #[.float .f64 x] #[] (.float .f64 d) #[] ∧ Fin d ∧ key x < key d := by
  obtain ⟨s, r, hr, hw, hrx⟩ := fin_word hx h
  rw [← hrx] at hm
  have hk := (key_word s hr).2
  rw [← hw] at hk
  cases s with
  | false =>
    simp only [Bool.false_eq_true, if_false] at hk
    have hp : 0 < r := rungK_pos (by omega)
    have hxr : x = r := by rw [hw]; rfl
    have hd := up_pos h (by omega)
    have e : (IntKind.u64.wrap ((x : Int) + 1)).toNat = r + 1 := by rw [wrap_u64 (by omega) (by omega)]; omega
    rw [e] at hd
    obtain ⟨g1, g2⟩ := key_word false (r := r + 1) hm
    have e2 : Ieee.double.word false (r + 1) = r + 1 := rfl
    rw [e2] at g1 g2
    simp only [Bool.false_eq_true, if_false] at g2
    have := rungK_up r
    exact ⟨r + 1, by omega, hd, g1, by omega⟩
  | true =>
    simp only [if_true] at hk
    have hp : 0 < r := rungK_pos (by omega)
    have hxr : x = 9223372036854775808 + r := by rw [hw]; unfold Ieee.Format.word; simp only [if_true, d_sign]
    have hd := up_neg h (by omega)
    have e : (IntKind.u64.wrap ((x : Int) - 1)).toNat = 9223372036854775808 + (r - 1) := by rw [wrap_u64 (by omega) (by omega)]; omega
    rw [e] at hd
    obtain ⟨g1, g2⟩ := key_word true (r := r - 1) (by omega)
    have e2 : Ieee.double.word true (r - 1) = 9223372036854775808 + (r - 1) := by unfold Ieee.Format.word; simp only [if_true, d_sign]
    rw [e2] at g1 g2
    simp only [if_true] at g2
    have := rungK_up (r - 1)
    rw [show r - 1 + 1 = r by omega] at this
    exact ⟨9223372036854775808 + (r - 1), by omega, hd, g1, by omega⟩

theorem down_zero {x : Nat} (h : Fin x) (h0 : key x = 0) : Runs Try.prog 67 #[.float .f64 x] #[] (.float .f64 9223372036854775809) #[] :=
  askN_runs (ask := askX) (askC := fltC) (d := 12) (s := [yes false, yes false, yes false, yes true, isU 1, isU 18442240474082181120])
    (l := [.cmp .neq 24 (.float .f64 x) (.float .f64 x) false, .cmp .neq 24 (.float .f64 18442240474082181120) (.float .f64 18442240474082181120) false, .cmp .eql 24 (.float .f64 x) (.float .f64 18442240474082181120) false, .cmp .eql 24 (.float .f64 x) (.float .f64 0) true,
      .row (orcD 12).row 56 #[.float .f64 1] (.int .u64 (Int.ofNat 1)), .row (orcD 12).row 56 #[.float .f64 18442240474082181120] (.int .u64 (Int.ofNat 18442240474082181120))]) (by kernel_rfl)
    ⟨cmp_self h, ninf_self, (fc _ rfl _ _).trans (eql_ninf h), (fc _ rfl _ _).trans (eql_zero h h0), (by kernel_rfl : (orcD 12).row 56 #[.float .f64 1] = some (.int .u64 (Int.ofNat 1))), (by kernel_rfl : (orcD 12).row 56 #[.float .f64 18442240474082181120] = some (.int .u64 (Int.ofNat 18442240474082181120))), trivial⟩

theorem up_zero {x : Nat} (h : Fin x) (h0 : key x = 0) : Runs Try.prog 68 #[.float .f64 x] #[] (.float .f64 1) #[] :=
  askN_runs (ask := askX) (askC := fltC) (d := 12) (s := [yes false, yes false, yes false, yes true, isU 1, isU 9218868437227405312])
    (l := [.cmp .neq 24 (.float .f64 x) (.float .f64 x) false, .cmp .neq 24 (.float .f64 9218868437227405312) (.float .f64 9218868437227405312) false, .cmp .eql 24 (.float .f64 x) (.float .f64 9218868437227405312) false, .cmp .eql 24 (.float .f64 x) (.float .f64 0) true,
      .row (orcD 12).row 56 #[.float .f64 1] (.int .u64 (Int.ofNat 1)), .row (orcD 12).row 56 #[.float .f64 9218868437227405312] (.int .u64 (Int.ofNat 9218868437227405312))]) (by kernel_rfl)
    ⟨cmp_self h, pinf_self, (fc _ rfl _ _).trans (cmps_up h).1, (fc _ rfl _ _).trans (eql_zero h h0), (by kernel_rfl : (orcD 12).row 56 #[.float .f64 1] = some (.int .u64 (Int.ofNat 1))), (by kernel_rfl : (orcD 12).row 56 #[.float .f64 9218868437227405312] = some (.int .u64 (Int.ofNat 9218868437227405312))), trivial⟩

end Go.Proofs.Ythajhpilfbijdaa
