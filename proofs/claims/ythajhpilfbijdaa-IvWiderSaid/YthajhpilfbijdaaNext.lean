/- The next float down, and up: of a positive number and of a negative one. -/
import Derived.Test.YthajhpilfbijdaaWithin
import Derived.Test.YthajhpilfbijdaaFloatK
namespace Go.Proofs.Ythajhpilfbijdaa
open Go
set_option linter.unusedVariables false
set_option maxRecDepth 100000

noncomputable def askX (f : FuncId) : Nat := if f == 56 then 3 else if f == 53 then 0 else 2
def isU (n : Nat) : Ans := ⟨fun _ => .int .u64 (Int.ofNat n), []⟩

theorem cmp_self {x : Nat} (h : Fin x) : cmpV Try.prog .neq 24 (.float .f64 x) (.float .f64 x) = some false := by
  have h2 : FloatKind.f64.format.order x x = some (compare (key x) (key x)) := order_key h h
  show (if FloatKind.f64 = FloatKind.f64 then (if isArith .neq then none else fcmp .neq .f64 x x) else none) = some false
  simp only [if_true, isArith, Bool.false_eq_true, if_false, fcmp]
  rw [h2]
  simp [compare, compareOfLessAndEq]

theorem ord_inf {x : Nat} (h : Fin x) : FloatKind.f64.format.order x 18442240474082181120 = some .gt ∧ FloatKind.f64.format.order 18442240474082181120 x = some .lt := by
  obtain ⟨s, m, e, hx⟩ := h
  have hi : Ieee.double.read 18442240474082181120 = .infinity true := by decide +kernel
  constructor
  · show (Ieee.double.read x).order (Ieee.double.read 18442240474082181120) = some .gt
    rw [hx, hi]; rfl
  · show (Ieee.double.read 18442240474082181120).order (Ieee.double.read x) = some .lt
    rw [hx, hi]; rfl

theorem fin_0 : Fin 0 ∧ key 0 = 0 := by
  have := key_word false (r := 0) (by decide)
  have e : Ieee.double.word false 0 = 0 := rfl
  rw [e] at this
  exact ⟨this.1, by simpa [rungK] using this.2⟩

theorem row_bits {x : Nat} (h : Fin x) : (orcD 12).row 56 #[.float .f64 x] = some (.int .u64 (Int.ofNat x)) := by
  have hn : isNan .f64 x = false := by
    obtain ⟨s, m, e, hx⟩ := h
    show (Ieee.double.read x).isNaN = false
    rw [hx]; rfl
  have e : (orcD 12).row 56 #[.float .f64 x] = if isNan .f64 x then none else some (.int .u64 (Int.ofNat x)) := by kernel_rfl
  rw [e, hn]
  rfl

theorem fc (op : BinOp) (h : isArith op = false) (x y : Nat) : cmpV Try.prog op 24 (.float .f64 x) (.float .f64 y) = fcmp op .f64 x y := by
  show (if FloatKind.f64 = FloatKind.f64 then (if isArith op then none else fcmp op .f64 x y) else none) = _
  rw [if_pos rfl, if_neg (by rw [h]; decide)]

theorem cmps {x : Nat} (h : Fin x) (h0 : key x ≠ 0) :
    fcmp .eql .f64 x 18442240474082181120 = some false ∧ fcmp .eql .f64 x 0 = some false ∧ fcmp .gtr .f64 18442240474082181120 x = some false ∧ fcmp .gtr .f64 x 0 = some (decide (0 < key x)) := by
  obtain ⟨o1, o2⟩ := ord_inf h
  have o3 : FloatKind.f64.format.order x 0 = some (compare (key x) (key 0)) := order_key h fin_0.1
  rw [fin_0.2] at o3
  simp only [fcmp, o1, o2, o3]
  refine ⟨rfl, ?_, rfl, ?_⟩
  · simp only [compare, compareOfLessAndEq]
    by_cases hl : key x < 0
    · simp [hl]
    · simp [hl, h0]
  · simp only [compare, compareOfLessAndEq]
    by_cases hl : key x < 0
    · have : ¬ 0 < key x := by omega
      simp [hl, this]
    · have : 0 < key x := by omega
      simp [hl, h0, this]

noncomputable def nObls (x : Nat) (c : Bool) : List Obl :=
  [.cmp .neq 24 (.float .f64 x) (.float .f64 x) false, .cmp .neq 24 (.float .f64 18442240474082181120) (.float .f64 18442240474082181120) false,
   .cmp .eql 24 (.float .f64 x) (.float .f64 18442240474082181120) false, .cmp .eql 24 (.float .f64 x) (.float .f64 0) false,
   .cmp .gtr 24 (.float .f64 18442240474082181120) (.float .f64 x) false, .cmp .gtr 24 (.float .f64 x) (.float .f64 0) c,
   .row (orcD 12).row 56 #[.float .f64 x] (.int .u64 (Int.ofNat x))]

theorem nObls_ok {x : Nat} (h : Fin x) (h0 : key x ≠ 0) : okAll Try.prog (nObls x (decide (0 < key x))) := by
  obtain ⟨c1, c2, c3, c4⟩ := cmps h h0
  exact ⟨cmp_self h, (by kernel_rfl : cmpV Try.prog .neq 24 (.float .f64 18442240474082181120) (.float .f64 18442240474082181120) = some false), (fc _ rfl _ _).trans c1, (fc _ rfl _ _).trans c2, (fc _ rfl _ _).trans c3, (fc _ rfl _ _).trans c4, row_bits h, trivial⟩

theorem down_pos {x : Nat} (h : Fin x) (h0 : 0 < key x) : Runs Try.prog 67 #[.float .f64 x] #[] (.float .f64 (IntKind.u64.wrap ((x : Int) - 1)).toNat) #[] := by
  have hk := nObls_ok h (by omega)
  rw [decide_eq_true h0] at hk
  exact askN_runs (ask := askX) (askC := fltC) (d := 12) (s := [yes false, yes false, yes false, yes false, yes false, yes true, isU x]) (l := nObls x true) (by kernel_rfl) hk

theorem down_neg {x : Nat} (h : Fin x) (h0 : key x < 0) : Runs Try.prog 67 #[.float .f64 x] #[] (.float .f64 (IntKind.u64.wrap ((x : Int) + 1)).toNat) #[] := by
  have hk := nObls_ok h (by omega)
  rw [decide_eq_false (by omega)] at hk
  exact askN_runs (ask := askX) (askC := fltC) (d := 12) (s := [yes false, yes false, yes false, yes false, yes false, yes false, isU x]) (l := nObls x false) (by kernel_rfl) hk

end Go.Proofs.Ythajhpilfbijdaa
