/- Floats of so many binades: their sums and differences; questions in short. -/
import Derived.Test.YtnbbmihlokajaaaStep
import Derived.Test.YtnbbmihlokajaaaWhole
import Derived.Test.YtnbbmihlokajaaaWithin
namespace Go.Proofs.Ytnbbmihlokajaaa
open Go
set_option linter.unusedVariables false
set_option linter.unusedSimpArgs false
set_option maxRecDepth 100000

def cmpF (op : BinOp) (x y : Nat) (c : Bool) : Obl := .cmp op 24 (.float .f64 x) (.float .f64 y) c
def cmpI (op : BinOp) (x y : Int) (c : Bool) : Obl := .cmp op 3 (.int .i64 x) (.int .i64 y) c
def isG (n : Nat) : Ans := ⟨fun _ => .float .f64 n, []⟩
def fl2 (a b : Nat) : Value := .agg #[.float .f64 a, .float .f64 b]

/-- A function that makes no memory that lasts. -/
theorem quiet_of' {ask : FuncId → Nat} {askC : BinOp → Value → Value → Bool} {f : FuncId} {args : Array Value} {s : List Ans} {v : Value} {l : List Obl} (h : (askN ask askC 12 f args #[] s).map (fun r => (r.1, r.2.2)) = some (v, l)) (hl : okAll Try.prog l) (ha : closA args = true) (hv : closN 4 v = true) : Runs Try.prog f args #[] v #[] := by
  obtain ⟨H', h⟩ := tells_of h hl
  exact h.quiet ha hv #[]

/-- No more than n binades. -/
def Bd (n : Nat) (b : Nat) : Prop := b < 18446744073709551616 ∧ (ix b).natAbs ≤ n * 4503599627370496
theorem Bd.fi {n b : Nat} (h : Bd n b) (hn : n < 2047) : Fi b := ⟨h.1, by have := h.2; omega, by have := h.2; omega⟩
theorem Bd.mono {n m b : Nat} (h : Bd n b) (hn : n ≤ m) : Bd m b := ⟨h.1, Nat.le_trans h.2 (Nat.mul_le_mul_right _ hn)⟩

theorem rg_dbl {R : Nat} (h : 4503599627370496 ≤ R) : rg (R + 4503599627370496) = 2 * rg R := by
  unfold rg
  rw [if_neg (by omega), if_neg (by omega)]
  have e1 : (R + 4503599627370496) / 4503599627370496 - 1 = (R / 4503599627370496 - 1) + 1 := by omega
  have e2 : (R + 4503599627370496) % 4503599627370496 = R % 4503599627370496 := by omega
  rw [e1, e2, Nat.pow_succ]
  generalize 2 ^ (R / 4503599627370496 - 1) = P
  rw [Nat.mul_comm P 2, Nat.mul_left_comm]

theorem rk_abs (i : Int) : (rk i).natAbs = rg i.natAbs := by
  unfold rk
  by_cases h : 0 ≤ i
  · rw [if_pos h]
    have : i.toNat = i.natAbs := by omega
    rw [this]; omega
  · rw [if_neg h]
    have : (-i).toNat = i.natAbs := by omega
    rw [this]; omega

theorem Bd.kv {n b : Nat} (h : Bd n b) : (kv b).natAbs ≤ rg (n * 4503599627370496) := by
  unfold Go.Proofs.Ytnbbmihlokajaaa.kv
  rw [rk_abs]
  exact rg_mono' h.2

/-- What is rounded from no more than a rung's size is no more than it. -/
theorem Rd.abs {Q : Nat} {Z i : Int} {R : Nat} (hQ : 0 < Q) (h : Rd Q Z i) (hR : R ≤ 9218868437227405312) (hz : Z.natAbs ≤ rg R * Q) : i.natAbs ≤ R := by
  have e1 : rk (R : Int) * (Q : Int) = ((rg R * Q : Nat) : Int) := by rw [rk_nat, Int.natCast_mul]
  have e2 : rk (-(R : Int)) * (Q : Int) = -((rg R * Q : Nat) : Int) := by rw [rk_neg, Int.neg_mul, rk_nat, Int.natCast_mul]
  have h1 := h.le (j := (R : Int)) hQ (by omega) (by omega) (by rw [e1]; omega)
  have h2 := h.ge (j := -(R : Int)) hQ (by omega) (by omega) (by rw [e2]; omega)
  omega

theorem Bd.add {n x y : Nat} (hx : Bd n x) (hy : Bd n y) (hn : 0 < n) (hn2 : n < 2046) : Bd (n + 1) (fop .add .f64 x y) := by
  have h := add_rd (hx.fi (by omega)) (hy.fi (by omega))
  refine ⟨h.1, h.2.abs (by decide) (by omega) ?_⟩
  have h1 := hx.kv
  have h2 := hy.kv
  have e : rg ((n + 1) * 4503599627370496) = 2 * rg (n * 4503599627370496) := by rw [Nat.add_mul, Nat.one_mul]; exact rg_dbl (by omega)
  rw [e]
  omega
theorem Bd.sub {n x y : Nat} (hx : Bd n x) (hy : Bd n y) (hn : 0 < n) (hn2 : n < 2046) : Bd (n + 1) (fop .sub .f64 x y) := by
  have h := sub_rd (hx.fi (by omega)) (hy.fi (by omega))
  refine ⟨h.1, h.2.abs (by decide) (by omega) ?_⟩
  have h1 := hx.kv
  have h2 := hy.kv
  have e : rg ((n + 1) * 4503599627370496) = 2 * rg (n * 4503599627370496) := by rw [Nat.add_mul, Nat.one_mul]; exact rg_dbl (by omega)
  rw [e]
  omega

/-- What is not less than x and what is added. -/
theorem add_ge {x y : Nat} (hx : Fi x) (hy : Fi y) (h : 0 ≤ ix y) : ix x ≤ ix (fop .add .f64 x y) := by
  have hr := add_rd hx hy
  refine hr.2.ge (by decide) (Int.le_of_lt hx.2.1) (Int.le_of_lt hx.2.2) ?_
  have h2 : rk 0 ≤ kv y := rk_le h
  rw [rk_zero] at h2
  show rk (ix x) * ((1 : Nat) : Int) ≤ kv x + kv y
  unfold kv at *
  omega
theorem sub_le {x y : Nat} (hx : Fi x) (hy : Fi y) (h : 0 ≤ ix y) : ix (fop .sub .f64 x y) ≤ ix x := by
  have hr := sub_rd hx hy
  refine hr.2.le (by decide) (Int.le_of_lt hx.2.1) (Int.le_of_lt hx.2.2) ?_
  have h2 : rk 0 ≤ kv y := rk_le h
  rw [rk_zero] at h2
  show kv x - kv y ≤ rk (ix x) * ((1 : Nat) : Int)
  unfold kv at *
  omega
theorem fi_zero : Fi 0 ∧ ix 0 = 0 := ⟨⟨by decide, by decide, by decide⟩, by decide⟩
/-- Nought less a number is it, turned. -/
theorem neg_ix {x : Nat} (h : NN x) : NN (fop .sub .f64 0 x) ∧ ix (fop .sub .f64 0 x) = -ix x := by
  by_cases hf : Fi x
  · have hr := sub_rd fi_zero.1 hf
    have e : kv 0 - kv x = rk (-ix x) * ((1 : Nat) : Int) := by
      rw [rk_neg]
      unfold kv
      rw [fi_zero.2, rk_zero]
      omega
    rw [e] at hr
    exact ⟨hr.nn, hr.2.eq (by decide) (by have := h.2; omega) (by have := h.2; omega)⟩
  · rcases read_inf h hf with ⟨rfl, e⟩ | ⟨rfl, e⟩
    · have h2 : fop .sub .f64 0 9218868437227405312 = 18442240474082181120 := by decide +kernel
      rw [h2, e]
      exact ⟨⟨by decide, by decide, by decide⟩, by decide⟩
    · have h2 : fop .sub .f64 0 18442240474082181120 = 9218868437227405312 := by decide +kernel
      rw [h2, e]
      exact ⟨⟨by decide, by decide, by decide⟩, by decide⟩

theorem F_one : ix (F 1) = 1023 * 4503599627370496 := by decide +kernel
theorem F_top : ix (F 4503599627370496) = 1075 * 4503599627370496 := by decide +kernel
theorem F_mone : ix (F (-1)) = -(1023 * 4503599627370496) := by decide +kernel
theorem F_mtop : ix (F (-4503599627370496)) = -(1075 * 4503599627370496) := by decide +kernel

theorem F_size {n : Int} (h : n ≠ 0) (hn : n.natAbs ≤ 4503599627370496) : 1023 * 4503599627370496 ≤ (ix (F n)).natAbs ∧ (ix (F n)).natAbs ≤ 1075 * 4503599627370496 := by
  rcases Int.lt_or_lt_of_ne h with hl | hl
  · have h1 := F_le (n := n) (m := -1) (by omega)
    have h2 := F_le (n := -4503599627370496) (m := n) (by omega)
    rw [F_mone] at h1
    rw [F_mtop] at h2
    omega
  · have h1 := F_le (n := 1) (m := n) (by omega)
    have h2 := F_le (n := n) (m := 4503599627370496) (by omega)
    rw [F_one] at h1
    rw [F_top] at h2
    omega

end Go.Proofs.Ytnbbmihlokajaaa
