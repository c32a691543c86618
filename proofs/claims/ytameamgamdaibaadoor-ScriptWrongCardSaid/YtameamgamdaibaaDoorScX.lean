/- The check of the plain text's problem; digits; plain; strings put together. -/
import Derived.Test.YtameamgamdaibaaDoorScW
namespace Go.Proofs.YtameamgamdaibaaDoor
open Go
set_option linter.unusedVariables false
set_option linter.unusedSimpArgs false
set_option maxRecDepth 100000

/-! ### fp.Finite -/
noncomputable def askFi (g : FuncId) : Nat := if g == 39 then 1 else if g == 40 then 2 else 0
def cmFi : BinOp → Value → Value → Bool
  | .neq, .float _ _, _ => true
  | _, _, _ => false
theorem fi_run (x : Nat) : (askT askFi cmFi 58 #[.float .f64 x] #[] [yes false, yes false] []).map (fun r => (r.1, r.2.2.1, slL [] r.2.2.2)) =
    some (.bool true, [.cmp .neq 31 (.float .f64 x) (.float .f64 x) false, .run 39 #[.float .f64 x, .int .i64 0] #[] (.bool false) #[]], []) := by kernel_rfl
theorem fi_ok {x : Nat} (h : Fi x) : Runs Tryd.prog 58 #[.float .f64 x] #[] (.bool true) #[] := by
  have hi := inf_runs h.nn
  have e : infW x = false := by
    unfold infW mxW
    have := h.2
    simp
    omega
  rw [e] at hi
  obtain ⟨H', r⟩ := askT_tells (fi_run x) ⟨(fc _ rfl _ _).trans ((neq_ix h.nn h.nn).trans (by simp)), hi, trivial⟩ trivial
  exact r.quiet rfl rfl #[]

/-! ### the check -/
noncomputable def askCk (g : FuncId) : Nat := if g == 58 then 5 else if [32, 55, 35, 36, 57, 59, 33, 37].contains g then 2 else if [34, 38].contains g then 4 else 0
def cmCk : BinOp → Value → Value → Bool
  | _, .float _ _, _ => true
  | _, _, _ => false
noncomputable def obFi (x : Nat) : Obl := .run 58 #[.float .f64 x] #[] (.bool true) #[]
def obFc (op : BinOp) (x y : Nat) : Obl := .cmp op 31 (.float .f64 x) (.float .f64 y) true
theorem ck_run (C lo hi a c : Nat) : (askT askCk cmCk 19 #[prV0 (dP C lo hi a c)] (froze (okM (dP C lo hi a c))) [yes true, yes true, yes true, yes true, yes true, yes true, yes true, yes true, yes true, yes true, yes true, yes true] [none, none, none, none, none, none]).map (fun r => (r.1, r.2.2.1, slL [] r.2.2.2)) =
    some (.bool true, [obFi C, obFc .leq lo hi, obFi lo, obFi hi, obFc .leq lo 0, obFc .leq 0 hi, obFi a, obFc .gtr a 0, obFi 0, obFc .geq 0 0, obFi c, obFc .gtr c 0], []) := by kernel_rfl
theorem ck_ok {C lo hi a c : Nat} (hC : Fi C) (hlo : Fi lo) (hhi : Fi hi) (ha : Fi a) (hc : Fi c) (l0 : ix lo < 0) (h0 : 0 < ix hi) (a0 : 0 < ix a) (c0 : 0 < ix c) : ChkOk (dP C lo hi a c) true := by
  have hz : Fi 0 ∧ ix 0 = 0 := ⟨⟨by decide, by decide, by decide⟩, by decide⟩
  have fq : ∀ {x : Nat}, Fi x → (obFi x).ok Tryd.prog := fun h => fi_ok h
  obtain ⟨H', r⟩ := askT_tells (ck_run C lo hi a c) ⟨fq hC, (fc _ rfl _ _).trans ((leq_ix hlo.nn hhi.nn).trans (by simp; omega)), fq hlo, fq hhi, (fc _ rfl _ _).trans ((leq_ix hlo.nn hz.1.nn).trans (by rw [hz.2]; simp; omega)), (fc _ rfl _ _).trans ((leq_ix hz.1.nn hhi.nn).trans (by rw [hz.2]; simp; omega)),
    fq ha, (fc _ rfl _ _).trans ((gtr_ix ha.nn hz.1.nn).trans (by rw [hz.2]; simp; omega)), fq hz.1, (fc _ rfl _ _).trans ((geq_ix hz.1.nn hz.1.nn).trans (by simp)), fq hc, (fc _ rfl _ _).trans ((gtr_ix hc.nn hz.1.nn).trans (by rw [hz.2]; simp; omega)), trivial⟩ trivial
  have e : froze (froze (okM (dP C lo hi a c))) = froze (okM (dP C lo hi a c)) := rfl
  exact Runs.reads (by rw [e]; exact r) rfl
theorem dW_ok {C : Nat} (h : Fi C) : ChkOk (dW C) true := by
  have f1 := ld_in (m := -1) (k := 3) (by decide) (by decide) (by decide) (by decide)
  have f2 := ld_in (m := 1) (k := 3) (by decide) (by decide) (by decide) (by decide)
  have f3 := ld_in (m := 1) (k := -3) (by decide) (by decide) (by decide) (by decide)
  have f4 := ld_in (m := 1) (k := 0) (by decide) (by decide) (by decide) (by decide)
  exact ck_ok h f1.1 f2.1 f3.1 f4.1 (f1.2.2 (by decide)) (f2.2.1 (by decide)) (f3.2.1 (by decide)) (f4.2.1 (by decide))

/-! ### strings -/
noncomputable def obSt (a b c : List UInt8) : Obl := .ex ((orcD 12).bin .add 9 (stL a) (stL b) = some (stL c))
theorem str_add {a b : List UInt8} (h : a.length + b.length ≤ 9223372036854775807) : (obSt a b (a ++ b)).ok Tryd.prog := by
  show (if Nat.ble (a.length + b.length) 9223372036854775807 = true then some (stL (a ++ b)) else none) = some (stL (a ++ b))
  rw [if_pos (Nat.ble_eq_true_of_le h)]
theorem decF_len : ∀ f n : Nat, (decF f n).length ≤ f + 1
  | 0, n => Nat.le_refl _
  | f + 1, n => by
    rw [decF]
    split
    · simp
    · have := decF_len f (n / 10)
      simp only [List.length_append, List.length_cons, List.length_nil]
      omega

/-! ### digits -/
noncomputable def askDi (g : FuncId) : Nat := if g == 9 then 1 else if [1000006, 1000009, 1000011].contains g then 7 else 0
def cmDi : BinOp → Value → Value → Bool
  | .geq, .int _ _, _ => true
  | _, _, _ => false
noncomputable def obDi (n : Int) (a : List UInt8) : Obl := .run 9 #[.int .i64 n] #[] (stL a) #[]
theorem di_rec (n q r : Int) (a b c : List UInt8) : (askT askDi cmDi 9 #[.int .i64 n] #[] [yes true, isI q, anV (stL a), isI r, anV (stL b), anV (stL c)] []).map (fun r => (r.1, r.2.2.1, slL [] r.2.2.2)) =
    some (stL c, [.cmp .geq 3 (.int .i64 n) (.int .i64 10) true, .ex (pureV Tryd.prog (binOp .quo 3 (.int .i64 n) (.int .i64 10)) = some (.int .i64 q)), obDi q a, .ex (pureV Tryd.prog (binOp .rem 3 (.int .i64 n) (.int .i64 10)) = some (.int .i64 r)), obDi r b, obSt a b c], []) := by kernel_rfl
theorem di_quo (n : Int) : pureV Tryd.prog (binOp .quo 3 (.int .i64 n) (.int .i64 10)) = some (.int .i64 (IntKind.i64.wrap (n.tdiv 10))) := by kernel_rfl
theorem di_rem (n : Int) : pureV Tryd.prog (binOp .rem 3 (.int .i64 n) (.int .i64 10)) = some (.int .i64 (n.tmod 10)) := by kernel_rfl
theorem di_0 : (askT (fun _ => 0) noC 9 #[.int .i64 0] #[] [] []).map (fun r => (r.1, r.2.2.1, slL [] r.2.2.2)) = some (stL [UInt8.ofNat (48 + 0)], [], []) := by kernel_rfl
theorem di_1 : (askT (fun _ => 0) noC 9 #[.int .i64 1] #[] [] []).map (fun r => (r.1, r.2.2.1, slL [] r.2.2.2)) = some (stL [UInt8.ofNat (48 + 1)], [], []) := by kernel_rfl
theorem di_2 : (askT (fun _ => 0) noC 9 #[.int .i64 2] #[] [] []).map (fun r => (r.1, r.2.2.1, slL [] r.2.2.2)) = some (stL [UInt8.ofNat (48 + 2)], [], []) := by kernel_rfl
theorem di_3 : (askT (fun _ => 0) noC 9 #[.int .i64 3] #[] [] []).map (fun r => (r.1, r.2.2.1, slL [] r.2.2.2)) = some (stL [UInt8.ofNat (48 + 3)], [], []) := by kernel_rfl
theorem di_4 : (askT (fun _ => 0) noC 9 #[.int .i64 4] #[] [] []).map (fun r => (r.1, r.2.2.1, slL [] r.2.2.2)) = some (stL [UInt8.ofNat (48 + 4)], [], []) := by kernel_rfl
theorem di_5 : (askT (fun _ => 0) noC 9 #[.int .i64 5] #[] [] []).map (fun r => (r.1, r.2.2.1, slL [] r.2.2.2)) = some (stL [UInt8.ofNat (48 + 5)], [], []) := by kernel_rfl
theorem di_6 : (askT (fun _ => 0) noC 9 #[.int .i64 6] #[] [] []).map (fun r => (r.1, r.2.2.1, slL [] r.2.2.2)) = some (stL [UInt8.ofNat (48 + 6)], [], []) := by kernel_rfl
theorem di_7 : (askT (fun _ => 0) noC 9 #[.int .i64 7] #[] [] []).map (fun r => (r.1, r.2.2.1, slL [] r.2.2.2)) = some (stL [UInt8.ofNat (48 + 7)], [], []) := by kernel_rfl
theorem di_8 : (askT (fun _ => 0) noC 9 #[.int .i64 8] #[] [] []).map (fun r => (r.1, r.2.2.1, slL [] r.2.2.2)) = some (stL [UInt8.ofNat (48 + 8)], [], []) := by kernel_rfl
theorem di_9 : (askT (fun _ => 0) noC 9 #[.int .i64 9] #[] [] []).map (fun r => (r.1, r.2.2.1, slL [] r.2.2.2)) = some (stL [UInt8.ofNat (48 + 9)], [], []) := by kernel_rfl
theorem di_base {n : Nat} (h : n < 10) : Runs Tryd.prog 9 #[.int .i64 (n : Nat)] #[] (stL [UInt8.ofNat (48 + n)]) #[] := by
  have hh : Tells 9 #[.int .i64 (n : Nat)] #[] (stL [UInt8.ofNat (48 + n)]) := by
    match n, h with
    | 0, _ => exact askT_tells di_0 trivial trivial
    | 1, _ => exact askT_tells di_1 trivial trivial
    | 2, _ => exact askT_tells di_2 trivial trivial
    | 3, _ => exact askT_tells di_3 trivial trivial
    | 4, _ => exact askT_tells di_4 trivial trivial
    | 5, _ => exact askT_tells di_5 trivial trivial
    | 6, _ => exact askT_tells di_6 trivial trivial
    | 7, _ => exact askT_tells di_7 trivial trivial
    | 8, _ => exact askT_tells di_8 trivial trivial
    | 9, _ => exact askT_tells di_9 trivial trivial
  obtain ⟨H', r⟩ := hh
  exact r.quiet rfl rfl #[]
theorem di_F : ∀ (f n : Nat), n < 10 ^ (f + 1) → n < 4611686018427387904 → f < 1000 → Runs Tryd.prog 9 #[.int .i64 (n : Nat)] #[] (stL (decF f n)) #[]
  | 0, n, h, _, _ => di_base (by simpa using h)
  | f + 1, n, h, hb, hf => by
    rw [decF]
    by_cases h10 : n < 10
    · rw [if_pos h10]; exact di_base h10
    · rw [if_neg h10]
      have ih := di_F f (n / 10) (by rw [Nat.pow_succ] at h; omega) (by omega) (by omega)
      have hln := decF_len f (n / 10)
      have rd := di_base (n := n % 10) (by omega)
      have hq : pureV Tryd.prog (binOp .quo 3 (.int .i64 (n : Nat)) (.int .i64 10)) = some (.int .i64 ((n / 10 : Nat) : Int)) := by
        rw [di_quo]
        have e : ((n : Nat) : Int).tdiv 10 = ((n / 10 : Nat) : Int) := rfl
        rw [e, wrap_id (by omega) (by omega)]
      have hr : pureV Tryd.prog (binOp .rem 3 (.int .i64 (n : Nat)) (.int .i64 10)) = some (.int .i64 ((n % 10 : Nat) : Int)) := di_rem _
      obtain ⟨H', r⟩ := askT_tells (di_rec (n : Nat) ((n / 10 : Nat) : Int) ((n % 10 : Nat) : Int) (decF f (n / 10)) [UInt8.ofNat (48 + n % 10)] _) ⟨(cmp_geqI _ _).trans (by simp; omega), hq, ih, hr, rd, str_add (by simp only [List.length_cons, List.length_nil]; omega), trivial⟩ trivial
      exact r.quiet rfl rfl #[]
theorem di_runs {n : Nat} (h : n < 10000) (H : AHeap) : Runs Tryd.prog 9 #[.int .i64 (n : Nat)] H (stL (dec n)) H := (di_F 3 n h (by omega) (by omega)).quiet rfl rfl H

/-! ### plain -/
noncomputable def askPl (g : FuncId) : Nat := if [1000004, 1000005].contains g then 7 else 0
theorem pl_run (x c d : List UInt8) : (askT askPl noC 10 #[stL x] #[] [anV (stL c), anV (stL d)] []).map (fun r => (r.1, r.2.2.1, slL [] r.2.2.2)) =
    some (stL d, [obSt (plA ++ 10 :: (plC ++ [32])) x c, obSt c (10 :: plB) d], []) := by kernel_rfl
theorem pl_runs {x : List UInt8} (hx : x.length ≤ 1000) (H : AHeap) : Runs Tryd.prog 10 #[stL x] H (stL (plainL x)) H := by
  have e : plainL x = (plA ++ 10 :: (plC ++ [32])) ++ x ++ 10 :: plB := by
    unfold plainL
    simp
  rw [e]
  obtain ⟨H', r⟩ := askT_tells (pl_run x _ _) ⟨str_add (by simp only [List.length_append, List.length_cons, List.length_nil, plA, plC]; omega), str_add (by simp only [List.length_append, List.length_cons, List.length_nil, plA, plB, plC]; omega), trivial⟩ trivial
  exact r.quiet rfl rfl H

end Go.Proofs.YtameamgamdaibaaDoor
