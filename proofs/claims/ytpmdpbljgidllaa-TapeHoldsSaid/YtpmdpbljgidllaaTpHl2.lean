/- TpHl1 / TpHl2: several texts in one. -/
import Derived.Test.YtpmdpbljgidllaaTpHl
/-!  TapeHolds: its runs, of 1 variables. -/
namespace Go.Proofs.Ytpmdpbljgidllaa
open Go
set_option linter.unusedVariables false
set_option linter.unusedSimpArgs false
set_option maxRecDepth 100000

theorem ho_1_0_0_f : HoRun 1 0 0 (fun i => [false].getD i false) := fun _ _ _ _ _ _ _ _ _ _ _ _ _ _ _ _ _ _ _ _ => by kernel_rfl
theorem ho_1_0_0_t : HoRun 1 0 0 (fun i => [true].getD i false) := fun _ _ _ _ _ _ _ _ _ _ _ _ _ _ _ _ _ _ _ _ => by kernel_rfl
theorem ho_1_0_1_f : HoRun 1 0 1 (fun i => [false].getD i false) := fun _ _ _ _ _ _ _ _ _ _ _ _ _ _ _ _ _ _ _ _ => by kernel_rfl
theorem ho_1_0_1_t : HoRun 1 0 1 (fun i => [true].getD i false) := fun _ _ _ _ _ _ _ _ _ _ _ _ _ _ _ _ _ _ _ _ => by kernel_rfl
theorem ho_1_1_0_f : HoRun 1 1 0 (fun i => [false].getD i false) := fun _ _ _ _ _ _ _ _ _ _ _ _ _ _ _ _ _ _ _ _ => by kernel_rfl
theorem ho_1_1_0_t : HoRun 1 1 0 (fun i => [true].getD i false) := fun _ _ _ _ _ _ _ _ _ _ _ _ _ _ _ _ _ _ _ _ => by kernel_rfl
theorem ho_1_1_1_f : HoRun 1 1 1 (fun i => [false].getD i false) := fun _ _ _ _ _ _ _ _ _ _ _ _ _ _ _ _ _ _ _ _ => by kernel_rfl
theorem ho_1_1_1_t : HoRun 1 1 1 (fun i => [true].getD i false) := fun _ _ _ _ _ _ _ _ _ _ _ _ _ _ _ _ _ _ _ _ => by kernel_rfl
theorem hoC_1_0_0 (a : Bool) : HoRun 1 0 0 (fun i => [a].getD i false) := by
  cases a with
  | false =>
    exact ho_1_0_0_f
  | true =>
    exact ho_1_0_0_t
theorem hoC_1_0_1 (a : Bool) : HoRun 1 0 1 (fun i => [a].getD i false) := by
  cases a with
  | false =>
    exact ho_1_0_1_f
  | true =>
    exact ho_1_0_1_t
theorem hoC_1_1_0 (a : Bool) : HoRun 1 1 0 (fun i => [a].getD i false) := by
  cases a with
  | false =>
    exact ho_1_1_0_f
  | true =>
    exact ho_1_1_0_t
theorem hoC_1_1_1 (a : Bool) : HoRun 1 1 1 (fun i => [a].getD i false) := by
  cases a with
  | false =>
    exact ho_1_1_1_f
  | true =>
    exact ho_1_1_1_t
theorem hoA_1 : ∀ (lm lw : Nat), lm ≤ 1 → lw ≤ 1 → ∀ (a : Bool), HoRun 1 lm lw (fun i => [a].getD i false)
  | 0, 0, _, _ => hoC_1_0_0
  | 0, 1, _, _ => hoC_1_0_1
  | 1, 0, _, _ => hoC_1_1_0
  | 1, 1, _, _ => hoC_1_1_1
  | a + 2, _, h, _ => absurd h (by omega)
  | _, b + 2, _, h => absurd h (by omega)

end Go.Proofs.Ytpmdpbljgidllaa

/-!  TapeHolds: its runs, of 2 variables. -/
namespace Go.Proofs.Ytpmdpbljgidllaa
open Go
set_option linter.unusedVariables false
set_option linter.unusedSimpArgs false
set_option maxRecDepth 100000

theorem ho_2_0_0_ff : HoRun 2 0 0 (fun i => [false, false].getD i false) := fun _ _ _ _ _ _ _ _ _ _ _ _ _ _ _ _ _ _ _ _ => by kernel_rfl
theorem ho_2_0_0_ft : HoRun 2 0 0 (fun i => [false, true].getD i false) := fun _ _ _ _ _ _ _ _ _ _ _ _ _ _ _ _ _ _ _ _ => by kernel_rfl
theorem ho_2_0_0_tf : HoRun 2 0 0 (fun i => [true, false].getD i false) := fun _ _ _ _ _ _ _ _ _ _ _ _ _ _ _ _ _ _ _ _ => by kernel_rfl
theorem ho_2_0_0_tt : HoRun 2 0 0 (fun i => [true, true].getD i false) := fun _ _ _ _ _ _ _ _ _ _ _ _ _ _ _ _ _ _ _ _ => by kernel_rfl
theorem ho_2_0_1_ff : HoRun 2 0 1 (fun i => [false, false].getD i false) := fun _ _ _ _ _ _ _ _ _ _ _ _ _ _ _ _ _ _ _ _ => by kernel_rfl
theorem ho_2_0_1_ft : HoRun 2 0 1 (fun i => [false, true].getD i false) := fun _ _ _ _ _ _ _ _ _ _ _ _ _ _ _ _ _ _ _ _ => by kernel_rfl
theorem ho_2_0_1_tf : HoRun 2 0 1 (fun i => [true, false].getD i false) := fun _ _ _ _ _ _ _ _ _ _ _ _ _ _ _ _ _ _ _ _ => by kernel_rfl
theorem ho_2_0_1_tt : HoRun 2 0 1 (fun i => [true, true].getD i false) := fun _ _ _ _ _ _ _ _ _ _ _ _ _ _ _ _ _ _ _ _ => by kernel_rfl
theorem ho_2_0_2_ff : HoRun 2 0 2 (fun i => [false, false].getD i false) := fun _ _ _ _ _ _ _ _ _ _ _ _ _ _ _ _ _ _ _ _ => by kernel_rfl
theorem ho_2_0_2_ft : HoRun 2 0 2 (fun i => [false, true].getD i false) := fun _ _ _ _ _ _ _ _ _ _ _ _ _ _ _ _ _ _ _ _ => by kernel_rfl
theorem ho_2_0_2_tf : HoRun 2 0 2 (fun i => [true, false].getD i false) := fun _ _ _ _ _ _ _ _ _ _ _ _ _ _ _ _ _ _ _ _ => by kernel_rfl
theorem ho_2_0_2_tt : HoRun 2 0 2 (fun i => [true, true].getD i false) := fun _ _ _ _ _ _ _ _ _ _ _ _ _ _ _ _ _ _ _ _ => by kernel_rfl
theorem ho_2_1_0_ff : HoRun 2 1 0 (fun i => [false, false].getD i false) := fun _ _ _ _ _ _ _ _ _ _ _ _ _ _ _ _ _ _ _ _ => by kernel_rfl
theorem ho_2_1_0_ft : HoRun 2 1 0 (fun i => [false, true].getD i false) := fun _ _ _ _ _ _ _ _ _ _ _ _ _ _ _ _ _ _ _ _ => by kernel_rfl
theorem ho_2_1_0_tf : HoRun 2 1 0 (fun i => [true, false].getD i false) := fun _ _ _ _ _ _ _ _ _ _ _ _ _ _ _ _ _ _ _ _ => by kernel_rfl
theorem ho_2_1_0_tt : HoRun 2 1 0 (fun i => [true, true].getD i false) := fun _ _ _ _ _ _ _ _ _ _ _ _ _ _ _ _ _ _ _ _ => by kernel_rfl
theorem ho_2_1_1_ff : HoRun 2 1 1 (fun i => [false, false].getD i false) := fun _ _ _ _ _ _ _ _ _ _ _ _ _ _ _ _ _ _ _ _ => by kernel_rfl
theorem ho_2_1_1_ft : HoRun 2 1 1 (fun i => [false, true].getD i false) := fun _ _ _ _ _ _ _ _ _ _ _ _ _ _ _ _ _ _ _ _ => by kernel_rfl
theorem ho_2_1_1_tf : HoRun 2 1 1 (fun i => [true, false].getD i false) := fun _ _ _ _ _ _ _ _ _ _ _ _ _ _ _ _ _ _ _ _ => by kernel_rfl
theorem ho_2_1_1_tt : HoRun 2 1 1 (fun i => [true, true].getD i false) := fun _ _ _ _ _ _ _ _ _ _ _ _ _ _ _ _ _ _ _ _ => by kernel_rfl
theorem ho_2_1_2_ff : HoRun 2 1 2 (fun i => [false, false].getD i false) := fun _ _ _ _ _ _ _ _ _ _ _ _ _ _ _ _ _ _ _ _ => by kernel_rfl
theorem ho_2_1_2_ft : HoRun 2 1 2 (fun i => [false, true].getD i false) := fun _ _ _ _ _ _ _ _ _ _ _ _ _ _ _ _ _ _ _ _ => by kernel_rfl
theorem ho_2_1_2_tf : HoRun 2 1 2 (fun i => [true, false].getD i false) := fun _ _ _ _ _ _ _ _ _ _ _ _ _ _ _ _ _ _ _ _ => by kernel_rfl
theorem ho_2_1_2_tt : HoRun 2 1 2 (fun i => [true, true].getD i false) := fun _ _ _ _ _ _ _ _ _ _ _ _ _ _ _ _ _ _ _ _ => by kernel_rfl
theorem ho_2_2_0_ff : HoRun 2 2 0 (fun i => [false, false].getD i false) := fun _ _ _ _ _ _ _ _ _ _ _ _ _ _ _ _ _ _ _ _ => by kernel_rfl
theorem ho_2_2_0_ft : HoRun 2 2 0 (fun i => [false, true].getD i false) := fun _ _ _ _ _ _ _ _ _ _ _ _ _ _ _ _ _ _ _ _ => by kernel_rfl
theorem ho_2_2_0_tf : HoRun 2 2 0 (fun i => [true, false].getD i false) := fun _ _ _ _ _ _ _ _ _ _ _ _ _ _ _ _ _ _ _ _ => by kernel_rfl
theorem ho_2_2_0_tt : HoRun 2 2 0 (fun i => [true, true].getD i false) := fun _ _ _ _ _ _ _ _ _ _ _ _ _ _ _ _ _ _ _ _ => by kernel_rfl
theorem ho_2_2_1_ff : HoRun 2 2 1 (fun i => [false, false].getD i false) := fun _ _ _ _ _ _ _ _ _ _ _ _ _ _ _ _ _ _ _ _ => by kernel_rfl
theorem ho_2_2_1_ft : HoRun 2 2 1 (fun i => [false, true].getD i false) := fun _ _ _ _ _ _ _ _ _ _ _ _ _ _ _ _ _ _ _ _ => by kernel_rfl
theorem ho_2_2_1_tf : HoRun 2 2 1 (fun i => [true, false].getD i false) := fun _ _ _ _ _ _ _ _ _ _ _ _ _ _ _ _ _ _ _ _ => by kernel_rfl
theorem ho_2_2_1_tt : HoRun 2 2 1 (fun i => [true, true].getD i false) := fun _ _ _ _ _ _ _ _ _ _ _ _ _ _ _ _ _ _ _ _ => by kernel_rfl
theorem ho_2_2_2_ff : HoRun 2 2 2 (fun i => [false, false].getD i false) := fun _ _ _ _ _ _ _ _ _ _ _ _ _ _ _ _ _ _ _ _ => by kernel_rfl
theorem ho_2_2_2_ft : HoRun 2 2 2 (fun i => [false, true].getD i false) := fun _ _ _ _ _ _ _ _ _ _ _ _ _ _ _ _ _ _ _ _ => by kernel_rfl
theorem ho_2_2_2_tf : HoRun 2 2 2 (fun i => [true, false].getD i false) := fun _ _ _ _ _ _ _ _ _ _ _ _ _ _ _ _ _ _ _ _ => by kernel_rfl
theorem ho_2_2_2_tt : HoRun 2 2 2 (fun i => [true, true].getD i false) := fun _ _ _ _ _ _ _ _ _ _ _ _ _ _ _ _ _ _ _ _ => by kernel_rfl
theorem hoC_2_0_0 (a b : Bool) : HoRun 2 0 0 (fun i => [a, b].getD i false) := by
  cases a with
  | false =>
    cases b with
    | false =>
      exact ho_2_0_0_ff
    | true =>
      exact ho_2_0_0_ft
  | true =>
    cases b with
    | false =>
      exact ho_2_0_0_tf
    | true =>
      exact ho_2_0_0_tt
theorem hoC_2_0_1 (a b : Bool) : HoRun 2 0 1 (fun i => [a, b].getD i false) := by
  cases a with
  | false =>
    cases b with
    | false =>
      exact ho_2_0_1_ff
    | true =>
      exact ho_2_0_1_ft
  | true =>
    cases b with
    | false =>
      exact ho_2_0_1_tf
    | true =>
      exact ho_2_0_1_tt
theorem hoC_2_0_2 (a b : Bool) : HoRun 2 0 2 (fun i => [a, b].getD i false) := by
  cases a with
  | false =>
    cases b with
    | false =>
      exact ho_2_0_2_ff
    | true =>
      exact ho_2_0_2_ft
  | true =>
    cases b with
    | false =>
      exact ho_2_0_2_tf
    | true =>
      exact ho_2_0_2_tt
theorem hoC_2_1_0 (a b : Bool) : HoRun 2 1 0 (fun i => [a, b].getD i false) := by
  cases a with
  | false =>
    cases b with
    | false =>
      exact ho_2_1_0_ff
    | true =>
      exact ho_2_1_0_ft
  | true =>
    cases b with
    | false =>
      exact ho_2_1_0_tf
    | true =>
      exact ho_2_1_0_tt
theorem hoC_2_1_1 (a b : Bool) : HoRun 2 1 1 (fun i => [a, b].getD i false) := by
  cases a with
  | false =>
    cases b with
    | false =>
      exact ho_2_1_1_ff
    | true =>
      exact ho_2_1_1_ft
  | true =>
    cases b with
    | false =>
      exact ho_2_1_1_tf
    | true =>
      exact ho_2_1_1_tt
theorem hoC_2_1_2 (a b : Bool) : HoRun 2 1 2 (fun i => [a, b].getD i false) := by
  cases a with
  | false =>
    cases b with
    | false =>
      exact ho_2_1_2_ff
    | true =>
      exact ho_2_1_2_ft
  | true =>
    cases b with
    | false =>
      exact ho_2_1_2_tf
    | true =>
      exact ho_2_1_2_tt
theorem hoC_2_2_0 (a b : Bool) : HoRun 2 2 0 (fun i => [a, b].getD i false) := by
  cases a with
  | false =>
    cases b with
    | false =>
      exact ho_2_2_0_ff
    | true =>
      exact ho_2_2_0_ft
  | true =>
    cases b with
    | false =>
      exact ho_2_2_0_tf
    | true =>
      exact ho_2_2_0_tt
theorem hoC_2_2_1 (a b : Bool) : HoRun 2 2 1 (fun i => [a, b].getD i false) := by
  cases a with
  | false =>
    cases b with
    | false =>
      exact ho_2_2_1_ff
    | true =>
      exact ho_2_2_1_ft
  | true =>
    cases b with
    | false =>
      exact ho_2_2_1_tf
    | true =>
      exact ho_2_2_1_tt
theorem hoC_2_2_2 (a b : Bool) : HoRun 2 2 2 (fun i => [a, b].getD i false) := by
  cases a with
  | false =>
    cases b with
    | false =>
      exact ho_2_2_2_ff
    | true =>
      exact ho_2_2_2_ft
  | true =>
    cases b with
    | false =>
      exact ho_2_2_2_tf
    | true =>
      exact ho_2_2_2_tt
theorem hoA_2 : ∀ (lm lw : Nat), lm ≤ 2 → lw ≤ 2 → ∀ (a b : Bool), HoRun 2 lm lw (fun i => [a, b].getD i false)
  | 0, 0, _, _ => hoC_2_0_0
  | 0, 1, _, _ => hoC_2_0_1
  | 0, 2, _, _ => hoC_2_0_2
  | 1, 0, _, _ => hoC_2_1_0
  | 1, 1, _, _ => hoC_2_1_1
  | 1, 2, _, _ => hoC_2_1_2
  | 2, 0, _, _ => hoC_2_2_0
  | 2, 1, _, _ => hoC_2_2_1
  | 2, 2, _, _ => hoC_2_2_2
  | a + 3, _, h, _ => absurd h (by omega)
  | _, b + 3, _, h => absurd h (by omega)

end Go.Proofs.Ytpmdpbljgidllaa
