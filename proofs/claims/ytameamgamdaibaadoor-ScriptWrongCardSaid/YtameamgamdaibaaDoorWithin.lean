/- What each 'within' tells: the remainder from 0 to n - 1; and how a law's contract becomes its walk. -/
import Derived.Test.YtameamgamdaibaaDoorWithinA
import Derived.Below
namespace Go.Proofs.YtameamgamdaibaaDoor
open Go
open Go.RowKit
set_option linter.unusedVariables false
set_option maxRecDepth 100000

theorem wrap_id {x : Int} (h1 : -9223372036854775808 ≤ x) (h2 : x < 9223372036854775808) : IntKind.i64.wrap x = x := by
  have hb : IntKind.i64.bits = 64 := rfl
  have hs : IntKind.i64.signed = true := rfl
  unfold IntKind.wrap
  simp only [hb, hs, Bool.true_and, decide_eq_true_eq]
  have e1 : (2 : Int) ^ 64 = 18446744073709551616 := by decide
  have e2 : (2 : Int) ^ (64 - 1) = 9223372036854775808 := by decide
  rw [e1, e2]
  split <;> omega

theorem cmp_lss (x y : Int) : cmpV Tryd.prog .lss 3 (.int .i64 x) (.int .i64 y) = some (decide (x < y)) := by kernel_rfl
theorem cmp_geq (x y : Int) : cmpV Tryd.prog .geq 3 (.int .i64 x) (.int .i64 y) = some (decide (x ≥ y)) := by kernel_rfl

theorem emod_of_tmod {a n : Int} (hn : 0 < n) (h : ¬ a.tmod n < 0) : a.tmod n = a % n := by
  have h1 : n * a.tdiv n + a.tmod n = a := Int.mul_tdiv_add_tmod a n
  have h2 : a.tmod n < n := Int.tmod_lt_of_pos a hn
  have h3 : a % n = (a.tmod n + n * a.tdiv n) % n := by rw [Int.add_comm, h1]
  rw [h3, Int.add_mul_emod_self_left, Int.emod_eq_of_lt (by omega) h2]

theorem emod_of_tmod' {a n : Int} (hn : 0 < n) (h : a.tmod n < 0) : a.tmod n + n = a % n := by
  have h1 : n * a.tdiv n + a.tmod n = a := Int.mul_tdiv_add_tmod a n
  have h2 : -n < a.tmod n := by
    have := Int.lt_tmod_of_pos a hn
    omega
  have h3 : a % n = (a.tmod n + n + n * (a.tdiv n - 1)) % n := by
    congr 1
    rw [Int.mul_sub]
    omega
  rw [h3, Int.add_mul_emod_self_left, Int.emod_eq_of_lt (by omega) (by omega)]







theorem within13 (a : Int) (k : Nat) (hk : k < 4611686018427387904) : Runs Tryd.prog 7 #[.int .i64 a, .int .i64 (Int.ofNat (k + 1))] #[] (.int .i64 (a % Int.ofNat (k + 1))) #[] := by
  have hn : (0 : Int) < Int.ofNat (k + 1) := Int.ofNat_lt.2 (Nat.succ_pos k)
  by_cases h : a.tmod (Int.ofNat (k + 1)) < 0
  · have := askN_runs (ask := noF) (askC := intC) (d := 0) (f := 7) (args := #[.int .i64 a, .int .i64 (Int.ofNat (k + 1))]) (H := #[]) (H' := #[]) (s := [yes true]) (v := .int .i64 (IntKind.i64.wrap (a.tmod (Int.ofNat (k + 1)) + Int.ofNat (k + 1)))) (l := [.cmp .lss 3 (.int .i64 (a.tmod (Int.ofNat (k + 1)))) (.int .i64 (Int.ofNat 0)) true]) (by kernel_rfl) ⟨(cmp_lss _ _).trans (by simpa using h), trivial⟩
    rw [emod_of_tmod' hn h, wrap_id (by have := Int.emod_nonneg a (Int.ne_of_gt hn); omega) (by have := Int.emod_lt_of_pos a hn; simp at this ⊢; omega)] at this
    exact this
  · have := askN_runs (ask := noF) (askC := intC) (d := 0) (f := 7) (args := #[.int .i64 a, .int .i64 (Int.ofNat (k + 1))]) (H := #[]) (H' := #[]) (s := [yes false]) (v := .int .i64 (a.tmod (Int.ofNat (k + 1)))) (l := [.cmp .lss 3 (.int .i64 (a.tmod (Int.ofNat (k + 1)))) (.int .i64 (Int.ofNat 0)) false]) (by kernel_rfl) ⟨(cmp_lss _ _).trans (by simpa using h), trivial⟩
    rw [emod_of_tmod hn h] at this
    exact this


noncomputable def askW (f : FuncId) : Nat := bif
  (f == 7) ||
  false then 1 else 0

theorem vrs_clos {args : Array Value} (h : closA args = true) (m : Mp) : VRs m args args :=
  ⟨rfl, fun i h1 h2 => .of_clos m 4 _ ((List.all_eq_true.1 h) _ (by simp))⟩

/-- A law's contract is its walk. -/
theorem walk_of {f : FuncId} {args : Array Value} (h : Tells f args #[] (.bool true)) (hc : closA args = true) (w : World) (hl : Lay w) :
    Calls Tryd.prog f args w fun e w' => e = .returned (.bool true) ∧ Below w.heap.size w w' := by
  obtain ⟨H', hr⟩ := h
  obtain ⟨_, h2⟩ := hr #[] w args (.empty w hl) (vrs_clos hc _)
  refine h2.mono ?_
  rintro e w' ⟨v', m', he, hv, _, hs⟩
  cases hv
  exact ⟨he, hs.os, hs.tape, hs.output, hs.size, fun g hg => hs.keep g hg (by rintro ⟨b, B, l, hb, _⟩; simp at hb)⟩

end Go.Proofs.YtameamgamdaibaaDoor
