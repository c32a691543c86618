/- Words as counts, as whole numbers: script's digits and signed, as plain functions of bytes. -/
import Derived.Test.YtameamgamdaibaaDoorScO
namespace Go.Proofs.YtameamgamdaibaaDoor
open Go
set_option linter.unusedVariables false
set_option linter.unusedSimpArgs false
set_option maxRecDepth 100000

/-- A word as a count: the number, whether it is one. -/
def digP (w : List UInt8) : Int × Bool := match Lib.atoiAll w with
  | .ok v => (v, decide (v ≥ 0) && decide (v ≤ 4611686018427387904) && eqU (Lib.itoa v) w)
  | .range => (Lib.atoiSat w, false)
  | _ => (0, false)
def prV (r : Int × Bool) : Value := .tuple #[.int .i64 r.1, .bool r.2]
noncomputable def askDg (g : FuncId) : Nat := if [50, 51].contains g then 1 else 0
def cmDg : BinOp → Value → Value → Bool
  | .geq, .int _ _, _ => true
  | .leq, .int _ _, _ => true
  | .eql, .string _, _ => true
  | _, _, _ => false
def anV (v : Value) : Ans := ⟨fun _ => v, []⟩
noncomputable def obAt (w : List UInt8) (v : Value) : Obl := .run 50 #[stL w] #[] v #[]
def okA (n : Int) : Value := .tuple #[.int .i64 n, .nilIface]
def errA (n : Int) : Value := .tuple #[.int .i64 n, .iface 114 anyV]
noncomputable def obC (op : BinOp) (a b : Int) (c : Bool) : Obl := .cmp op 3 (.int .i64 a) (.int .i64 b) c
theorem dg_err (w : List UInt8) (n : Int) : (askN askDg cmDg 1 27 #[stL w] #[] [anV (errA n)]).map (fun r => (r.1, r.2.2)) = some (prV (n, false), [obAt w (errA n)]) := by kernel_rfl
theorem dg_neg (w : List UInt8) (n : Int) : (askN askDg cmDg 1 27 #[stL w] #[] [anV (okA n), yes false]).map (fun r => (r.1, r.2.2)) = some (prV (n, false), [obAt w (okA n), obC .geq n 0 false]) := by kernel_rfl
theorem dg_big (w : List UInt8) (n : Int) : (askN askDg cmDg 1 27 #[stL w] #[] [anV (okA n), yes true, yes false]).map (fun r => (r.1, r.2.2)) = some (prV (n, false), [obAt w (okA n), obC .geq n 0 true, obC .leq n 4611686018427387904 false]) := by kernel_rfl
theorem dg_eq (w u : List UInt8) (n : Int) (c : Bool) : (askN askDg cmDg 1 27 #[stL w] #[] [anV (okA n), yes true, yes true, anV (stL u), yes c]).map (fun r => (r.1, r.2.2)) =
    some (prV (n, c), [obAt w (okA n), obC .geq n 0 true, obC .leq n 4611686018427387904 true, .run 51 #[.int .i64 n] #[] (stL u) #[], .bin binIv .eql 9 (stL u) (stL w) c]) := by kernel_rfl
theorem cmp_geqI (x y : Int) : cmpV Tryd.prog .geq 3 (.int .i64 x) (.int .i64 y) = some (decide (x ≥ y)) := by kernel_rfl
theorem cmp_leqI (x y : Int) : cmpV Tryd.prog .leq 3 (.int .i64 x) (.int .i64 y) = some (decide (x ≤ y)) := by kernel_rfl
theorem eqlS (u w : List UInt8) : binIv .eql 9 (stL u) (stL w) = some (.bool (eqU u w)) := rfl
theorem atoi_q (w : List UInt8) (hs : w.length < 4294967281) : Runs Tryd.prog 50 #[stL w] #[] (atoiV ⟨w.toArray⟩) #[] := atoi_runs ⟨w.toArray⟩ (show w.length ≤ 281474976710656 by omega) #[]
theorem digits_runs (w : List UInt8) (hs : w.length < 4294967281) (H : AHeap) : Runs Tryd.prog 27 #[stL w] H (prV (digP w)) H := by
  have ha := atoi_q w hs
  unfold atoiV at ha
  rw [bs_st] at ha
  have fin : Tells 27 #[stL w] #[] (prV (digP w)) := by
    unfold digP
    cases h : Lib.atoiAll w with
    | ok v =>
      rw [h] at ha
      simp only at ha ⊢
      obtain ⟨b0, b1⟩ := Lib.atoiAll_bounds h
      by_cases h0 : v ≥ 0
      · by_cases h1 : v ≤ 4611686018427387904
        · have hb : (decide (v ≥ 0) && decide (v ≤ 4611686018427387904) && eqU (Lib.itoa v) w) = eqU (Lib.itoa v) w := by simp [h0, h1]
          rw [hb]
          exact tells_of (dg_eq w (Lib.itoa v) v _) ⟨ha, (cmp_geqI _ _).trans (by simp [h0]), (cmp_leqI _ _).trans (by simp [h1]), itoa_runs v (by omega) (by omega) #[], eqlS _ _, trivial⟩
        · have hb : (decide (v ≥ 0) && decide (v ≤ 4611686018427387904) && eqU (Lib.itoa v) w) = false := by simp [h1]
          rw [hb]
          exact tells_of (dg_big w v) ⟨ha, (cmp_geqI _ _).trans (by simp [h0]), (cmp_leqI _ _).trans (by simp; omega), trivial⟩
      · have hb : (decide (v ≥ 0) && decide (v ≤ 4611686018427387904) && eqU (Lib.itoa v) w) = false := by simp [h0]
        rw [hb]
        exact tells_of (dg_neg w v) ⟨ha, (cmp_geqI _ _).trans (by simp; omega), trivial⟩
    | range =>
      rw [h] at ha
      exact tells_of (dg_err w _) ⟨ha, trivial⟩
    | _ =>
      rw [h] at ha
      exact tells_of (dg_err w _) ⟨ha, trivial⟩
  obtain ⟨H', hr⟩ := fin
  exact hr.quiet (by rfl) (by rfl) H

/-! ### signed -/
def sigP (w : List UInt8) : Int × Bool := match minusC 45 w with
  | (r, false) => digP r
  | (r, true) => (IntKind.i64.wrap (0 - (digP r).1), (digP r).2 && decide ((digP r).1 > 0))
noncomputable def askSg (g : FuncId) : Nat := if [69, 27].contains g then 1 else 0
def cmSg : BinOp → Value → Value → Bool
  | .gtr, .int _ _, _ => true
  | _, _, _ => false
def mnV (r : List UInt8) (b : Bool) : Value := .tuple #[stL r, .bool b]
noncomputable def obDg (w : List UInt8) (r : Int × Bool) : Obl := .run 27 #[stL w] #[] (prV r) #[]
noncomputable def obMn (w r : List UInt8) (b : Bool) : Obl := .run 69 #[stL w, s1 45] #[] (mnV r b) #[]
theorem sg_pos (w r : List UInt8) (n : Int) (c : Bool) : (askN askSg cmSg 1 53 #[stL w] #[] [anV (mnV r false), anV (prV (n, c))]).map (fun r => (r.1, r.2.2)) = some (prV (n, c), [obMn w r false, obDg r (n, c)]) := by kernel_rfl
theorem sg_nf (w r : List UInt8) (n : Int) : (askN askSg cmSg 1 53 #[stL w] #[] [anV (mnV r true), anV (prV (n, false))]).map (fun r => (r.1, r.2.2)) = some (prV (IntKind.i64.wrap (0 - n), false), [obMn w r true, obDg r (n, false)]) := by kernel_rfl
theorem sg_nt (w r : List UInt8) (n : Int) (c : Bool) : (askN askSg cmSg 1 53 #[stL w] #[] [anV (mnV r true), anV (prV (n, true)), yes c]).map (fun r => (r.1, r.2.2)) = some (prV (IntKind.i64.wrap (0 - n), c), [obMn w r true, obDg r (n, true), obC .gtr n 0 c]) := by kernel_rfl
theorem cmp_gtrI (x y : Int) : cmpV Tryd.prog .gtr 3 (.int .i64 x) (.int .i64 y) = some (decide (x > y)) := by kernel_rfl
theorem minus_len (c : Nat) (w : List UInt8) : (minusC c w).1.length ≤ w.length := by
  cases w with
  | nil => simp [minusC]
  | cons x l =>
    simp only [minusC]
    split <;> simp
theorem minus_q (w : List UInt8) : Runs Tryd.prog 69 #[stL w, s1 45] #[] (mnV (minusC 45 w).1 (minusC 45 w).2) #[] := by
  have h := minus1 ⟨w.toArray⟩ 45 #[]
  unfold minusV at h
  rw [bs_st] at h
  exact h
theorem signed_runs (w : List UInt8) (hs : w.length < 4294967281) (H : AHeap) : Runs Tryd.prog 53 #[stL w] H (prV (sigP w)) H := by
  have hm := minus_q w
  have hl := minus_len 45 w
  have fin : Tells 53 #[stL w] #[] (prV (sigP w)) := by
    unfold sigP
    generalize minusC 45 w = mr at hm hl ⊢
    obtain ⟨r, b⟩ := mr
    have hd := digits_runs r (by simp only at hl; omega) #[]
    cases b with
    | false => exact tells_of (sg_pos w r _ _) ⟨hm, hd, trivial⟩
    | true =>
      simp only
      generalize digP r = d at hd ⊢
      obtain ⟨n, c⟩ := d
      cases c with
      | false => exact tells_of (sg_nf w r n) ⟨hm, hd, trivial⟩
      | true =>
        have e : (true && decide (n > 0)) = decide (n > 0) := rfl
        simp only [e]
        exact tells_of (sg_nt w r n _) ⟨hm, hd, cmp_gtrI _ _, trivial⟩
  obtain ⟨H', hr⟩ := fin
  exact hr.quiet (by rfl) (by rfl) H

end Go.Proofs.YtameamgamdaibaaDoor
