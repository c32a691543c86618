/- Words as numbers: script's float, by what math.Ldexp tells. -/
import Derived.Test.YtameamgamdaibaaDoorScD
import Derived.Test.YtameamgamdaibaaDoorLdexp
namespace Go.Proofs.YtameamgamdaibaaDoor
open Go
set_option linter.unusedVariables false
set_option linter.unusedSimpArgs false
set_option maxRecDepth 100000

/-! ### infinite ones -/
def mxW : Nat := 9218868437227405311
/-- Is it an infinite one (of one that is a number)? -/
def infW (x : Nat) : Bool := decide ((ix x).natAbs > mxW)
noncomputable def askIf (g : FuncId) : Nat := if g == 61 then 1 else 0
def cmIf : BinOp → Value → Value → Bool
  | .gtr, .float _ _, _ => true
  | _, _, _ => false
theorem inf_came (x a : Nat) (c : Bool) : (askN askIf cmIf 1 39 #[.float .f64 x, .int .i64 0] #[] [anV (.float .f64 a), yes c]).map (fun r => (r.1, r.2.2)) =
    some (.bool c, [.run 61 #[.float .f64 x] #[] (.float .f64 a) #[], .cmp .gtr 31 (.float .f64 a) (.float .f64 mxW) c]) := by kernel_rfl
theorem inf_runs {x : Nat} (h : NN x) : Runs Tryd.prog 39 #[.float .f64 x, .int .i64 0] #[] (.bool (infW x)) #[] := by
  obtain ⟨ha, hai⟩ := abs_ix h
  have hmax : NN mxW ∧ ix mxW = 9218868437227405311 := ⟨⟨by decide, by decide, by decide⟩, by decide⟩
  have e : decide (ix mxW < ix (fabs x)) = infW x := by
    unfold infW
    rw [hmax.2, hai]
    apply decide_eq_decide.2
    unfold mxW
    constructor <;> intro h <;> omega
  obtain ⟨H', r⟩ := tells_of (inf_came x (fabs x) (infW x)) ⟨abs_runs h, (fc _ rfl _ _).trans ((gtr_ix ha hmax.1).trans (congrArg some e)), trivial⟩
  exact r.quiet rfl rfl #[]
noncomputable def askFn (g : FuncId) : Nat := if g == 39 then 1 else 0
def flV (r : Nat × Bool) : Value := .tuple #[.float .f64 r.1, .bool r.2]
theorem fn_t (x : Nat) : (askN askFn noC 1 54 #[.float .f64 x] #[] [yes true]).map (fun r => (r.1, r.2.2)) = some (flV (0, false), [.run 39 #[.float .f64 x, .int .i64 0] #[] (.bool true) #[]]) := by kernel_rfl
theorem fn_f (x : Nat) : (askN askFn noC 1 54 #[.float .f64 x] #[] [yes false]).map (fun r => (r.1, r.2.2)) = some (flV (x, true), [.run 39 #[.float .f64 x, .int .i64 0] #[] (.bool false) #[]]) := by kernel_rfl
def finP (x : Nat) : Nat × Bool := if infW x then (0, false) else (x, true)
theorem finite_runs {x : Nat} (h : NN x) : Runs Tryd.prog 54 #[.float .f64 x] #[] (flV (finP x)) #[] := by
  have hi := inf_runs h
  unfold finP
  cases hc : infW x with
  | true =>
    rw [hc] at hi
    obtain ⟨H', r⟩ := tells_of (fn_t x) ⟨hi, trivial⟩
    exact r.quiet (by rfl) (by rfl) #[]
  | false =>
    rw [hc] at hi
    obtain ⟨H', r⟩ := tells_of (fn_f x) ⟨hi, trivial⟩
    exact r.quiet (by rfl) (by rfl) #[]

/-! ### what math.Ldexp tells of a whole number, by choice -/
def LdOK (m k : Int) (r : Nat) : Prop := Runs Tryd.prog 11 #[.float .f64 (F m), .int .i64 k] #[] (.float .f64 r) #[] ∧ NN r ∧ ∀ s e l j : Nat, s < 2 → 0 < e → e < 2047 → l < 4503599627370496 → F m = W3 s e l → k + e = j → 0 < j → j < 2047 → ix r = ix (W3 s j l)
noncomputable def ldW (m k : Int) : Nat := open Classical in if h : ∃ r, LdOK m k r then Classical.choose h else 0
theorem ldW_ok {m k : Int} (h : ∃ r, LdOK m k r) : LdOK m k (ldW m k) := by
  unfold ldW
  rw [dif_pos h]
  exact Classical.choose_spec h

/-! ### numbers -/
/-- The two parts of a number's text, if they may be. -/
def numP (w : List UInt8) : Option (Int × Int) := match cutC 112 w with
  | (a, b, has) =>
    if has && (sigP a).2 && (sigP b).2 then
      if (sigP a).1 = 0 then (if (sigP b).1 = 0 then some (0, 0) else none)
      else if (sigP a).1.tmod 2 = 0 ∨ (sigP a).1 ≥ 9007199254740992 ∨ (sigP a).1 ≤ -9007199254740992 ∨ (sigP b).1 < -1074 ∨ (sigP b).1 > 1023 then none
      else some ((sigP a).1, (sigP b).1)
    else none
noncomputable def fltP (w : List UInt8) : Nat × Bool := match numP w with
  | none => (0, false)
  | some (m, k) => if m = 0 then (0, true) else finP (ldW m k)

noncomputable def askFl (g : FuncId) : Nat := if [28, 53, 11, 54].contains g then 1 else 0
def cmFl : BinOp → Value → Value → Bool
  | _, .int _ _, _ => true
  | _, _, _ => false
def ctV (a b : List UInt8) (t : Bool) : Value := .tuple #[stL a, stL b, .bool t]
noncomputable def obCt (w a b : List UInt8) (t : Bool) : Obl := .run 28 #[stL w, s1 112] #[] (ctV a b t) #[]
noncomputable def obSg (w : List UInt8) (r : Int × Bool) : Obl := .run 53 #[stL w] #[] (prV r) #[]
noncomputable def stF (a b : List UInt8) (t : Bool) (p q : Int × Bool) : List Ans := [anV (ctV a b t), anV (prV p), anV (prV q)]
noncomputable def obF (w a b : List UInt8) (t : Bool) (p q : Int × Bool) : List Obl := [obCt w a b t, obSg a p, obSg b q]
def RunF (t c d : Bool) (s : Int → Int → List Ans) (l : Int → Int → List Obl) (v : Value) : Prop := ∀ (w a b : List UInt8) (m k : Int),
  (askN askFl cmFl 1 31 #[stL w] #[] (stF a b t (m, c) (k, d) ++ s m k)).map (fun r => (r.1, r.2.2)) = some (v, obF w a b t (m, c) (k, d) ++ l m k)
theorem fl_1 (c d : Bool) : RunF false c d (fun _ _ => []) (fun _ _ => []) (flV (0, false)) := fun _ _ _ _ _ => by kernel_rfl
theorem fl_2 (d : Bool) : RunF true false d (fun _ _ => []) (fun _ _ => []) (flV (0, false)) := fun _ _ _ _ _ => by kernel_rfl
theorem fl_3 : RunF true true false (fun _ _ => []) (fun _ _ => []) (flV (0, false)) := fun _ _ _ _ _ => by kernel_rfl
theorem fl_4 (e : Bool) : RunF true true true (fun _ _ => [yes true, yes e]) (fun m k => [obC .eql m 0 true, obC .eql k 0 e]) (flV (0, e)) := fun _ _ _ _ _ => by kernel_rfl
def rm2 (m : Int) : Int := m.tmod 2
theorem fl_5 : RunF true true true (fun _ _ => [yes false, yes true]) (fun m k => [obC .eql m 0 false, obC .eql (rm2 m) 0 true]) (flV (0, false)) := fun _ _ _ _ _ => by kernel_rfl
theorem fl_6 : RunF true true true (fun _ _ => [yes false, yes false, yes true]) (fun m k => [obC .eql m 0 false, obC .eql (rm2 m) 0 false, obC .geq m 9007199254740992 true]) (flV (0, false)) := fun _ _ _ _ _ => by kernel_rfl
theorem fl_7 : RunF true true true (fun _ _ => [yes false, yes false, yes false, yes true]) (fun m k => [obC .eql m 0 false, obC .eql (rm2 m) 0 false, obC .geq m 9007199254740992 false, obC .leq m (-9007199254740992) true]) (flV (0, false)) := fun _ _ _ _ _ => by kernel_rfl
theorem fl_8 : RunF true true true (fun _ _ => [yes false, yes false, yes false, yes false, yes true]) (fun m k => [obC .eql m 0 false, obC .eql (rm2 m) 0 false, obC .geq m 9007199254740992 false, obC .leq m (-9007199254740992) false, obC .lss k (-1074) true]) (flV (0, false)) := fun _ _ _ _ _ => by kernel_rfl
theorem fl_9 : RunF true true true (fun _ _ => [yes false, yes false, yes false, yes false, yes false, yes true]) (fun m k => [obC .eql m 0 false, obC .eql (rm2 m) 0 false, obC .geq m 9007199254740992 false, obC .leq m (-9007199254740992) false, obC .lss k (-1074) false, obC .gtr k 1023 true]) (flV (0, false)) := fun _ _ _ _ _ => by kernel_rfl
theorem fl_10 (x y : Nat) (e : Bool) : RunF true true true (fun _ _ => [yes false, yes false, yes false, yes false, yes false, yes false, anV (.float .f64 x), anV (flV (y, e))])
    (fun m k => [obC .eql m 0 false, obC .eql (rm2 m) 0 false, obC .geq m 9007199254740992 false, obC .leq m (-9007199254740992) false, obC .lss k (-1074) false, obC .gtr k 1023 false, .run 11 #[.float .f64 (F m), .int .i64 k] #[] (.float .f64 x) #[], .run 54 #[.float .f64 x] #[] (flV (y, e)) #[]]) (flV (y, e)) := fun _ _ _ _ _ => by kernel_rfl

theorem cmp_eqlI (x y : Int) : cmpV Tryd.prog .eql 3 (.int .i64 x) (.int .i64 y) = some (decide (x = y)) := by kernel_rfl
theorem rm2_eq (m : Int) : rm2 m = m.tmod 2 := rfl
theorem cut_len (c : Nat) : ∀ w : List UInt8, (cutC c w).1.length ≤ w.length ∧ (cutC c w).2.1.length ≤ w.length
  | [] => by simp [cutC]
  | x :: l => by
    have ih := cut_len c l
    simp only [cutC]
    split
    · simp
    · generalize cutC c l = r at ih ⊢
      obtain ⟨a, b, t⟩ := r
      simp only [List.length_cons] at ih ⊢
      omega
theorem cut_q (w : List UInt8) (c : UInt8) (hs : w.length < 4294967281) : Runs Tryd.prog 28 #[stL w, s1 c] #[] (ctV (cutC c.toNat w).1 (cutC c.toNat w).2.1 (cutC c.toNat w).2.2) #[] := by
  have h := cut1 ⟨w.toArray⟩ c hs #[]
  unfold cutV at h
  rw [bs_st] at h
  exact h
theorem float_runs (w : List UInt8) (hs : w.length < 4294967281) (hld : ∀ m k, numP w = some (m, k) → m ≠ 0 → ∃ r, LdOK m k r) (H : AHeap) : Runs Tryd.prog 31 #[stL w] H (flV (fltP w)) H := by
  have hc := cut_q w 112 hs
  have hl := cut_len 112 w
  have fin : Tells 31 #[stL w] #[] (flV (fltP w)) := by
    unfold fltP
    have hn : numP w = numP w := rfl
    conv at hn => rhs; unfold numP
    have e112 : (112 : UInt8).toNat = 112 := rfl
    rw [e112] at hc
    generalize cutC 112 w = ct at hc hl hn
    obtain ⟨a, b, has⟩ := ct
    simp only at hc hl hn
    have ha := signed_runs a (by omega) #[]
    have hb := signed_runs b (by omega) #[]
    generalize sigP a = p at ha hn
    generalize sigP b = q at hb hn
    obtain ⟨m, c⟩ := p
    obtain ⟨k, d⟩ := q
    simp only at hn
    cases has with
    | false => rw [hn]; exact tells_of (fl_1 c d w a b m k) ⟨hc, ha, hb, trivial⟩
    | true =>
      cases c with
      | false => rw [hn]; exact tells_of (fl_2 d w a b m k) ⟨hc, ha, hb, trivial⟩
      | true =>
        cases d with
        | false => rw [hn]; exact tells_of (fl_3 w a b m k) ⟨hc, ha, hb, trivial⟩
        | true =>
          simp only [Bool.and_self, if_true] at hn
          by_cases hm : m = 0
          · rw [if_pos hm] at hn
            by_cases hk : k = 0
            · rw [if_pos hk] at hn
              rw [hn]
              exact tells_of (fl_4 true w a b m k) ⟨hc, ha, hb, (cmp_eqlI _ _).trans (by simp [hm]), (cmp_eqlI _ _).trans (by simp [hk]), trivial⟩
            · rw [if_neg hk] at hn
              rw [hn]
              exact tells_of (fl_4 false w a b m k) ⟨hc, ha, hb, (cmp_eqlI _ _).trans (by simp [hm]), (cmp_eqlI _ _).trans (by simp [hk]), trivial⟩
          · rw [if_neg hm] at hn
            have c0 : cmpV Tryd.prog .eql 3 (.int .i64 m) (.int .i64 0) = some false := (cmp_eqlI _ _).trans (by simp [hm])
            by_cases h5 : m.tmod 2 = 0
            · rw [if_pos (.inl h5)] at hn
              rw [hn]
              exact tells_of (fl_5 w a b m k) ⟨hc, ha, hb, c0, (cmp_eqlI _ _).trans (by simp [rm2_eq, h5]), trivial⟩
            have c5 : cmpV Tryd.prog .eql 3 (.int .i64 (rm2 m)) (.int .i64 0) = some false := (cmp_eqlI _ _).trans (by simp [rm2_eq, h5])
            by_cases h6 : m ≥ 9007199254740992
            · rw [if_pos (.inr (.inl h6))] at hn
              rw [hn]
              exact tells_of (fl_6 w a b m k) ⟨hc, ha, hb, c0, c5, (cmp_geqI _ _).trans (by simp; omega), trivial⟩
            have c6 : cmpV Tryd.prog .geq 3 (.int .i64 m) (.int .i64 9007199254740992) = some false := (cmp_geqI _ _).trans (by simp; omega)
            by_cases h7 : m ≤ -9007199254740992
            · rw [if_pos (.inr (.inr (.inl h7)))] at hn
              rw [hn]
              exact tells_of (fl_7 w a b m k) ⟨hc, ha, hb, c0, c5, c6, (cmp_leqI _ _).trans (by simp; omega), trivial⟩
            have c7 : cmpV Tryd.prog .leq 3 (.int .i64 m) (.int .i64 (-9007199254740992)) = some false := (cmp_leqI _ _).trans (by simp; omega)
            by_cases h8 : k < -1074
            · rw [if_pos (.inr (.inr (.inr (.inl h8))))] at hn
              rw [hn]
              exact tells_of (fl_8 w a b m k) ⟨hc, ha, hb, c0, c5, c6, c7, (cmp_lss _ _).trans (by simp; omega), trivial⟩
            have c8 : cmpV Tryd.prog .lss 3 (.int .i64 k) (.int .i64 (-1074)) = some false := (cmp_lss _ _).trans (by simp; omega)
            by_cases h9 : k > 1023
            · rw [if_pos (.inr (.inr (.inr (.inr h9))))] at hn
              rw [hn]
              exact tells_of (fl_9 w a b m k) ⟨hc, ha, hb, c0, c5, c6, c7, c8, (cmp_gtrI _ _).trans (by simp; omega), trivial⟩
            rw [if_neg (by omega)] at hn
            obtain ⟨hr, hnn, _⟩ := ldW_ok (hld m k hn hm)
            rw [hn]
            simp only [if_neg hm]
            exact tells_of (fl_10 (ldW m k) (finP (ldW m k)).1 (finP (ldW m k)).2 w a b m k) ⟨hc, ha, hb, c0, c5, c6, c7, c8, (cmp_gtrI _ _).trans (by simp; omega), hr, finite_runs hnn, trivial⟩
  obtain ⟨H', hr⟩ := fin
  exact hr.quiet (by rfl) (by rfl) H

end Go.Proofs.YtameamgamdaibaaDoor
