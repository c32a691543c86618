/- The numbers that the laws are about: m times two to the k, and from-tos made of such. -/
import Derived.Test.YtdlinjijccnaeaaLdexp
import Derived.Test.YtdlinjijccnaeaaWithin
namespace Go.Proofs.Ytdlinjijccnaeaa
open Go
set_option linter.unusedVariables false
set_option linter.unusedSimpArgs false
set_option maxRecDepth 100000

noncomputable def askNum (f : FuncId) : Nat := if f == 57 || f == 86 then 1 else 0
theorem num_came (m k i j : Int) (r : Nat) : (askN askNum noC 12 58 #[.int .i64 m, .int .i64 k] #[] [isI i, isI j, isG r]).map (fun r => (r.1, r.2.2)) =
    some (.float .f64 r, [.run 57 #[.int .i64 m, .int .i64 9007199254740992] #[] (.int .i64 i) #[], .run 57 #[.int .i64 k, .int .i64 80] #[] (.int .i64 j) #[],
      .run 86 #[.float .f64 (F (iw (i - 4503599627370496))), .int .i64 (iw (j - 80))] #[] (.float .f64 r) #[]]) := by kernel_rfl

/-- A number is finite, and not great. -/
theorem num_runs (m k : Int) : ∃ b, Runs Try.prog 58 #[.int .i64 m, .int .i64 k] #[] (.float .f64 b) #[] ∧ Bd 1074 b := by
  have i1 := Int.emod_nonneg m (b := 9007199254740992) (by decide)
  have i2 := Int.emod_lt_of_pos m (b := 9007199254740992) (by decide)
  have j1 := Int.emod_nonneg k (b := 80) (by decide)
  have j2 := Int.emod_lt_of_pos k (b := 80) (by decide)
  have w1 := within1 m 9007199254740991 (by decide)
  have w2 := within1 k 79 (by decide)
  rw [show Int.ofNat (9007199254740991 + 1) = 9007199254740992 from rfl] at w1
  rw [show Int.ofNat (79 + 1) = 80 from rfl] at w2
  generalize m % 9007199254740992 = i at *
  generalize k % 80 = j at *
  have e1 : iw (i - 4503599627370496) = i - 4503599627370496 := iw_id (by omega) (by omega)
  have e2 : iw (j - 80) = j - 80 := iw_id (by omega) (by omega)
  suffices h : ∃ b, Runs Try.prog 86 #[.float .f64 (F (i - 4503599627370496)), .int .i64 (j - 80)] #[] (.float .f64 b) #[] ∧ Bd 1074 b by
    obtain ⟨b, h1, h2⟩ := h
    have hc := num_came m k i j b
    rw [e1, e2] at hc
    exact ⟨b, quiet_of' hc ⟨w1, w2, h1, trivial⟩ rfl rfl, h2⟩
  generalize hn : i - 4503599627370496 = n
  by_cases h0 : n = 0
  · subst h0
    exact ⟨_, ldexp_zero _ (F_nn 0) F_zero, (F_rd 0).1, by rw [F_zero]; decide⟩
  · obtain ⟨s1, s2⟩ := F_size h0 (by omega)
    obtain ⟨s, e, l, hs, he, hl, hw⟩ := W3_fields (F n) (F_rd n).1
    have hi := ix_W3 hs he hl
    rw [hw, hi] at s1 s2
    have b1 : 1023 ≤ e ∧ 4503599627370496 * e + l ≤ 1075 * 4503599627370496 := by
      split at s1 <;> omega
    obtain ⟨q, hq⟩ : ∃ q : Nat, (j - 80) + e = q := ⟨((j - 80) + e).toNat, by omega⟩
    rw [hw]
    obtain ⟨r, r1, r2, r3⟩ := ldexp_runs (s := s) (e := e) (l := l) (j := q) (k := j - 80) hs (by omega) hl (by omega) (by omega) (by omega) hq (by omega) (by omega)
    refine ⟨r, r1, r2.1, ?_⟩
    rw [r3, ix_W3 hs (by omega) hl]
    split <;> omega

/-! from-tos -/
noncomputable def askMk (f : FuncId) : Nat := if f == 58 || f == 59 || f == 60 then 1 else 0
noncomputable def numO (m k : Int) (x : Nat) : Obl := .run 58 #[.int .i64 m, .int .i64 k] #[] (.float .f64 x) #[]
noncomputable def absO (x y : Nat) : Obl := .run 60 #[.float .f64 x] #[] (.float .f64 y) #[]
noncomputable def witO (a n k : Int) : Obl := .run 59 #[.int .i64 a, .int .i64 n] #[] (.int .i64 k) #[]
noncomputable def mkR (m k w : Int) (s : List Ans) : Option (Value × List Obl) := (askN askMk noC 12 31 #[.int .i64 m, .int .i64 k, .int .i64 w] #[] s).map (fun r => (r.1, r.2.2))
theorem mk0 (m k w : Int) (x : Nat) : mkR m k w [isG x, isI 0] = some (fl2 x x, [numO m k x, witO w 5 0]) := by kernel_rfl
theorem mk1 (m k w : Int) (x y z : Nat) : mkR m k w [isG x, isI 1, isG y, isG z] = some (fl2 x (fop .add .f64 x z), [numO m k x, witO w 5 1, numO w k y, absO y z]) := by kernel_rfl
theorem mk2 (m k w : Int) (x y z v : Nat) : mkR m k w [isG x, isI 2, isG v, isG y, isG z] = some (fl2 (fop .sub .f64 0 v) z, [numO m k x, witO w 5 2, absO x v, numO w m y, absO y z]) := by kernel_rfl
theorem mk3 (m k w i j : Int) (x : Nat) : mkR m k w [isG x, isI 3, isI i, isI i, isI j] = some (fl2 (F (iw (i - 4))) (F (iw (iw (i - 4) + j))), [numO m k x, witO w 5 3, witO m 9 i, witO m 9 i, witO k 5 j]) := by kernel_rfl
theorem mk4 (m k w : Int) (x : Nat) : mkR m k w [isG x, isI 4] = some (fl2 x (fop .add .f64 x 4607182418800017408), [numO m k x, witO w 5 4]) := by kernel_rfl

theorem Bd.abs {n x : Nat} (h : Bd n x) (hn : n < 2047) : Bd n (fabs x) ∧ 0 ≤ ix (fabs x) := by
  obtain ⟨h1, h2⟩ := abs_ix (h.fi hn).nn
  have := h.2
  exact ⟨⟨h1.1, by omega⟩, by omega⟩

/-- A from-to that is made is right, and its ends are finite and not great. -/
theorem make_runs (m k w : Int) : ∃ a b, Runs Try.prog 31 #[.int .i64 m, .int .i64 k, .int .i64 w] #[] (fl2 a b) #[] ∧ Bd 1075 a ∧ Bd 1075 b ∧ ix a ≤ ix b := by
  have w1 := Int.emod_nonneg w (b := 5) (by decide)
  have w2 := Int.emod_lt_of_pos w (b := 5) (by decide)
  have hw := within2 w 4 (by decide)
  rw [show Int.ofNat (4 + 1) = 5 from rfl] at hw
  generalize hww : w % 5 = v at *
  obtain ⟨x, hx, bx⟩ := num_runs m k
  have c : v = 0 ∨ v = 1 ∨ v = 2 ∨ v = 3 ∨ v = 4 := by omega
  rcases c with rfl | rfl | rfl | rfl | rfl
  · exact ⟨_, _, quiet_of' (mk0 m k w x) ⟨hx, hw, trivial⟩ rfl rfl, bx.mono (by decide), bx.mono (by decide), Int.le_refl _⟩
  · obtain ⟨y, hy, by'⟩ := num_runs w k
    obtain ⟨a1, a2⟩ := by'.abs (by decide)
    exact ⟨_, _, quiet_of' (mk1 m k w x y (fabs y)) ⟨hx, hw, hy, abs_runs (by'.fi (by decide)).nn, trivial⟩ rfl rfl, bx.mono (by decide), bx.add a1 (by decide) (by decide), add_ge (bx.fi (by decide)) (a1.fi (by decide)) a2⟩
  · obtain ⟨y, hy, by'⟩ := num_runs w m
    obtain ⟨a1, a2⟩ := by'.abs (by decide)
    obtain ⟨c1, c2⟩ := bx.abs (by decide)
    obtain ⟨n1, n2⟩ := neg_ix (c1.fi (by decide)).nn
    have c3 := c1.2
    refine ⟨_, _, quiet_of' (mk2 m k w x y (fabs y) (fabs x)) ⟨hx, hw, abs_runs (bx.fi (by decide)).nn, hy, abs_runs (by'.fi (by decide)).nn, trivial⟩ rfl rfl, ⟨n1.1, ?_⟩, a1.mono (by decide), ?_⟩
    · rw [n2]; omega
    · rw [n2]; omega
  · have i1 := Int.emod_nonneg m (b := 9) (by decide)
    have i2 := Int.emod_lt_of_pos m (b := 9) (by decide)
    have j1 := Int.emod_nonneg k (b := 5) (by decide)
    have j2 := Int.emod_lt_of_pos k (b := 5) (by decide)
    have wi := within2 m 8 (by decide)
    have wj := within2 k 4 (by decide)
    rw [show Int.ofNat (8 + 1) = 9 from rfl] at wi
    rw [show Int.ofNat (4 + 1) = 5 from rfl] at wj
    generalize m % 9 = i at *
    generalize k % 5 = j at *
    have e1 : iw (i - 4) = i - 4 := iw_id (by omega) (by omega)
    have e2 : iw (i - 4 + j) = i - 4 + j := iw_id (by omega) (by omega)
    have hc := mk3 m k w i j x
    rw [e1, e2] at hc
    have sz : ∀ n : Int, n.natAbs ≤ 4503599627370496 → Bd 1075 (F n) := by
      intro n hn
      by_cases h0 : n = 0
      · subst h0
        exact ⟨(F_rd 0).1, by rw [F_zero]; decide⟩
      · exact ⟨(F_rd n).1, (F_size h0 hn).2⟩
    exact ⟨_, _, quiet_of' hc ⟨hx, hw, wi, wi, wj, trivial⟩ rfl rfl, sz _ (by omega), sz _ (by omega), F_le (by omega)⟩
  · have b1 : Bd 1074 4607182418800017408 := ⟨by decide, by decide⟩
    exact ⟨_, _, quiet_of' (mk4 m k w x) ⟨hx, hw, trivial⟩ rfl rfl, bx.mono (by decide), bx.add b1 (by decide) (by decide), add_ge (bx.fi (by decide)) (b1.fi (by decide)) (by decide)⟩

end Go.Proofs.Ytdlinjijccnaeaa
