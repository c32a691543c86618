/- TapeHolds: its first loop, the rounds in a row. -/
import Derived.Test.YtpmdpbljgidllaaTpHr
namespace Go.Proofs.Ytpmdpbljgidllaa
open Go
set_option linter.unusedVariables false
set_option linter.unusedSimpArgs false
set_option maxRecDepth 100000

theorem rdHA_2 : ∀ k, k < 2 → ∀ e, RdH 2 k e
  | 0, _, false => rdH_2_0_f
  | 0, _, true => rdH_2_0_t
  | 1, _, false => rdH_2_1_f
  | 1, _, true => rdH_2_1_t
  | i + 2, h, _ => absurd h (by omega)
theorem rdHA_3 : ∀ k, k < 3 → ∀ e, RdH 3 k e
  | 0, _, false => rdH_3_0_f
  | 0, _, true => rdH_3_0_t
  | 1, _, false => rdH_3_1_f
  | 1, _, true => rdH_3_1_t
  | 2, _, false => rdH_3_2_f
  | 2, _, true => rdH_3_2_t
  | i + 3, h, _ => absurd h (by omega)
theorem rdHA_4 : ∀ k, k < 4 → ∀ e, RdH 4 k e
  | 0, _, false => rdH_4_0_f
  | 0, _, true => rdH_4_0_t
  | 1, _, false => rdH_4_1_f
  | 1, _, true => rdH_4_1_t
  | 2, _, false => rdH_4_2_f
  | 2, _, true => rdH_4_2_t
  | 3, _, false => rdH_4_3_f
  | 3, _, true => rdH_4_3_t
  | i + 4, h, _ => absurd h (by omega)
theorem rdHA_5 : ∀ k, k < 5 → ∀ e, RdH 5 k e
  | 0, _, false => rdH_5_0_f
  | 0, _, true => rdH_5_0_t
  | 1, _, false => rdH_5_1_f
  | 1, _, true => rdH_5_1_t
  | 2, _, false => rdH_5_2_f
  | 2, _, true => rdH_5_2_t
  | 3, _, false => rdH_5_3_f
  | 3, _, true => rdH_5_3_t
  | 4, _, false => rdH_5_4_f
  | 4, _, true => rdH_5_4_t
  | i + 5, h, _ => absurd h (by omega)
theorem rdHA_6 : ∀ k, k < 6 → ∀ e, RdH 6 k e
  | 0, _, false => rdH_6_0_f
  | 0, _, true => rdH_6_0_t
  | 1, _, false => rdH_6_1_f
  | 1, _, true => rdH_6_1_t
  | 2, _, false => rdH_6_2_f
  | 2, _, true => rdH_6_2_t
  | 3, _, false => rdH_6_3_f
  | 3, _, true => rdH_6_3_t
  | 4, _, false => rdH_6_4_f
  | 4, _, true => rdH_6_4_t
  | 5, _, false => rdH_6_5_f
  | 5, _, true => rdH_6_5_t
  | i + 6, h, _ => absurd h (by omega)
theorem rdHA_7 : ∀ k, k < 7 → ∀ e, RdH 7 k e
  | 0, _, false => rdH_7_0_f
  | 0, _, true => rdH_7_0_t
  | 1, _, false => rdH_7_1_f
  | 1, _, true => rdH_7_1_t
  | 2, _, false => rdH_7_2_f
  | 2, _, true => rdH_7_2_t
  | 3, _, false => rdH_7_3_f
  | 3, _, true => rdH_7_3_t
  | 4, _, false => rdH_7_4_f
  | 4, _, true => rdH_7_4_t
  | 5, _, false => rdH_7_5_f
  | 5, _, true => rdH_7_5_t
  | 6, _, false => rdH_7_6_f
  | 6, _, true => rdH_7_6_t
  | i + 7, h, _ => absurd h (by omega)
theorem rdHA_8 : ∀ k, k < 8 → ∀ e, RdH 8 k e
  | 0, _, false => rdH_8_0_f
  | 0, _, true => rdH_8_0_t
  | 1, _, false => rdH_8_1_f
  | 1, _, true => rdH_8_1_t
  | 2, _, false => rdH_8_2_f
  | 2, _, true => rdH_8_2_t
  | 3, _, false => rdH_8_3_f
  | 3, _, true => rdH_8_3_t
  | 4, _, false => rdH_8_4_f
  | 4, _, true => rdH_8_4_t
  | 5, _, false => rdH_8_5_f
  | 5, _, true => rdH_8_5_t
  | 6, _, false => rdH_8_6_f
  | 6, _, true => rdH_8_6_t
  | 7, _, false => rdH_8_7_f
  | 7, _, true => rdH_8_7_t
  | i + 8, h, _ => absurd h (by omega)
theorem rdHA_9 : ∀ k, k < 9 → ∀ e, RdH 9 k e
  | 0, _, false => rdH_9_0_f
  | 0, _, true => rdH_9_0_t
  | 1, _, false => rdH_9_1_f
  | 1, _, true => rdH_9_1_t
  | 2, _, false => rdH_9_2_f
  | 2, _, true => rdH_9_2_t
  | 3, _, false => rdH_9_3_f
  | 3, _, true => rdH_9_3_t
  | 4, _, false => rdH_9_4_f
  | 4, _, true => rdH_9_4_t
  | 5, _, false => rdH_9_5_f
  | 5, _, true => rdH_9_5_t
  | 6, _, false => rdH_9_6_f
  | 6, _, true => rdH_9_6_t
  | 7, _, false => rdH_9_7_f
  | 7, _, true => rdH_9_7_t
  | 8, _, false => rdH_9_8_f
  | 8, _, true => rdH_9_8_t
  | i + 9, h, _ => absurd h (by omega)
theorem rdHA_10 : ∀ k, k < 10 → ∀ e, RdH 10 k e
  | 0, _, false => rdH_10_0_f
  | 0, _, true => rdH_10_0_t
  | 1, _, false => rdH_10_1_f
  | 1, _, true => rdH_10_1_t
  | 2, _, false => rdH_10_2_f
  | 2, _, true => rdH_10_2_t
  | 3, _, false => rdH_10_3_f
  | 3, _, true => rdH_10_3_t
  | 4, _, false => rdH_10_4_f
  | 4, _, true => rdH_10_4_t
  | 5, _, false => rdH_10_5_f
  | 5, _, true => rdH_10_5_t
  | 6, _, false => rdH_10_6_f
  | 6, _, true => rdH_10_6_t
  | 7, _, false => rdH_10_7_f
  | 7, _, true => rdH_10_7_t
  | 8, _, false => rdH_10_8_f
  | 8, _, true => rdH_10_8_t
  | 9, _, false => rdH_10_9_f
  | 9, _, true => rdH_10_9_t
  | i + 10, h, _ => absurd h (by omega)
theorem rdHA_11 : ∀ k, k < 11 → ∀ e, RdH 11 k e
  | 0, _, false => rdH_11_0_f
  | 0, _, true => rdH_11_0_t
  | 1, _, false => rdH_11_1_f
  | 1, _, true => rdH_11_1_t
  | 2, _, false => rdH_11_2_f
  | 2, _, true => rdH_11_2_t
  | 3, _, false => rdH_11_3_f
  | 3, _, true => rdH_11_3_t
  | 4, _, false => rdH_11_4_f
  | 4, _, true => rdH_11_4_t
  | 5, _, false => rdH_11_5_f
  | 5, _, true => rdH_11_5_t
  | 6, _, false => rdH_11_6_f
  | 6, _, true => rdH_11_6_t
  | 7, _, false => rdH_11_7_f
  | 7, _, true => rdH_11_7_t
  | 8, _, false => rdH_11_8_f
  | 8, _, true => rdH_11_8_t
  | 9, _, false => rdH_11_9_f
  | 9, _, true => rdH_11_9_t
  | 10, _, false => rdH_11_10_f
  | 10, _, true => rdH_11_10_t
  | i + 11, h, _ => absurd h (by omega)
theorem rdHA_12 : ∀ k, k < 12 → ∀ e, RdH 12 k e
  | 0, _, false => rdH_12_0_f
  | 0, _, true => rdH_12_0_t
  | 1, _, false => rdH_12_1_f
  | 1, _, true => rdH_12_1_t
  | 2, _, false => rdH_12_2_f
  | 2, _, true => rdH_12_2_t
  | 3, _, false => rdH_12_3_f
  | 3, _, true => rdH_12_3_t
  | 4, _, false => rdH_12_4_f
  | 4, _, true => rdH_12_4_t
  | 5, _, false => rdH_12_5_f
  | 5, _, true => rdH_12_5_t
  | 6, _, false => rdH_12_6_f
  | 6, _, true => rdH_12_6_t
  | 7, _, false => rdH_12_7_f
  | 7, _, true => rdH_12_7_t
  | 8, _, false => rdH_12_8_f
  | 8, _, true => rdH_12_8_t
  | 9, _, false => rdH_12_9_f
  | 9, _, true => rdH_12_9_t
  | 10, _, false => rdH_12_10_f
  | 10, _, true => rdH_12_10_t
  | 11, _, false => rdH_12_11_f
  | 11, _, true => rdH_12_11_t
  | i + 12, h, _ => absurd h (by omega)
theorem rdH {M : Nat} (h1 : 2 ≤ M) (h2 : M ≤ 12) {k : Nat} (h : k < M) (e : Bool) : RdH M k e := by
  have : M = 2 ∨ M = 3 ∨ M = 4 ∨ M = 5 ∨ M = 6 ∨ M = 7 ∨ M = 8 ∨ M = 9 ∨ M = 10 ∨ M = 11 ∨ M = 12 := by omega
  rcases this with rfl | rfl | rfl | rfl | rfl | rfl | rfl | rfl | rfl | rfl | rfl
  · exact rdHA_2 k h e
  · exact rdHA_3 k h e
  · exact rdHA_4 k h e
  · exact rdHA_5 k h e
  · exact rdHA_6 k h e
  · exact rdHA_7 k h e
  · exact rdHA_8 k h e
  · exact rdHA_9 k h e
  · exact rdHA_10 k h e
  · exact rdHA_11 k h e
  · exact rdHA_12 k h e
theorem rdHEnd {M : Nat} (h1 : 2 ≤ M) (h2 : M ≤ 12) : RdHEnd M := by
  have : M = 2 ∨ M = 3 ∨ M = 4 ∨ M = 5 ∨ M = 6 ∨ M = 7 ∨ M = 8 ∨ M = 9 ∨ M = 10 ∨ M = 11 ∨ M = 12 := by omega
  rcases this with rfl | rfl | rfl | rfl | rfl | rfl | rfl | rfl | rfl | rfl | rfl
  · exact rdHEnd_2
  · exact rdHEnd_3
  · exact rdHEnd_4
  · exact rdHEnd_5
  · exact rdHEnd_6
  · exact rdHEnd_7
  · exact rdHEnd_8
  · exact rdHEnd_9
  · exact rdHEnd_10
  · exact rdHEnd_11
  · exact rdHEnd_12
theorem tmH_back {n : Int} {va vb vc : Value} {i : Nat} {tm' : List Value} (h : slH tm' = (144, [.int .i64 n, va, vb, vc, .bool false, .pointer (some ⟨5, 0, none⟩), .int .i64 (Int.ofNat i)])) : ∃ j', tm' = tmH n va vb vc i j' := by
  unfold slH at h
  simp only [Prod.mk.injEq, List.cons.injEq, and_true] at h
  obtain ⟨hl, t0, t1, t2, t3, t8, t9, t10⟩ := h
  refine ⟨getT tm', (tm_eq hl).trans ?_⟩
  unfold tmH
  apply List.map_congr_left
  intro s _
  split
  · rename_i h; subst h; exact t0
  split
  · rename_i h; subst h; exact t1
  split
  · rename_i h; subst h; exact t2
  split
  · rename_i h; subst h; exact t3
  split
  · rename_i h; subst h; exact t8
  split
  · rename_i h; subst h; exact t9
  split
  · rename_i h; subst h; exact t10
  rfl
/-- The operations when k of them were looked at. -/
def flO (O : Nat → OpD) (fl : Nat → Nat) (k : Nat) (i : Nat) : OpD := if i < k then flH (decide ((O i).K = 0)) (fl i) (O i) else O i
theorem flO_next (O : Nat → OpD) (fl : Nat → Nat) (k : Nat) : (fun i => if i = k then flH (decide ((flO O fl k k).K = 0)) (fl k) (flO O fl k k) else flO O fl k i) = flO O fl (k + 1) := by
  funext i
  have e : flO O fl k k = O k := by unfold flO; rw [if_neg (by omega)]
  rw [e]
  by_cases h : i = k
  · subst h
    rw [if_pos rfl]
    unfold flO
    rw [if_pos (by omega)]
  · rw [if_neg h]
    unfold flO
    by_cases h2 : i < k
    · rw [if_pos h2, if_pos (by omega)]
    · rw [if_neg h2, if_neg (by omega)]
theorem cmp_eqlH (x y : Int) : cmpV Try.prog .eql 3 (.int .i64 x) (.int .i64 y) = some (decide (x = y)) := by kernel_rfl
theorem hs_rds {M : Nat} (h1 : 2 ≤ M) (h2 : M ≤ 12) {b1 b2 b3 : Option ABlk} {n : Int} {va vb vc : Value} {N : Nat} {cu : Array Value} {O : Nat → OpD} {fl : Nat → Nat}
    (hfl : ∀ i, i < M → (O i).K = 0 → Runs Try.prog 32 #[.float .f64 (O i).C] #[] (.float .f64 (fl i)) #[]) : ∀ (d k : Nat), k + d = M → ∀ j : Nat → Value, ∃ j' : Nat → Value,
      Rds (evR Try.prog (Runs Try.prog) (orcD 12) q1 bodyH) (tmH n va vb vc k j) (hpH b1 b2 b3 N M cu (flO O fl k)).toArray (.exit 0, tmH n va vb vc M j', (hpH b1 b2 b3 N M cu (flO O fl M)).toArray)
  | 0, k, hk, j => by
    have hkM : k = M := by omega
    subst hkM
    obtain ⟨tm', H', hx, hev⟩ := rnd_part (g := fun tm H => (slH tm, H)) (rdHEnd h1 h2 b1 b2 b3 n va vb vc N cu (flO O fl k) j) ⟨cmp_ok (decide_eq_false (by omega)), trivial⟩
    simp only [Prod.mk.injEq] at hx
    obtain ⟨hs, rfl⟩ := hx
    obtain ⟨j', rfl⟩ := tmH_back hs
    exact ⟨j', .last hev (by simp)⟩
  | d + 1, k, hk, j => by
    have hlt : k < M := by omega
    have e : flO O fl k k = O k := by unfold flO; rw [if_neg (by omega)]
    obtain ⟨tm', H', hx, hev⟩ := rnd_part (g := fun tm H => (slH tm, H)) (rdH h1 h2 hlt (decide ((flO O fl k k).K = 0)) b1 b2 b3 n va vb vc N cu (flO O fl k) j (fl k)) (okApp ⟨cmp_ok (decide_eq_true hlt), cmp_eqlH _ _, trivial⟩ (by
      by_cases c : (flO O fl k k).K = 0
      · rw [decide_eq_true c, if_pos rfl]
        rw [e] at c ⊢
        exact ⟨hfl k hlt c, trivial⟩
      · rw [decide_eq_false c]
        exact trivial))
    simp only [Prod.mk.injEq] at hx
    obtain ⟨hs, rfl⟩ := hx
    obtain ⟨j1, rfl⟩ := tmH_back hs
    rw [flO_next] at hev
    obtain ⟨j', ht⟩ := hs_rds h1 h2 hfl d (k + 1) (by omega) j1
    exact ⟨j', .next hev ht⟩

end Go.Proofs.Ytpmdpbljgidllaa
