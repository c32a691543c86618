/- tape.Check and the document's Check tell the same of any tape, in any memory. -/
import Derived.Test.YtpmdpbljgidllaaTkA
import Derived.Test.YtpmdpbljgidllaaTkB
namespace Go.Proofs.Ytpmdpbljgidllaa
open Go
set_option linter.unusedVariables false
set_option linter.unusedSimpArgs false
set_option maxRecDepth 100000

theorem cpT_lss (a b : Int) (c : Bool) (h : decide (a < b) = c) : (cpT .lss a b c).ok Try.prog := by
  subst h
  exact cmp_lss a b
theorem cpT_gtr (a b : Int) (c : Bool) (h : decide (a > b) = c) : (cpT .gtr a b c).ok Try.prog := by
  subst h
  show cmpV Try.prog .gtr 3 (.int .i64 a) (.int .i64 b) = some (decide (a > b))
  kernel_rfl
theorem cpT_geq (a b : Int) (c : Bool) (h : decide (a ≥ b) = c) : (cpT .geq a b c).ok Try.prog := by
  subst h
  exact cmp_geqT a b
theorem cpT_neq (a b : Int) (c : Bool) (h : decide (a ≠ b) = c) : (cpT .neq a b c).ok Try.prog := by
  have g : cmpV Try.prog .neq 3 (.int .i64 a) (.int .i64 b) = some (!decide (a = b)) := by kernel_rfl
  subst h
  exact g.trans (congrArg some (by by_cases e : a = b <;> simp [e]))
theorem adT_ok {k : Int} (h0 : 0 ≤ k) (h1 : k < 9223372036854775806) : (adT k).ok Try.prog := by
  have h : pureV Try.prog (binOp .add 3 (.int .i64 k) (.int .i64 1)) = some (.int .i64 (IntKind.i64.wrap (k + 1))) := by kernel_rfl
  rw [wrap_id (by omega) (by omega)] at h
  exact h
theorem sc (k : Nat) : ((k + 1 : Nat) : Int) = (k : Int) + 1 := rfl

/-- A tape in a small memory: the numbers that it leads to. -/
structure TkIn (c0 c1 : Option ABlk) (N : Int) (a : Option Addr) (n ca : Nat) (b : Option Addr) (m cb : Nat) (O : Nat → OpD) (u : Nat → Int) (c : Nat → Bool) : Prop where
  p0 : PlO c0
  p1 : PlO c1
  rA : RelA 3 (fun b => ([0, 1, 2] : List Nat).getD b 0) (.slice a n ca) (.slice a n ca)
  rB : RelA 3 (fun b => ([0, 1, 2] : List Nat).getD b 0) (.slice b m cb) (.slice b m cb)
  op : ∀ k : Nat, k < n → ∃ p, (ixO a n ca k p).ok Try.prog ∧ (rdO (HTc c0 c1 N a n ca b m cb) p (opV (O k).K (O k).A (O k).B (O k).C)).ok Try.prog
  ou : ∀ k : Nat, k < m → ∃ p, (ixU b m cb k p).ok Try.prog ∧ (rdU (HTc c0 c1 N a n ca b m cb) p (u k)).ok Try.prog
  cc : ∀ k : Nat, k < n → Both 39 41 #[opV (O k).K (O k).A (O k).B (O k).C, .int .i64 (k : Nat), .int .i64 N] (c k)
def allB (c : Nat → Bool) (k d : Nat) : Bool := (List.range' k d).all c
theorem allB_next (c : Nat → Bool) (k d : Nat) : allB c k (d + 1) = (c k && allB c (k + 1) d) := rfl
def inU (n : Nat) (u : Nat → Int) (i : Nat) : Bool := decide (0 ≤ u i) && decide (u i < n)
section
variable {c0 c1 : Option ABlk} {N : Int} {a : Option Addr} {n ca : Nat} {b : Option Addr} {m cb : Nat} {O : Nat → OpD} {u : Nat → Int} {c : Nat → Bool}
theorem TkIn.bs (h : TkIn c0 c1 N a n ca b m cb O u c) : RelBs 3 (fun b => ([0, 1, 2] : List Nat).getD b 0) (HTc c0 c1 N a n ca b m cb) [some c0, some c1, some (bxT N a n ca b m cb)] :=
  relBs_pl h.p0 (relBs_pl h.p1 (.some (RelK.list (.cons (.clos rfl) (.cons h.rA (.cons h.rB .nil)))) .nil))
theorem TkIn.entTa (h : TkIn c0 c1 N a n ca b m cb O u c) (k : Int) : EntOK 2 [1, 29, 30, 31] [0, 1, 2] (59, [ptT 2, .slice a n ca, .int .i64 n, .int .i64 k], [some c0, some c1, some (bxT N a n ca b m cb)]) (tmA 59 (LTa a n ca k)) (HTc c0 c1 N a n ca b m cb).toArray :=
  entOK rfl (by decide) (by decide) (.cons (.ptr 2 2 0 none (show (2 : Nat) < 3 by decide) rfl) (.cons h.rA (.cons (.clos rfl) (.cons (.clos rfl) .nil)))) h.bs
theorem TkIn.entTb (h : TkIn c0 c1 N a n ca b m cb O u c) (k : Int) : EntOK 2 [1, 44, 45] [0, 1, 2] (59, [ptT 2, .int .i64 N, .int .i64 k], [some c0, some c1, some (bxT N a n ca b m cb)]) (tmA 59 (LTb N k)) (HTc c0 c1 N a n ca b m cb).toArray :=
  entOK rfl (by decide) (by decide) (.cons (.ptr 2 2 0 none (show (2 : Nat) < 3 by decide) rfl) (.cons (.clos rfl) (.cons (.clos rfl) .nil))) h.bs
theorem TkIn.entRa (h : TkIn c0 c1 N a n ca b m cb O u c) (k : Int) : EntOK 2 [1, 3] [0, 1, 2] (68, [ptT 2, .int .i64 k], [some c0, some c1, some (bxT N a n ca b m cb)]) (tmA 68 (LRa k)) (HTc c0 c1 N a n ca b m cb).toArray :=
  entOK rfl (by decide) (by decide) (.cons (.ptr 2 2 0 none (show (2 : Nat) < 3 by decide) rfl) (.cons (.clos rfl) .nil)) h.bs
theorem TkIn.entRb (h : TkIn c0 c1 N a n ca b m cb O u c) (k : Int) : EntOK 2 [1, 4] [0, 1, 2] (68, [ptT 2, .int .i64 k], [some c0, some c1, some (bxT N a n ca b m cb)]) (tmA 68 (LRb k)) (HTc c0 c1 N a n ca b m cb).toArray :=
  entOK rfl (by decide) (by decide) (.cons (.ptr 2 2 0 none (show (2 : Nat) < 3 by decide) rfl) (.cons (.clos rfl) .nil)) h.bs
theorem TkIn.entNo (h : TkIn c0 c1 N a n ca b m cb O u c) (z : Nat) : EntOK 2 [2] [0, 1] (z, [.bool false], [some c0, some c1]) (tmA z LNo) [c0, c1].toArray :=
  entOK rfl (by decide) (by decide) (.cons (.clos rfl) .nil) (relBs_pl h.p0 (relBs_pl h.p1 .nil))
theorem TkIn.rdsTa (h : TkIn c0 c1 N a n ca b m cb O u c) (hn : n ≤ 1000000) : ∀ (d k : Nat), k + d = n →
    RdsB Try.prog 2 bodyTa (tmA 59 (LTa a n ca k)) (HTc c0 c1 N a n ca b m cb).toArray (if allB c k d then (.exit 0, tmA 59 (LTa a n ca n), (HTc c0 c1 N a n ca b m cb).toArray) else (.ret, tmA 59 LNo, [c0, c1].toArray))
  | 0, k, hk => by
    have : k = n := by omega
    subst this
    exact .last (rndT_to (rdTa_e c0 c1 N a k ca b m cb k) okTa ⟨cpT_lss _ _ _ (decide_eq_false (by omega)), trivial⟩ (h.entTa k)) (by show AExit.exit 0 ≠ .normal; simp)
  | d + 1, k, hk => by
    obtain ⟨p, p1, p2⟩ := h.op k (by omega)
    have hc := (h.cc k (by omega)).1
    rw [allB_next]
    cases e : c k with
    | true =>
      rw [e] at hc
      rw [Bool.true_and]
      have t := TkIn.rdsTa h hn d (k + 1) (by omega)
      rw [sc] at t
      exact .next (rndT_to (rdTa_t c0 c1 N a n ca b m cb k p _ _ _ _) okTa ⟨cpT_lss _ _ _ (decide_eq_true (by omega)), p1, p2, hc, adT_ok (by omega) (by omega), trivial⟩ (h.entTa (k + 1))) t
    | false =>
      rw [e] at hc
      rw [Bool.false_and]
      exact .last (rndT_to (rdTa_f c0 c1 N a n ca b m cb k p _ _ _ _) okTa ⟨cpT_lss _ _ _ (decide_eq_true (by omega)), p1, p2, hc, trivial⟩ (h.entNo 59)) (by show AExit.ret ≠ .normal; simp)
theorem TkIn.rdsRa (h : TkIn c0 c1 N a n ca b m cb O u c) (hn : n ≤ 1000000) : ∀ (d k : Nat), k + d = n →
    RdsB Try.prog 2 bodyRa (tmA 68 (LRa k)) (HTc c0 c1 N a n ca b m cb).toArray (if allB c k d then (.exit 0, tmA 68 (LRa n), (HTc c0 c1 N a n ca b m cb).toArray) else (.ret, tmA 68 LNo, [c0, c1].toArray))
  | 0, k, hk => by
    have : k = n := by omega
    subst this
    exact .last (rndT_to (rdRa_e c0 c1 N a k ca b m cb k) okRa ⟨cpT_lss _ _ _ (decide_eq_false (by omega)), trivial⟩ (h.entRa k)) (by show AExit.exit 0 ≠ .normal; simp)
  | d + 1, k, hk => by
    obtain ⟨p, p1, p2⟩ := h.op k (by omega)
    have hc := (h.cc k (by omega)).2
    rw [allB_next]
    cases e : c k with
    | true =>
      rw [e] at hc
      rw [Bool.true_and]
      have t := TkIn.rdsRa h hn d (k + 1) (by omega)
      rw [sc] at t
      exact .next (rndT_to (rdRa_t c0 c1 N a n ca b m cb k p _ _ _ _) okRa ⟨cpT_lss _ _ _ (decide_eq_true (by omega)), p1, p2, hc, adT_ok (by omega) (by omega), trivial⟩ (h.entRa (k + 1))) t
    | false =>
      rw [e] at hc
      rw [Bool.false_and]
      exact .last (rndT_to (rdRa_f c0 c1 N a n ca b m cb k p _ _ _ _) okRa ⟨cpT_lss _ _ _ (decide_eq_true (by omega)), p1, p2, hc, trivial⟩ (h.entNo 68)) (by show AExit.ret ≠ .normal; simp)
theorem TkIn.rdsTb (h : TkIn c0 c1 N a n ca b m cb O u c) (hm : m ≤ 1000000) (hN : (m : Int) = N) : ∀ (d k : Nat), k + d = m →
    RdsB Try.prog 2 bodyTb (tmA 59 (LTb N k)) (HTc c0 c1 N a n ca b m cb).toArray (if allB (inU n u) k d then (.exit 2, tmA 59 (LTb N N), (HTc c0 c1 N a n ca b m cb).toArray) else (.ret, tmA 59 LNo, [c0, c1].toArray))
  | 0, k, hk => by
    have : (k : Int) = N := by omega
    rw [this]
    exact .last (rndT_to (rdTb_e c0 c1 N a n ca b m cb N) okTb ⟨cpT_lss _ _ _ (decide_eq_false (by omega)), trivial⟩ (h.entTb N)) (by show AExit.exit 2 ≠ .normal; simp)
  | d + 1, k, hk => by
    obtain ⟨p, p1, p2⟩ := h.ou k (by omega)
    have hc := wn_any (u k) n
    rw [allB_next]
    have eb : inU n u k = (decide (0 ≤ u k) && decide (u k < n)) := rfl
    rw [← eb] at hc
    cases e : inU n u k with
    | true =>
      rw [e] at hc
      rw [Bool.true_and]
      have t := TkIn.rdsTb h hm hN d (k + 1) (by omega)
      rw [sc] at t
      exact .next (rndT_to (rdTb_t c0 c1 N a n ca b m cb k p _) okTb ⟨cpT_lss _ _ _ (decide_eq_true (by omega)), p1, p2, hc, adT_ok (by omega) (by omega), trivial⟩ (h.entTb (k + 1))) t
    | false =>
      rw [e] at hc
      rw [Bool.false_and]
      exact .last (rndT_to (rdTb_f c0 c1 N a n ca b m cb k p _) okTb ⟨cpT_lss _ _ _ (decide_eq_true (by omega)), p1, p2, hc, trivial⟩ (h.entNo 59)) (by show AExit.ret ≠ .normal; simp)
theorem TkIn.rdsRb (h : TkIn c0 c1 N a n ca b m cb O u c) (hm : m ≤ 1000000) : ∀ (d k : Nat), k + d = m →
    RdsB Try.prog 2 bodyRb (tmA 68 (LRb k)) (HTc c0 c1 N a n ca b m cb).toArray (if allB (inU n u) k d then (.exit 2, tmA 68 (LRb m), (HTc c0 c1 N a n ca b m cb).toArray) else (.ret, tmA 68 LNo, [c0, c1].toArray))
  | 0, k, hk => by
    have : k = m := by omega
    subst this
    exact .last (rndT_to (rdRb_e c0 c1 N a n ca b k cb k) okRb ⟨cpT_lss _ _ _ (decide_eq_false (by omega)), trivial⟩ (h.entRb k)) (by show AExit.exit 2 ≠ .normal; simp)
  | d + 1, k, hk => by
    obtain ⟨p, p1, p2⟩ := h.ou k (by omega)
    rw [allB_next]
    by_cases e0 : 0 ≤ u k
    · by_cases e1 : u k < n
      · have eb : inU n u k = true := by unfold inU; rw [decide_eq_true e0, decide_eq_true e1]; rfl
        rw [eb, Bool.true_and]
        have t := TkIn.rdsRb h hm d (k + 1) (by omega)
        rw [sc] at t
        exact .next (rndT_to (rdRb_t c0 c1 N a n ca b m cb k p _) okRb ⟨cpT_lss _ _ _ (decide_eq_true (by omega)), p1, p2, cpT_lss _ _ _ (decide_eq_false (by omega)), p1, p2, cpT_geq _ _ _ (decide_eq_false (by omega)), adT_ok (by omega) (by omega), trivial⟩ (h.entRb (k + 1))) t
      · have eb : inU n u k = false := by unfold inU; rw [decide_eq_false e1, Bool.and_false]
        rw [eb, Bool.false_and]
        exact .last (rndT_to (rdRb_g c0 c1 N a n ca b m cb k p _) okRb ⟨cpT_lss _ _ _ (decide_eq_true (by omega)), p1, p2, cpT_lss _ _ _ (decide_eq_false (by omega)), p1, p2, cpT_geq _ _ _ (decide_eq_true (by omega)), trivial⟩ (h.entNo 68)) (by show AExit.ret ≠ .normal; simp)
    · have eb : inU n u k = false := by unfold inU; rw [decide_eq_false e0, Bool.false_and]
      rw [eb, Bool.false_and]
      exact .last (rndT_to (rdRb_f c0 c1 N a n ca b m cb k p _) okRb ⟨cpT_lss _ _ _ (decide_eq_true (by omega)), p1, p2, cpT_lss _ _ _ (decide_eq_true (by omega)), trivial⟩ (h.entNo 68)) (by show AExit.ret ≠ .normal; simp)
theorem TkIn.both (h : TkIn c0 c1 N a n ca b m cb O u c) : ∃ r, Tells 15 #[tvT N a n ca b m cb] #[c0, c1] (.bool r) ∧ Tells 16 #[tvT N a n ca b m cb] #[c0, c1] (.bool r) := by
  by_cases h1 : N < 1
  · exact ⟨false, askT_tells (k := []) (runT_0 c0 c1 N a n ca b m cb) ⟨cpT_lss _ _ _ (decide_eq_true h1), trivial⟩ trivial, askT_tells (k := []) (runR_0 c0 c1 N a n ca b m cb) ⟨cpT_lss _ _ _ (decide_eq_true h1), trivial⟩ trivial⟩
  have g1 := cpT_lss N 1 _ (decide_eq_false h1)
  by_cases h2 : N > 4
  · exact ⟨false, askT_tells (k := []) (runT_1 c0 c1 N a n ca b m cb) ⟨g1, cpT_gtr _ _ _ (decide_eq_true h2), trivial⟩ trivial, askT_tells (k := []) (runR_1 c0 c1 N a n ca b m cb) ⟨g1, cpT_gtr _ _ _ (decide_eq_true h2), trivial⟩ trivial⟩
  have g2 := cpT_gtr N 4 _ (decide_eq_false h2)
  by_cases h3 : (n : Int) > 60
  · exact ⟨false, askT_tells (k := []) (runT_2 c0 c1 N a n ca b m cb) ⟨g1, g2, cpT_gtr _ _ _ (decide_eq_true h3), trivial⟩ trivial, askT_tells (k := []) (runR_2 c0 c1 N a n ca b m cb) ⟨g1, g2, cpT_gtr _ _ _ (decide_eq_true h3), trivial⟩ trivial⟩
  have g3 := cpT_gtr n 60 _ (decide_eq_false h3)
  by_cases h4 : (m : Int) ≠ N
  · exact ⟨false, askT_tells (k := []) (runT_3 c0 c1 N a n ca b m cb) ⟨g1, g2, g3, cpT_neq _ _ _ (decide_eq_true h4), trivial⟩ trivial, askT_tells (k := []) (runR_3 c0 c1 N a n ca b m cb) ⟨g1, g2, g3, cpT_neq _ _ _ (decide_eq_true h4), trivial⟩ trivial⟩
  have g4 := cpT_neq m N _ (decide_eq_false h4)
  have hN : (m : Int) = N := Classical.not_not.1 h4
  have ta := h.rdsTa (by omega) n 0 (by omega)
  have ra := h.rdsRa (by omega) n 0 (by omega)
  have tb := h.rdsTb (by omega) hN m 0 (by omega)
  have rb := h.rdsRb (by omega) m 0 (by omega)
  cases e1 : allB c 0 n with
  | false =>
    rw [e1] at ta ra
    exact ⟨false, askT_tells (runT_4 c0 c1 N a n ca b m cb) ⟨g1, g2, g3, g4, trivial⟩ ⟨⟨_, _, h.entTa 0, ta.loop⟩, trivial⟩, askT_tells (runR_4 c0 c1 N a n ca b m cb) ⟨g1, g2, g3, g4, trivial⟩ ⟨⟨_, _, h.entRa 0, ra.loop⟩, trivial⟩⟩
  | true =>
    rw [e1] at ta ra
    cases e2 : allB (inU n u) 0 m with
    | false =>
      rw [e2] at tb rb
      exact ⟨false, askT_tells (runT_5 c0 c1 N a n ca b m cb) ⟨g1, g2, g3, g4, trivial⟩ ⟨⟨_, _, h.entTa 0, ta.loop⟩, ⟨_, _, h.entTb 0, tb.loop⟩, trivial⟩, askT_tells (runR_5 c0 c1 N a n ca b m cb) ⟨g1, g2, g3, g4, trivial⟩ ⟨⟨_, _, h.entRa 0, ra.loop⟩, ⟨_, _, h.entRb 0, rb.loop⟩, trivial⟩⟩
    | true =>
      rw [e2] at tb rb
      exact ⟨true, askT_tells (runT_6 c0 c1 N a n ca b m cb) ⟨g1, g2, g3, g4, trivial⟩ ⟨⟨_, _, h.entTa 0, ta.loop⟩, ⟨_, _, h.entTb 0, tb.loop⟩, trivial⟩, askT_tells (runR_6 c0 c1 N a n ca b m cb) ⟨g1, g2, g3, g4, trivial⟩ ⟨⟨_, _, h.entRa 0, ra.loop⟩, ⟨_, _, h.entRb 0, rb.loop⟩, trivial⟩⟩
end

end Go.Proofs.Ytpmdpbljgidllaa
