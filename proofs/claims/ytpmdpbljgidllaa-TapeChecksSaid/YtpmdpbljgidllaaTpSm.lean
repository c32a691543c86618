/- The document's Same: two fields that are alike, in any memory. -/
import Derived.Test.YtpmdpbljgidllaaTpSmR
namespace Go.Proofs.Ytpmdpbljgidllaa
open Go
set_option linter.unusedVariables false
set_option linter.unusedSimpArgs false
set_option maxRecDepth 100000

theorem tapeKnownS : Runs Try.prog 12 #[] #[] (.bool true) #[] := by
  have h : (askN noF noC 12 12 #[] #[] []).map (fun r => (r.1, r.2.2)) = some (.bool true, []) := by kernel_rfl
  obtain ⟨H', h⟩ := tells_of h trivial
  exact h.quiet rfl rfl #[]
theorem cmp_neqT (x y : Int) : cmpV Try.prog .neq 3 (.int .i64 x) (.int .i64 y) = some (!decide (x = y)) := by kernel_rfl
theorem neq_ok (x : Int) : (cpO .neq x x false).ok Try.prog := by
  refine (cmp_neqT x x).trans ?_
  simp
theorem sm_at {N M : Nat} (h1 : 1 ≤ N) (h2 : N ≤ 3) (h3 : 2 ≤ M) (h4 : M ≤ 12) (k a b : Nat → Int) (c : Nat → Nat) (u : Nat → Int) :
    Tells 31 #[tpV 0 1 N M, tpV 2 3 N M] #[opBk M k a b c, ouBk N u, opBk M k a b c, ouBk N u] (.bool true) := by
  refine tells_of (sm_run h1 h2 h3 h4 k a b c u) (okApp (okApp ⟨neq_ok _, neq_ok _, neq_ok _, trivial⟩ (each_ok _ _ fun i _ => ⟨neq_ok _, neq_ok _, neq_ok _, same_refl _, trivial⟩)) (map_ok _ _ fun i _ => neq_ok _))
theorem op_range (l : List OpD) : ((List.range l.length).flatMap fun i => [Value.int .i64 (l.getD i ⟨0, 0, 0, 0⟩).K, .int .i64 (l.getD i ⟨0, 0, 0, 0⟩).A, .int .i64 (l.getD i ⟨0, 0, 0, 0⟩).B, .float .f64 (l.getD i ⟨0, 0, 0, 0⟩).C]) = l.flatMap opC := by
  have h := flat_range (f := opC) (fun i => l.getD i ⟨0, 0, 0, 0⟩) l.length
  rw [range_getD] at h
  exact h
theorem ou_range (l : List Int) : ((List.range l.length).flatMap fun i => [Value.int .i64 (l.getD i 0)]) = l.flatMap iC := by
  have h := flat_range (f := iC) (fun i => l.getD i 0) l.length
  rw [range_getD] at h
  exact h
theorem sm_small {N M : Nat} {ops : List OpD} {out : List Int} (h1 : 1 ≤ N) (h2 : N ≤ 3) (h3 : 2 ≤ M) (h4 : M ≤ 12) (hM : ops.length = M) (hN : out.length = N) :
    Tells 31 #[tpV 0 1 N M, tpV 2 3 N M] #[some (opsB ops false), some (intB out false), some (opsB ops false), some (intB out false)] (.bool true) := by
  have h := sm_at h1 h2 h3 h4 (fun i => (ops.getD i ⟨0, 0, 0, 0⟩).K) (fun i => (ops.getD i ⟨0, 0, 0, 0⟩).A) (fun i => (ops.getD i ⟨0, 0, 0, 0⟩).B) (fun i => (ops.getD i ⟨0, 0, 0, 0⟩).C) (fun i => out.getD i 0)
  subst hM hN
  unfold opBk ouBk at h
  rw [op_range, ou_range] at h
  exact h
theorem same_in {N M : Nat} {ops : List OpD} {out : List Int} (h1 : 1 ≤ N) (h2 : N ≤ 3) (h3 : 2 ≤ M) (h4 : M ≤ 12) (hM : ops.length = M) (hN : out.length = N)
    {H : AHeap} {a b c d : Nat} {A B C D : ABlk} (ha : H[a]? = some (some A)) (ea : A.cells = (opsB ops true).cells) (hb : H[b]? = some (some B)) (eb : B.cells = (intB out true).cells) (hc : H[c]? = some (some C)) (ec : C.cells = (opsB ops true).cells) (hd : H[d]? = some (some D)) (ed : D.cells = (intB out true).cells) :
    Runs Try.prog 31 #[tpV a b N M, tpV c d N M] H (.bool true) H := by
  obtain ⟨H', r⟩ := sm_small h1 h2 h3 h4 hM hN
  have h : Runs Try.prog 31 #[tpV 0 1 N M, tpV 2 3 N M] #[some (opsB ops false), some (intB out false), some (opsB ops false), some (intB out false)] (.bool true) (#[some (opsB ops false), some (intB out false), some (opsB ops false), some (intB out false)] ++ #[]) := by
    rw [Array.append_empty]
    have e : (#[some (opsB ops false), some (intB out false), some (opsB ops false), some (intB out false)] : AHeap) = froze #[some (opsB ops false), some (intB out false), some (opsB ops false), some (intB out false)] := rfl
    rw [e] at r
    exact r.reads rfl
  refine h.moveR (fun i => if i = 0 then a else if i = 1 then b else if i = 2 then c else d) rfl ?_ ?_ rfl ?_
  · intro i hi
    have : i = 0 ∨ i = 1 ∨ i = 2 ∨ i = 3 := by simp at hi; omega
    rcases this with rfl | rfl | rfl | rfl <;> exact ⟨_, rfl⟩
  · intro i E hE
    have : i = 0 ∨ i = 1 ∨ i = 2 ∨ i = 3 := by have := (Array.getElem?_eq_some_iff.1 hE).1; simp at this; omega
    rcases this with rfl | rfl | rfl | rfl <;> (injection hE with hE; injection hE with hE; subst hE)
    · exact ⟨rfl, opsB_plain _ _, A, ha, ea⟩
    · exact ⟨rfl, intB_plain _ _, B, hb, eb⟩
    · exact ⟨rfl, opsB_plain _ _, C, hc, ec⟩
    · exact ⟨rfl, intB_plain _ _, D, hd, ed⟩
  · intro i g1 g2
    have : i = 0 ∨ i = 1 := by simp at g1; omega
    rcases this with rfl | rfl
    · refine .inl (.agg rfl fun j q1 q2 => ?_)
      have : j = 0 ∨ j = 1 ∨ j = 2 := by simp at q1; omega
      rcases this with rfl | rfl | rfl
      · exact .clos rfl
      · exact .slice 0 0 _ _ (by simp)
      · exact .slice 1 0 _ _ (by simp)
    · refine .inl (.agg rfl fun j q1 q2 => ?_)
      have : j = 0 ∨ j = 1 ∨ j = 2 := by simp at q1; omega
      rcases this with rfl | rfl | rfl
      · exact .clos rfl
      · exact .slice 2 0 _ _ (by simp)
      · exact .slice 3 0 _ _ (by simp)

end Go.Proofs.Ytpmdpbljgidllaa
