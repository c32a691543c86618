/- tape.Check: fields that may be, in any memory. -/
import Derived.Test.YtpmdpbljgidllaaTpCkR
import Derived.Test.YtpmdpbljgidllaaTpSm
import Derived.Test.YtpmdpbljgidllaaIvCore
import Derived.Test.YtpmdpbljgidllaaLdexp
namespace Go.Proofs.Ytpmdpbljgidllaa
open Go
set_option linter.unusedVariables false
set_option linter.unusedSimpArgs false
set_option maxRecDepth 100000

/-- What tape.op tells may be, in full. -/
def opFull (k n : Nat) (o : OpD) : Prop := (o.K = 0 ∧ o.A = 0 ∧ o.B = 0 ∧ Fi o.C) ∨ (o.K = 1 ∧ o.B = 0 ∧ o.C = 0 ∧ 0 ≤ o.A ∧ o.A < n) ∨ (2 ≤ o.K ∧ o.K ≤ 5 ∧ o.C = 0 ∧ 0 ≤ o.A ∧ o.A < k ∧ 0 ≤ o.B ∧ o.B < k)
noncomputable def askFi (g : FuncId) : Nat := if g == 33 then 1 else if [69, 70].contains g then 2 else 0
def flaC : BinOp → Value → Value → Bool
  | _, .float _ _, _ => true
  | _, _, _ => false
theorem fi_came (c x : Nat) : (askN askFi flaC 12 58 #[.float .f64 c] #[] [yes false, isG x, yes false]).map (fun r => (r.1, r.2.2)) = some (.bool true, [cmpF .neq c c false, qtO 33 #[.float .f64 c] (.float .f64 x), cmpF .gtr x 9218868437227405311 false]) := by kernel_rfl
theorem fi_runs {c : Nat} (h : Fi c) : Runs Try.prog 58 #[.float .f64 c] #[] (.bool true) #[] := by
  obtain ⟨a1, a2⟩ := abs_ix h.nn
  have hmax : NN 9218868437227405311 ∧ ix 9218868437227405311 = 9218868437227405311 := ⟨⟨by decide, by decide, by decide⟩, by decide⟩
  refine quiet_of' (fi_came c _) ⟨(fc _ rfl _ _).trans (nn_self h.nn).1, abs_runs h.nn, (fc _ rfl _ _).trans ((gtr_ix a1 hmax.1).trans (congrArg some (decide_eq_false ?_))), trivial⟩ rfl rfl
  rw [hmax.2]
  have := h.2
  omega
def geC : BinOp → Value → Value → Bool
  | .lss, .int _ _, _ => true
  | .geq, .int _ _, _ => true
  | _, _, _ => false
theorem wc_came (a n : Int) : (askN noF geC 12 40 #[.int .i64 a, .int .i64 n] #[] [yes true, yes true]).map (fun r => (r.1, r.2.2)) = some (.bool true, [cpO .geq a 0 true, cpO .lss a n true]) := by kernel_rfl
theorem cmp_geqT (x y : Int) : cmpV Try.prog .geq 3 (.int .i64 x) (.int .i64 y) = some (decide (x ≥ y)) := by kernel_rfl
theorem wc_runs {a n : Int} (h0 : 0 ≤ a) (h1 : a < n) : Runs Try.prog 40 #[.int .i64 a, .int .i64 n] #[] (.bool true) #[] :=
  quiet_of' (wc_came a n) ⟨(cmp_geqT a 0).trans (congrArg some (decide_eq_true h0)), (cmp_lss a n).trans (congrArg some (decide_eq_true h1)), trivial⟩ rfl rfl
noncomputable def askOpf (g : FuncId) : Nat := if [58, 40].contains g then 1 else 0
theorem op0_came (k n : Int) (c : Nat) : (askN askOpf noC 12 39 #[opV 0 0 0 c, .int .i64 k, .int .i64 n] #[] [yes true]).map (fun r => (r.1, r.2.2)) = some (.bool true, [qtO 58 #[.float .f64 c] (.bool true)]) := by kernel_rfl
theorem op1_came (k n A : Int) : (askN askOpf noC 12 39 #[opV 1 A 0 0, .int .i64 k, .int .i64 n] #[] [yes true]).map (fun r => (r.1, r.2.2)) = some (.bool true, [qtO 40 #[.int .i64 A, .int .i64 n] (.bool true)]) := by kernel_rfl
theorem op2_came (k n A B : Int) : (askN askOpf noC 12 39 #[opV 2 A B 0, .int .i64 k, .int .i64 n] #[] [yes true, yes true]).map (fun r => (r.1, r.2.2)) = some (.bool true, [qtO 40 #[.int .i64 A, .int .i64 k] (.bool true), qtO 40 #[.int .i64 B, .int .i64 k] (.bool true)]) := by kernel_rfl
theorem op3_came (k n A B : Int) : (askN askOpf noC 12 39 #[opV 3 A B 0, .int .i64 k, .int .i64 n] #[] [yes true, yes true]).map (fun r => (r.1, r.2.2)) = some (.bool true, [qtO 40 #[.int .i64 A, .int .i64 k] (.bool true), qtO 40 #[.int .i64 B, .int .i64 k] (.bool true)]) := by kernel_rfl
theorem op4_came (k n A B : Int) : (askN askOpf noC 12 39 #[opV 4 A B 0, .int .i64 k, .int .i64 n] #[] [yes true, yes true]).map (fun r => (r.1, r.2.2)) = some (.bool true, [qtO 40 #[.int .i64 A, .int .i64 k] (.bool true), qtO 40 #[.int .i64 B, .int .i64 k] (.bool true)]) := by kernel_rfl
theorem op5_came (k n A B : Int) : (askN askOpf noC 12 39 #[opV 5 A B 0, .int .i64 k, .int .i64 n] #[] [yes true, yes true]).map (fun r => (r.1, r.2.2)) = some (.bool true, [qtO 40 #[.int .i64 A, .int .i64 k] (.bool true), qtO 40 #[.int .i64 B, .int .i64 k] (.bool true)]) := by kernel_rfl
theorem op_runs {k n : Nat} {o : OpD} (h : opFull k n o) : Runs Try.prog 39 #[opV o.K o.A o.B o.C, .int .i64 k, .int .i64 n] #[] (.bool true) #[] := by
  obtain ⟨K, A, B, C⟩ := o
  rcases h with ⟨h1, h2, h3, h4⟩ | ⟨h1, h2, h3, h4, h5⟩ | ⟨h1, h2, h3, h4, h5, h6, h7⟩
  · dsimp only at h1 h2 h3 h4 ⊢
    subst h1 h2 h3
    exact quiet_of' (op0_came k n C) ⟨fi_runs h4, trivial⟩ rfl rfl
  · dsimp only at h1 h2 h3 h4 h5 ⊢
    subst h1 h2 h3
    exact quiet_of' (op1_came k n A) ⟨wc_runs h4 h5, trivial⟩ rfl rfl
  · dsimp only at h1 h2 h3 h4 h5 h6 h7 ⊢
    subst h3
    have : K = 2 ∨ K = 3 ∨ K = 4 ∨ K = 5 := by omega
    rcases this with rfl | rfl | rfl | rfl
    · exact quiet_of' (op2_came k n A B) ⟨wc_runs h4 h5, wc_runs h6 h7, trivial⟩ rfl rfl
    · exact quiet_of' (op3_came k n A B) ⟨wc_runs h4 h5, wc_runs h6 h7, trivial⟩ rfl rfl
    · exact quiet_of' (op4_came k n A B) ⟨wc_runs h4 h5, wc_runs h6 h7, trivial⟩ rfl rfl
    · exact quiet_of' (op5_came k n A B) ⟨wc_runs h4 h5, wc_runs h6 h7, trivial⟩ rfl rfl
theorem ck_small {N M : Nat} {ops : List OpD} {out : List Int} (h1 : 1 ≤ N) (h2 : N ≤ 3) (h3 : 2 ≤ M) (h4 : M ≤ 20) (hM : ops.length = M) (hN : out.length = N) (hf : ∀ k o, ops[k]? = some o → opFull k N o) (hu : ∀ u ∈ out, 0 ≤ u ∧ u < M) :
    Tells 15 #[tpV 0 1 N M] #[some (opsB ops false), some (intB out false)] (.bool true) := by
  have h := ck_run h1 h2 h3 h4 (fun i => (ops.getD i ⟨0, 0, 0, 0⟩).K) (fun i => (ops.getD i ⟨0, 0, 0, 0⟩).A) (fun i => (ops.getD i ⟨0, 0, 0, 0⟩).B) (fun i => (ops.getD i ⟨0, 0, 0, 0⟩).C) (fun i => out.getD i 0)
  have h' := tells_of h (okApp (map_ok _ _ fun i hi => ?_) (map_ok _ _ fun i hi => ?_))
  · subst hM hN
    unfold opBk ouBk at h'
    rw [op_range, ou_range] at h'
    exact h'
  · have hi' : i < ops.length := by rw [hM]; exact List.mem_range.1 hi
    have e : ops.getD i ⟨0, 0, 0, 0⟩ = ops[i] := by rw [List.getD_eq_getElem?_getD, List.getElem?_eq_getElem hi']; rfl
    rw [e]
    exact op_runs (hf i _ (List.getElem?_eq_getElem hi'))
  · have hi' : i < out.length := by rw [hN]; exact List.mem_range.1 hi
    have e : out.getD i 0 = out[i] := by rw [List.getD_eq_getElem?_getD, List.getElem?_eq_getElem hi']; rfl
    have := hu _ (List.getElem_mem hi')
    rw [e]
    exact wc_runs this.1 this.2
theorem check_in {N M : Nat} {ops : List OpD} {out : List Int} (h1 : 1 ≤ N) (h2 : N ≤ 3) (h3 : 2 ≤ M) (h4 : M ≤ 20) (hM : ops.length = M) (hN : out.length = N) (hf : ∀ k o, ops[k]? = some o → opFull k N o) (hu : ∀ u ∈ out, 0 ≤ u ∧ u < M)
    {H : AHeap} {a b : Nat} {A B : ABlk} (ha : H[a]? = some (some A)) (ea : A.cells = (opsB ops true).cells) (hb : H[b]? = some (some B)) (eb : B.cells = (intB out true).cells) :
    Runs Try.prog 15 #[tpV a b N M] H (.bool true) H := by
  obtain ⟨H', r⟩ := ck_small h1 h2 h3 h4 hM hN hf hu
  have h : Runs Try.prog 15 #[tpV 0 1 N M] #[some (opsB ops false), some (intB out false)] (.bool true) (#[some (opsB ops false), some (intB out false)] ++ #[]) := by
    rw [Array.append_empty]
    have e : (#[some (opsB ops false), some (intB out false)] : AHeap) = froze #[some (opsB ops false), some (intB out false)] := rfl
    rw [e] at r
    exact r.reads rfl
  refine h.moveR (fun i => if i = 0 then a else b) rfl ?_ ?_ rfl ?_
  · intro i hi
    have : i = 0 ∨ i = 1 := by simp at hi; omega
    rcases this with rfl | rfl <;> exact ⟨_, rfl⟩
  · intro i E hE
    have : i = 0 ∨ i = 1 := by have := (Array.getElem?_eq_some_iff.1 hE).1; simp at this; omega
    rcases this with rfl | rfl <;> (injection hE with hE; injection hE with hE; subst hE)
    · exact ⟨rfl, opsB_plain _ _, A, ha, ea⟩
    · exact ⟨rfl, intB_plain _ _, B, hb, eb⟩
  · intro i g1 g2
    have : i = 0 := by simp at g1; omega
    subst this
    refine .inl (.agg rfl fun j q1 q2 => ?_)
    have : j = 0 ∨ j = 1 ∨ j = 2 := by simp at q1; omega
    rcases this with rfl | rfl | rfl
    · exact .clos rfl
    · exact .slice 0 0 _ _ (by simp)
    · exact .slice 1 0 _ _ (by simp)
/-- Fields that Make makes may be, in full. -/
theorem mk_shape (n : Int) (zs : List Int) (dv : Bool) {k : Nat} {o : OpD} (h : (mkOps n zs dv)[k]? = some o) : (o.K = 0 ∧ o.A = 0 ∧ o.B = 0) ∨ (o.K = 1 ∧ o.B = 0 ∧ o.C = 0) ∨ (2 ≤ o.K ∧ o.C = 0) := by
  have hk : k < mkM n zs := by
    have := (List.getElem?_eq_some_iff.1 h).1
    rw [mkOps_len] at this; exact this
  unfold mkOps at h
  rw [List.getElem?_map, List.getElem?_range hk, Option.map_some] at h
  injection h with h
  by_cases h1 : k < mkN n
  · have e : tmkO n zs dv k = ⟨1, Int.ofNat k, 0, 0⟩ := by unfold tmkO Omk; rw [if_pos h1]
    rw [← h, e]
    exact .inr (.inl ⟨rfl, rfl, rfl⟩)
  by_cases h2 : k = mkN n
  · have e : tmkO n zs dv k = ⟨0, 0, 0, fop .quo .f64 (mkC n) 4616189618054758400⟩ := by unfold tmkO Omk; rw [if_neg h1, if_pos h2]
    rw [← h, e]
    exact .inl ⟨rfl, rfl, rfl⟩
  · obtain ⟨i, rfl⟩ : ∃ i, k = mkN n + 1 + i := ⟨k - (mkN n + 1), by omega⟩
    have hi : i < 8 ∧ i < zs.length := by unfold mkM mkL at hk; omega
    rw [mkO_at (List.getElem?_eq_getElem hi.2) hi.1] at h
    rw [← h]
    generalize zs[i] = z
    unfold mkOp RnK.op
    by_cases h : decide (z % 11 = 0) = true
    · rw [h]; exact .inl ⟨rfl, rfl, rfl⟩
    · rw [Bool.not_eq_true] at h
      rw [h]
      have h1 := Int.emod_nonneg z (b := 3) (by decide)
      have h2 := Int.emod_lt_of_pos z (b := 3) (by decide)
      have hK : (mkRn (mkN n + 1 + i) z).K = 2 + z % 3 := wrap_id (by omega) (by omega)
      refine .inr (.inr ?_)
      simp only [Bool.false_eq_true, if_false]
      refine ⟨?_, trivial⟩
      split
      · decide
      · rw [hK]; omega
theorem mk_fiC (n : Int) (zs : List Int) (dv : Bool) : ∀ o ∈ mkOps n zs dv, o.K = 0 → Fi o.C := by
  intro o ho h0
  obtain ⟨j, hj⟩ := List.getElem?_of_mem ho
  obtain ⟨N, _, hd⟩ := mk_const n zs dv hj h0
  exact hd.fi
theorem mk_full (n : Int) (zs : List Int) (dv : Bool) (k : Nat) (o : OpD) (h : (mkOps n zs dv)[k]? = some o) : opFull k (mkN n) o := by
  have h1 := mk_ok n zs dv k o h
  have h2 := mk_fiC n zs dv o (List.mem_of_getElem? h)
  unfold opFull
  unfold opOkD at h1
  rcases mk_shape n zs dv h with ⟨s1, s2, s3⟩ | ⟨s1, s2, s3⟩ | ⟨s1, s2⟩
  · exact .inl ⟨s1, s2, s3, h2 s1⟩
  · rcases h1 with h1 | h1 | h1
    · omega
    · exact .inr (.inl ⟨s1, s2, s3, h1.2⟩)
    · omega
  · rcases h1 with h1 | h1 | h1
    · omega
    · omega
    · exact .inr (.inr ⟨h1.1, h1.2.1, s2, h1.2.2⟩)

end Go.Proofs.Ytpmdpbljgidllaa
