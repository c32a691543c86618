/- Two runs of one field, number by number: of wider from-tos wider ones; numbers within from-tos. Leaves of the document's from-tos. -/
import Derived.Test.YtpmdpbljgidllaaTpKi
import Derived.Test.YtpmdpbljgidllaaTpMonoB
namespace Go.Proofs.Ytpmdpbljgidllaa
open Go
set_option linter.unusedVariables false
set_option linter.unusedSimpArgs false
set_option maxRecDepth 100000

theorem runL_rel {T U : Type} {d : T} {e : U} {cf : Nat → T} {cg : Nat → U} {op2 : Int → T → T → T} {oq2 : Int → U → U → U} {x : Nat → T} {y : Nat → U} {Q : T → U → Prop} (hd : Q d e) (hx : ∀ i, Q (x i) (y i)) (h2 : ∀ K a b c f, Q a c → Q b f → Q (op2 K a b) (oq2 K c f)) :
    ∀ (l : List OpD) (r : List T) (s : List U), (∀ o ∈ l, o.K = 0 → Q (cf o.C) (cg o.C)) → r.length = s.length → (∀ i, Q (r.getD i d) (s.getD i e)) → ∀ i, Q ((runL d cf op2 x l r).getD i d) ((runL e cg oq2 y l s).getD i e)
  | [], r, s, _, _, hr, i => hr i
  | o :: l, r, s, hc, hl, hr, i => by
    refine runL_rel hd hx h2 l _ _ (fun p hp => hc p (List.mem_cons_of_mem _ hp)) (by simp [hl]) ?_ i
    intro j
    have hst : Q (stepT cf op2 x (fun i => r.getD i d) o) (stepT cg oq2 y (fun i => s.getD i e) o) := by
      unfold stepT
      split
      · rename_i h0; exact hc o (List.mem_cons_self ..) h0
      split
      · exact hx _
      · exact h2 _ _ _ _ _ (hr _) (hr _)
    simp only [List.getD_eq_getElem?_getD] at hr ⊢
    by_cases c : j < r.length
    · rw [List.getElem?_append_left c, List.getElem?_append_left (by omega)]
      exact hr j
    · rw [List.getElem?_append_right (by omega), List.getElem?_append_right (by omega), hl]
      by_cases c2 : j - s.length = 0
      · rw [c2]; simpa using hst
      · rw [List.getElem?_eq_none (by simp; omega), List.getElem?_eq_none (by simp; omega)]
        exact hd
theorem regT_rel {T U : Type} {d : T} {e : U} {cf : Nat → T} {cg : Nat → U} {op2 : Int → T → T → T} {oq2 : Int → U → U → U} {x : Nat → T} {y : Nat → U} {Q : T → U → Prop} (hd : Q d e) (hx : ∀ i, Q (x i) (y i)) (h2 : ∀ K a b c f, Q a c → Q b f → Q (op2 K a b) (oq2 K c f)) {l : List OpD}
    (hc : ∀ o ∈ l, o.K = 0 → Q (cf o.C) (cg o.C)) (k : Nat) : Q (regT d cf op2 x l k) (regT e cg oq2 y l k) :=
  runL_rel hd hx h2 l [] [] hc rfl (fun i => by simpa using hd) k

theorem opP_rs (K : Int) (X Y : Nat × Nat) : Rs (opP K X Y) := opP_rsT K X Y
theorem opP_mono (K : Int) {X Y X' Y' : Nat × Nat} (hX : Rs X) (hY : Rs Y) (hX' : Rs X') (hY' : Rs Y') (w : Wi X X') (w' : Wi Y Y') : Wi (opP K X Y) (opP K X' Y') := by
  unfold opP
  split
  · exact addP_mono hX hY hX' hY' w w'
  split
  · exact subP_mono hX hY hX' hY' w w'
  split
  · exact mulP_mono hX.rt hY.rt hX'.rt hY'.rt w w'
  · exact divP_mono hX.rt hY.rt hX'.rt hY'.rt w w'
theorem fop_nn2 {op : BinOp} {a b : Nat} (ha : NaNor a) (hb : NaNor b) (h : NN (fop op .f64 a b)) : NN a ∧ NN b := by
  have h1 : ∀ b, ¬ NN (fop op .f64 (nanW .f64) b) := by
    intro b hn
    have : fop op .f64 (nanW .f64) b = nanW .f64 := by unfold fop; rw [floatBits_nan_l (isNan_nanW _)]; rfl
    exact nan_no hn this
  have h2 : ∀ a, ¬ NN (fop op .f64 a (nanW .f64)) := by
    intro a hn
    have : fop op .f64 a (nanW .f64) = nanW .f64 := by unfold fop; rw [floatBits_nan_r (isNan_nanW _)]; rfl
    exact nan_no hn this
  refine ⟨ha.resolve_right ?_, hb.resolve_right ?_⟩
  · rintro rfl; exact h1 _ h
  · rintro rfl; exact h2 _ h
/-- A number, if it is one, within a from-to. -/
structure NIn (v : Nat) (X : Nat × Nat) : Prop where
  nn : NaNor v
  rs : Rs X
  is : NN v → InP v X
theorem opKd_arith (K : Int) : opKd K = .add ∨ opKd K = .sub ∨ opKd K = .mul ∨ opKd K = .quo := by
  unfold opKd
  split
  · exact .inl rfl
  split
  · exact .inr (.inl rfl)
  split
  · exact .inr (.inr (.inl rfl))
  · exact .inr (.inr (.inr rfl))
theorem op_in (K : Int) {a b : Nat} {X Y : Nat × Nat} (ha : NIn a X) (hb : NIn b Y) : NIn (opF K a b) (opP K X Y) := by
  refine ⟨fop_nan (opKd_arith K), opP_rs _ _ _, fun h => ?_⟩
  obtain ⟨na, nb⟩ := fop_nn2 ha.nn hb.nn h
  have ia := ha.is na
  have ib := hb.is nb
  unfold opF opP opKd at *
  split
  · rename_i e; simp only [e, if_true] at h ⊢; exact add_inP ha.rs hb.rs na nb ia ib h
  rename_i e1
  simp only [e1, if_false] at h
  split
  · rename_i e; simp only [e, if_true] at h ⊢; exact sub_inP ha.rs hb.rs na nb ia ib h
  rename_i e2
  simp only [e2, if_false] at h
  split
  · rename_i e; simp only [e, if_true] at h ⊢; exact mul_inP ha.rs.rt hb.rs.rt na nb ia ib h
  rename_i e3
  simp only [e3, if_false] at h
  exact div_inP ha.rs.rt hb.rs.rt na nb ia ib h
theorem rs_pt {x : Nat} (h : Fi x) : Rs (x, x) := ⟨rt_pt h.nn, by rw [pinf_nn.2]; exact h.2.2, by rw [ninf_nn.2]; exact h.2.1⟩
theorem rs_fi {a b : Nat} (ha : Fi a) (hb : Fi b) (h : ix a ≤ ix b) : Rs (a, b) := ⟨⟨ha.nn, hb.nn, h⟩, by rw [pinf_nn.2]; exact ha.2.2, by rw [ninf_nn.2]; exact hb.2.1⟩
theorem nIn_pt {x : Nat} (h : Fi x) : NIn x (x, x) := ⟨.inl h.nn, rs_pt h, fun _ => ⟨Int.le_refl _, Int.le_refl _⟩⟩
theorem getD_all {α : Type} {Q : α → Prop} {l : List α} {d : α} (hd : Q d) (h : ∀ a ∈ l, Q a) (i : Nat) : Q (l.getD i d) := by
  rw [List.getD_eq_getElem?_getD]
  cases e : l[i]? with
  | none => exact hd
  | some a => exact h a (List.mem_of_getElem? e)
/-- Of any operations whose numbers are finite. -/
theorem reg_in {ops : List OpD} (hc : ∀ o ∈ ops, o.K = 0 → Fi o.C) {xs : List Nat} {Xs : List (Nat × Nat)} (hx : ∀ i, NIn (xs.getD i 0) (Xs.getD i (0, 0))) (k : Nat) : NIn (regF ops xs k) (regP ops Xs k) :=
  regT_rel (Q := NIn) (nIn_pt fi_zero.1) hx (fun K _ _ _ _ h1 h2 => op_in K h1 h2) (fun o ho h0 => nIn_pt (hc o ho h0)) k
structure RsW (X Y : Nat × Nat) : Prop where
  a : Rs X
  b : Rs Y
  w : Wi X Y
theorem wi_refl (X : Nat × Nat) : Wi X X := ⟨Int.le_refl _, Int.le_refl _⟩
theorem reg_wi {ops : List OpD} (hc : ∀ o ∈ ops, o.K = 0 → Fi o.C) {Xs Ys : List (Nat × Nat)} (hx : ∀ i, RsW (Xs.getD i (0, 0)) (Ys.getD i (0, 0))) (k : Nat) : RsW (regP ops Xs k) (regP ops Ys k) :=
  regT_rel (Q := RsW) ⟨rs_pt fi_zero.1, rs_pt fi_zero.1, wi_refl _⟩ hx (fun K _ _ _ _ h1 h2 => ⟨opP_rs _ _ _, opP_rs _ _ _, opP_mono K h1.a h2.a h1.b h2.b h1.w h2.w⟩)
    (fun o ho h0 => ⟨rs_pt (hc o ho h0), rs_pt (hc o ho h0), wi_refl _⟩) k
theorem mk_fi (n : Int) (zs : List Int) (dv : Bool) : ∀ o ∈ mkOps n zs dv, o.K = 0 → Fi o.C := by
  intro o ho h0
  obtain ⟨j, hj⟩ := List.getElem?_of_mem ho
  obtain ⟨N, _, hd⟩ := mk_const n zs dv hj h0
  exact hd.fi
theorem Dy.le {e : Nat} {N M : Int} {x y : Nat} (h : Dy e N x) (h' : Dy e M y) (hle : N ≤ M) : ix x ≤ ix y := by
  have : kv x * pw e ≤ kv y * pw e := by
    rw [h.eq, h'.eq]
    exact Int.mul_le_mul_of_nonneg_right hle (Int.natCast_nonneg _)
  exact rk_le_iff.1 (Int.le_of_mul_le_mul_right this (pwi_pos e))

/-! leaves -/
theorem right_yes {X : Nat × Nat} (h : Rt X) : Runs Try.prog 21 #[vI X] #[] (.bool true) #[] := by
  have k : (askN noF fltC 12 21 #[vI X] #[] [yes true]).map (fun r => (r.1, r.2.2)) = some (.bool true, [.cmp .leq 30 (.float .f64 X.1) (.float .f64 X.2) true]) := by kernel_rfl
  obtain ⟨H', r⟩ := tells_of k ⟨(leq_ix h.l h.h).trans (congrArg some (decide_eq_true h.le)), trivial⟩
  exact r.quiet rfl rfl #[]
theorem within_yes {X Y : Nat × Nat} (hX : Rt X) (hY : Rt Y) (h : Wi X Y) : Runs Try.prog 22 #[vI X, vI Y] #[] (.bool true) #[] := by
  have k : (askN noF fltC 12 22 #[vI X, vI Y] #[] [yes true, yes true]).map (fun r => (r.1, r.2.2)) = some (.bool true, [.cmp .leq 30 (.float .f64 Y.1) (.float .f64 X.1) true, .cmp .leq 30 (.float .f64 X.2) (.float .f64 Y.2) true]) := by kernel_rfl
  obtain ⟨H', r⟩ := tells_of k ⟨(leq_ix hY.l hX.l).trans (congrArg some (decide_eq_true h.1)), (leq_ix hX.h hY.h).trans (congrArg some (decide_eq_true h.2)), trivial⟩
  exact r.quiet rfl rfl #[]
theorem in_yesT {v : Nat} {X : Nat × Nat} (hv : NN v) (hX : Rt X) (h : InP v X) : Runs Try.prog 29 #[.float .f64 v, vI X] #[] (.bool true) #[] := in_yesR hv hX.l hX.h h.1 h.2
theorem fin_yes {x : Nat} : ∃ b : Bool, Runs Try.prog 27 #[.float .f64 x] #[] (.bool b) #[] := by
  have k : ∀ b : Bool, (askN noF fltC 12 27 #[.float .f64 x] #[] [yes b]).map (fun r => (r.1, r.2.2)) = some (.bool b, [.cmp .eql 30 (.float .f64 (fop .sub .f64 x x)) (.float .f64 0) b]) := by
    intro b
    cases b <;> kernel_rfl
  obtain ⟨H', r⟩ := tells_of (k (FloatKind.f64.format.order (fop .sub .f64 x x) 0 == some .eq)) ⟨rfl, trivial⟩
  exact ⟨_, r.quiet rfl rfl #[]⟩

end Go.Proofs.Ytpmdpbljgidllaa
