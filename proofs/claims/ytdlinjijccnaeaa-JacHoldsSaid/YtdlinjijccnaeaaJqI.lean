/- Numbers within from-tos, wider from-tos: of values and of slopes. -/
import Derived.Test.YtdlinjijccnaeaaJqP
import Derived.Test.YtdlinjijccnaeaaTpMonoB
namespace Go.Proofs.Ytdlinjijccnaeaa
open Go
set_option linter.unusedVariables false
set_option linter.unusedSimpArgs false
set_option maxRecDepth 100000

theorem runL_rel {T U : Type} {d : T} {e : U} {cf : Nat → T} {cg : Nat → U} {op2 : Int → T → T → T} {oq2 : Int → U → U → U} {x : Nat → T} {y : Nat → U} {Q : T → U → Prop} (hd : Q d e) (hx : ∀ i, Q (x i) (y i)) (h2 : ∀ K a b c f, Q a c → Q b f → Q (op2 K a b) (oq2 K c f)) :
    ∀ (l : List OpD) (r : List T) (s : List U), (∀ o ∈ l, o.K = 0 → Q (cf o.C) (cg o.C)) → r.length = s.length → (∀ i, Q (r.getD i d) (s.getD i e)) → ∀ i, Q ((runL d cf op2 x l r).getD i d) ((runL e cg oq2 y l s).getD i e)
  | [], r, s, _, _, hr, i => hr i
  | o :: l, r, s, hc, hl, hr, i => by
    refine runL_rel hd hx h2 l _ _ (fun p hp => hc p (List.mem_cons_of_mem _ hp)) (by simp [hl]) ?_ i
    intro j
    have hst : Q (stepT cf op2 x (fun i => r.getD i d) o) (stepT cg oq2 y (fun i => s.getD i e) o) := by
      unfold stepT
      split
      · rename_i h0; exact hc o (List.mem_cons_self ..) h0
      split
      · exact hx _
      · exact h2 _ _ _ _ _ (hr _) (hr _)
    simp only [List.getD_eq_getElem?_getD] at hr ⊢
    by_cases c : j < r.length
    · rw [List.getElem?_append_left c, List.getElem?_append_left (by omega)]
      exact hr j
    · rw [List.getElem?_append_right (by omega), List.getElem?_append_right (by omega), hl]
      by_cases c2 : j - s.length = 0
      · rw [c2]; simpa using hst
      · rw [List.getElem?_eq_none (by simp; omega), List.getElem?_eq_none (by simp; omega)]
        exact hd
theorem regT_rel {T U : Type} {d : T} {e : U} {cf : Nat → T} {cg : Nat → U} {op2 : Int → T → T → T} {oq2 : Int → U → U → U} {x : Nat → T} {y : Nat → U} {Q : T → U → Prop} (hd : Q d e) (hx : ∀ i, Q (x i) (y i)) (h2 : ∀ K a b c f, Q a c → Q b f → Q (op2 K a b) (oq2 K c f)) {l : List OpD}
    (hc : ∀ o ∈ l, o.K = 0 → Q (cf o.C) (cg o.C)) (k : Nat) : Q (regT d cf op2 x l k) (regT e cg oq2 y l k) :=
  runL_rel hd hx h2 l [] [] hc rfl (fun i => by simpa using hd) k

theorem opP_rs (K : Int) (X Y : Nat × Nat) : Rs (opP K X Y) := opP_rsT K X Y
theorem opP_mono (K : Int) {X Y X' Y' : Nat × Nat} (hX : Rs X) (hY : Rs Y) (hX' : Rs X') (hY' : Rs Y') (w : Wi X X') (w' : Wi Y Y') : Wi (opP K X Y) (opP K X' Y') := by
  unfold opP
  split
  · exact addP_mono hX hY hX' hY' w w'
  split
  · exact subP_mono hX hY hX' hY' w w'
  split
  · exact mulP_mono hX.rt hY.rt hX'.rt hY'.rt w w'
  · exact divP_mono hX.rt hY.rt hX'.rt hY'.rt w w'
theorem fop_nn2 {op : BinOp} {a b : Nat} (ha : NaNor a) (hb : NaNor b) (h : NN (fop op .f64 a b)) : NN a ∧ NN b := by
  have h1 : ∀ b, ¬ NN (fop op .f64 (nanW .f64) b) := by
    intro b hn
    have : fop op .f64 (nanW .f64) b = nanW .f64 := by unfold fop; rw [floatBits_nan_l (isNan_nanW _)]; rfl
    exact nan_no hn this
  have h2 : ∀ a, ¬ NN (fop op .f64 a (nanW .f64)) := by
    intro a hn
    have : fop op .f64 a (nanW .f64) = nanW .f64 := by unfold fop; rw [floatBits_nan_r (isNan_nanW _)]; rfl
    exact nan_no hn this
  refine ⟨ha.resolve_right ?_, hb.resolve_right ?_⟩
  · rintro rfl; exact h1 _ h
  · rintro rfl; exact h2 _ h
/-- A number, if it is one, within a from-to. -/
structure NIn (v : Nat) (X : Nat × Nat) : Prop where
  nn : NaNor v
  rs : Rs X
  is : NN v → InP v X
theorem opKd_arith (K : Int) : opKd K = .add ∨ opKd K = .sub ∨ opKd K = .mul ∨ opKd K = .quo := by
  unfold opKd
  split
  · exact .inl rfl
  split
  · exact .inr (.inl rfl)
  split
  · exact .inr (.inr (.inl rfl))
  · exact .inr (.inr (.inr rfl))
theorem op_in (K : Int) {a b : Nat} {X Y : Nat × Nat} (ha : NIn a X) (hb : NIn b Y) : NIn (opF K a b) (opP K X Y) := by
  refine ⟨fop_nan (opKd_arith K), opP_rs _ _ _, fun h => ?_⟩
  obtain ⟨na, nb⟩ := fop_nn2 ha.nn hb.nn h
  have ia := ha.is na
  have ib := hb.is nb
  unfold opF opP opKd at *
  split
  · rename_i e; simp only [e, if_true] at h ⊢; exact add_inP ha.rs hb.rs na nb ia ib h
  rename_i e1
  simp only [e1, if_false] at h
  split
  · rename_i e; simp only [e, if_true] at h ⊢; exact sub_inP ha.rs hb.rs na nb ia ib h
  rename_i e2
  simp only [e2, if_false] at h
  split
  · rename_i e; simp only [e, if_true] at h ⊢; exact mul_inP ha.rs.rt hb.rs.rt na nb ia ib h
  rename_i e3
  simp only [e3, if_false] at h
  exact div_inP ha.rs.rt hb.rs.rt na nb ia ib h
theorem rs_pt {x : Nat} (h : Fi x) : Rs (x, x) := ⟨rt_pt h.nn, by rw [pinf_nn.2]; exact h.2.2, by rw [ninf_nn.2]; exact h.2.1⟩
theorem rs_fi {a b : Nat} (ha : Fi a) (hb : Fi b) (h : ix a ≤ ix b) : Rs (a, b) := ⟨⟨ha.nn, hb.nn, h⟩, by rw [pinf_nn.2]; exact ha.2.2, by rw [ninf_nn.2]; exact hb.2.1⟩
theorem nIn_pt {x : Nat} (h : Fi x) : NIn x (x, x) := ⟨.inl h.nn, rs_pt h, fun _ => ⟨Int.le_refl _, Int.le_refl _⟩⟩
theorem getD_all {α : Type} {Q : α → Prop} {l : List α} {d : α} (hd : Q d) (h : ∀ a ∈ l, Q a) (i : Nat) : Q (l.getD i d) := by
  rw [List.getD_eq_getElem?_getD]
  cases e : l[i]? with
  | none => exact hd
  | some a => exact h a (List.mem_of_getElem? e)
/-- Of any operations whose numbers are finite. -/
theorem reg_in {ops : List OpD} (hc : ∀ o ∈ ops, o.K = 0 → Fi o.C) {xs : List Nat} {Xs : List (Nat × Nat)} (hx : ∀ i, NIn (xs.getD i 0) (Xs.getD i (0, 0))) (k : Nat) : NIn (regF ops xs k) (regP ops Xs k) :=
  regT_rel (Q := NIn) (nIn_pt fi_zero.1) hx (fun K _ _ _ _ h1 h2 => op_in K h1 h2) (fun o ho h0 => nIn_pt (hc o ho h0)) k
structure RsW (X Y : Nat × Nat) : Prop where
  a : Rs X
  b : Rs Y
  w : Wi X Y
theorem wi_refl (X : Nat × Nat) : Wi X X := ⟨Int.le_refl _, Int.le_refl _⟩
theorem reg_wi {ops : List OpD} (hc : ∀ o ∈ ops, o.K = 0 → Fi o.C) {Xs Ys : List (Nat × Nat)} (hx : ∀ i, RsW (Xs.getD i (0, 0)) (Ys.getD i (0, 0))) (k : Nat) : RsW (regP ops Xs k) (regP ops Ys k) :=
  regT_rel (Q := RsW) ⟨rs_pt fi_zero.1, rs_pt fi_zero.1, wi_refl _⟩ hx (fun K _ _ _ _ h1 h2 => ⟨opP_rs _ _ _, opP_rs _ _ _, opP_mono K h1.a h2.a h1.b h2.b h1.w h2.w⟩)
    (fun o ho h0 => ⟨rs_pt (hc o ho h0), rs_pt (hc o ho h0), wi_refl _⟩) k
theorem mk_fi (n : Int) (zs : List Int) (dv : Bool) : ∀ o ∈ mkOps n zs dv, o.K = 0 → Fi o.C := by
  intro o ho h0
  obtain ⟨j, hj⟩ := List.getElem?_of_mem ho
  obtain ⟨N, _, hd⟩ := mk_const n zs dv hj h0
  exact hd.fi
theorem Dy.le {e : Nat} {N M : Int} {x y : Nat} (h : Dy e N x) (h' : Dy e M y) (hle : N ≤ M) : ix x ≤ ix y := by
  have : kv x * pw e ≤ kv y * pw e := by
    rw [h.eq, h'.eq]
    exact Int.mul_le_mul_of_nonneg_right hle (Int.natCast_nonneg _)
  exact rk_le_iff.1 (Int.le_of_mul_le_mul_right this (pwi_pos e))

theorem in_yesT {v : Nat} {X : Nat × Nat} (hv : NN v) (hX : Rt X) (h : InP v X) : Runs Try.prog 21 #[.float .f64 v, vI X] #[] (.bool true) #[] := in_yesR hv hX.l hX.h h.1 h.2

/-! slopes -/
theorem addI {a b : Nat} {X Y : P2} (ha : NIn a X) (hb : NIn b Y) : NIn (fop .add .f64 a b) (addP X Y) := op_in 2 ha hb
theorem subI {a b : Nat} {X Y : P2} (ha : NIn a X) (hb : NIn b Y) : NIn (fop .sub .f64 a b) (subP X Y) := op_in 3 ha hb
theorem mulI {a b : Nat} {X Y : P2} (ha : NIn a X) (hb : NIn b Y) : NIn (fop .mul .f64 a b) (mulP X Y) := op_in 4 ha hb
theorem quoI {a b : Nat} {X Y : P2} (ha : NIn a X) (hb : NIn b Y) : NIn (fop .quo .f64 a b) (divP X Y) := op_in 5 ha hb
theorem slp_in (K : Int) {u v q x y : Nat} {U V Q X Y : P2} (hu : NIn u U) (hv : NIn v V) (hq : NIn q Q) (hx : NIn x X) (hy : NIn y Y) : NIn (slF K u v q x y) (slP K U V Q X Y) := by
  unfold slF slP
  split
  · exact addI hx hy
  split
  · exact subI hx hy
  split
  · exact addI (mulI hx hv) (mulI hu hy)
  · exact quoI (subI hx (mulI hq hy)) hv
/-- A register of numbers within one of from-tos. -/
structure DIn (a : Nat × (Nat → Nat)) (A : P2 × (Nat → P2)) : Prop where
  v : NIn a.1 A.1
  s : ∀ i, NIn (a.2 i) (A.2 i)
theorem fi_one : Fi 4607182418800017408 := ⟨by decide +kernel, by decide +kernel, by decide +kernel⟩
theorem st_in (K : Int) {a b : Nat × (Nat → Nat)} {A B : P2 × (Nat → P2)} (ha : DIn a A) (hb : DIn b B) : DIn (stD K a b) (stDI K A B) :=
  ⟨op_in K ha.v hb.v, fun i => slp_in K ha.v hb.v (op_in K ha.v hb.v) (ha.s i) (hb.s i)⟩
theorem nIn_zero : NIn 0 (0, 0) := nIn_pt fi_zero.1
theorem regD_in {ops : List OpD} (hc : ∀ o ∈ ops, o.K = 0 → Fi o.C) {xs : List Nat} {Xs : List P2} (hx : ∀ i, NIn (xs.getD i 0) (Xs.getD i (0, 0))) (k : Nat) : DIn (regD ops xs k) (regDI ops Xs k) :=
  regT_rel (Q := DIn) ⟨nIn_zero, fun _ => nIn_zero⟩ (fun i => ⟨hx i, fun j => by
    show NIn (if i = j then 4607182418800017408 else 0) (if i = j then (4607182418800017408, 4607182418800017408) else (0, 0))
    split
    · exact nIn_pt fi_one
    · exact nIn_zero⟩) (fun K _ _ _ _ h1 h2 => st_in K h1 h2) (fun o ho h0 => ⟨nIn_pt (hc o ho h0), fun _ => nIn_zero⟩) k
theorem addW {X Y X' Y' : P2} (a : RsW X X') (b : RsW Y Y') : RsW (addP X Y) (addP X' Y') := ⟨opP_rs 2 _ _, opP_rs 2 _ _, opP_mono 2 a.a b.a a.b b.b a.w b.w⟩
theorem subW {X Y X' Y' : P2} (a : RsW X X') (b : RsW Y Y') : RsW (subP X Y) (subP X' Y') := ⟨opP_rs 3 _ _, opP_rs 3 _ _, opP_mono 3 a.a b.a a.b b.b a.w b.w⟩
theorem mulW {X Y X' Y' : P2} (a : RsW X X') (b : RsW Y Y') : RsW (mulP X Y) (mulP X' Y') := ⟨opP_rs 4 _ _, opP_rs 4 _ _, opP_mono 4 a.a b.a a.b b.b a.w b.w⟩
theorem divW {X Y X' Y' : P2} (a : RsW X X') (b : RsW Y Y') : RsW (divP X Y) (divP X' Y') := ⟨opP_rs 5 _ _, opP_rs 5 _ _, opP_mono 5 a.a b.a a.b b.b a.w b.w⟩
theorem slp_wi (K : Int) {U V Q X Y U' V' Q' X' Y' : P2} (hu : RsW U U') (hv : RsW V V') (hq : RsW Q Q') (hx : RsW X X') (hy : RsW Y Y') : RsW (slP K U V Q X Y) (slP K U' V' Q' X' Y') := by
  unfold slP
  split
  · exact addW hx hy
  split
  · exact subW hx hy
  split
  · exact addW (mulW hx hv) (mulW hu hy)
  · exact divW (subW hx (mulW hq hy)) hv
structure DWi (A B : P2 × (Nat → P2)) : Prop where
  v : RsW A.1 B.1
  s : ∀ i, RsW (A.2 i) (B.2 i)
theorem rsW_pt {x : Nat} (h : Fi x) : RsW (x, x) (x, x) := ⟨rs_pt h, rs_pt h, wi_refl _⟩
theorem regD_wi {ops : List OpD} (hc : ∀ o ∈ ops, o.K = 0 → Fi o.C) {Xs Ys : List P2} (hx : ∀ i, RsW (Xs.getD i (0, 0)) (Ys.getD i (0, 0))) (k : Nat) : DWi (regDI ops Xs k) (regDI ops Ys k) :=
  regT_rel (Q := DWi) ⟨rsW_pt fi_zero.1, fun _ => rsW_pt fi_zero.1⟩ (fun i => ⟨hx i, fun j => by
    show RsW (if i = j then (4607182418800017408, 4607182418800017408) else (0, 0)) (if i = j then (4607182418800017408, 4607182418800017408) else (0, 0))
    split
    · exact rsW_pt fi_one
    · exact rsW_pt fi_zero.1⟩) (fun K _ _ _ _ h1 h2 => ⟨⟨opP_rs K _ _, opP_rs K _ _, opP_mono K h1.v.a h2.v.a h1.v.b h2.v.b h1.v.w h2.v.w⟩, fun i => slp_wi K h1.v h2.v ⟨opP_rs K _ _, opP_rs K _ _, opP_mono K h1.v.a h2.v.a h1.v.b h2.v.b h1.v.w h2.v.w⟩ (h1.s i) (h2.s i)⟩)
    (fun o ho h0 => ⟨rsW_pt (hc o ho h0), fun _ => rsW_pt fi_zero.1⟩) k

end Go.Proofs.Ytdlinjijccnaeaa
