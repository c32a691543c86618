/- The law ModelTurns returns true, whatever it is handed. -/
import Derived.Test.YtnbbmihlokajaaaModelNear
import Derived.Test.YtnbbmihlokajaaaModelMake
import Derived.Test.YtnbbmihlokajaaaSliceTwo
namespace Go.Proofs.Ytnbbmihlokajaaa
open Go
set_option linter.unusedVariables false
set_option linter.unusedSimpArgs false
set_option maxRecDepth 100000

/-! what is the same but for the sign of nought -/
theorem same2_ix {X Y : P2} (h1 : NN X.1) (h2 : NN X.2) (g1 : NN Y.1) (g2 : NN Y.2) (e1 : ix X.1 = ix Y.1) (e2 : ix X.2 = ix Y.2) : Runs Try.prog 39 #[vI X, vI Y] #[] (.bool true) #[] := by
  have q1 := (eql_ix h1 g1).trans (congrArg some (decide_eq_true e1))
  have q2 := (eql_ix h2 g2).trans (congrArg some (decide_eq_true e2))
  exact quiet_of' (ask := fun _ => 2) (askC := fltC) (s := [yes true, yes true]) (l := [cmpF .eql X.1 Y.1 true, cmpF .eql X.2 Y.2 true]) (by kernel_rfl) ⟨(fc _ rfl _ _).trans q1, (fc _ rfl _ _).trans q2, trivial⟩ rfl rfl
noncomputable def askS2 (f : FuncId) : Nat := bif f == 39 then 1 else 0
noncomputable def s2P (X Y : P2) : Obl := .run 39 #[vI X, vI Y] #[] (.bool true) #[]
theorem same5_two (c d : Nat → P2) : (askN askS2 noC 12 25 #[mW c, mW d] #[] [yes true, yes true, yes true, yes true, yes true, yes true, yes true, yes true, yes true, yes true]).map (fun r => (r.1, r.2.2)) =
  some (.bool true, [s2P (c 0) (d 0), s2P (c 1) (d 1), s2P (c 2) (d 2), s2P (c 3) (d 3), s2P (c 4) (d 4), s2P (c 5) (d 5), s2P (c 6) (d 6), s2P (c 7) (d 7), s2P (c 8) (d 8), s2P (c 9) (d 9)]) := by kernel_rfl
theorem same5_ix {c d : Nat → P2} (h : ∀ k, k ≤ 9 → NN (c k).1 ∧ NN (c k).2 ∧ NN (d k).1 ∧ NN (d k).2 ∧ ix (c k).1 = ix (d k).1 ∧ ix (c k).2 = ix (d k).2) : Runs Try.prog 25 #[mW c, mW d] #[] (.bool true) #[] := by
  have g := fun k (hk : k ≤ 9) => same2_ix (h k hk).1 (h k hk).2.1 (h k hk).2.2.1 (h k hk).2.2.2.1 (h k hk).2.2.2.2.1 (h k hk).2.2.2.2.2
  exact quiet_of' (same5_two c d) ⟨g 0 (by decide), g 1 (by decide), g 2 (by decide), g 3 (by decide), g 4 (by decide), g 5 (by decide), g 6 (by decide), g 7 (by decide), g 8 (by decide), g 9 (by decide), trivial⟩ rfl rfl

/-- Ends that are small, in their order. -/
structure Or (X : P2) : Prop where
  l : Bd 1060 X.1
  h : Bd 1060 X.2
  le : ix X.1 ≤ ix X.2
theorem addP_fin {X Y : P2} (a : Or X) (b : Or Y) : addP X Y = (dn (fop .add .f64 X.1 Y.1), up (fop .add .f64 X.2 Y.2)) ∧ Bd 1061 (fop .add .f64 X.1 Y.1) ∧ Bd 1061 (fop .add .f64 X.2 Y.2) := by
  have b1 := a.l.add b.l (by decide) (by decide)
  have b2 := a.h.add b.h (by decide) (by decide)
  have m := add_mono (a.l.fi (by decide)) (b.l.fi (by decide)) (a.h.fi (by decide)) (b.h.fi (by decide)) a.le b.le
  exact ⟨outP_eq (b1.fi (by decide)).nn (b2.fi (by decide)).nn (out_le (b1.fi (by decide)).nn (b2.fi (by decide)).nn m), b1, b2⟩
theorem subP_fin {X Y : P2} (a : Or X) (b : Or Y) : subP X Y = (dn (fop .sub .f64 X.1 Y.2), up (fop .sub .f64 X.2 Y.1)) ∧ Bd 1061 (fop .sub .f64 X.1 Y.2) ∧ Bd 1061 (fop .sub .f64 X.2 Y.1) := by
  have b1 := a.l.sub b.h (by decide) (by decide)
  have b2 := a.h.sub b.l (by decide) (by decide)
  have m := sub_mono (a.l.fi (by decide)) (b.h.fi (by decide)) (a.h.fi (by decide)) (b.l.fi (by decide)) a.le b.le
  exact ⟨outP_eq (b1.fi (by decide)).nn (b2.fi (by decide)).nn (out_le (b1.fi (by decide)).nn (b2.fi (by decide)).nn m), b1, b2⟩
theorem add_same {x y : Nat} (hx : Fi x) (hy : Fi y) : ix (fop .add .f64 x y) = ix (fop .add .f64 y x) := by
  have a := (add_rd hx hy).2
  have b := (add_rd hy hx).2
  rw [Int.add_comm] at b
  exact a.uniq (by decide) b
theorem sub_turn {x y : Nat} (hx : Fi x) (hy : Fi y) : ix (fop .sub .f64 x y) = -ix (fop .sub .f64 y x) := by
  have a := (sub_rd hx hy).2
  have b := (sub_rd hy hx).2.neg
  have e : -(kv y - kv x) = kv x - kv y := by omega
  rw [e] at b
  exact a.uniq (by decide) b
theorem addM_same {c d : Nat → P2} (hc : ∀ k, k ≤ 9 → Or (c k)) (hd : ∀ k, k ≤ 9 → Or (d k)) : Runs Try.prog 25 #[mW (addM c d), mW (addM d c)] #[] (.bool true) #[] := by
  refine same5_ix fun k hk => ?_
  obtain ⟨e1, a1, a2⟩ := addP_fin (hc k hk) (hd k hk)
  obtain ⟨e2, b1, b2⟩ := addP_fin (hd k hk) (hc k hk)
  have f1 := (hc k hk).l.fi (by decide)
  have f2 := (hc k hk).h.fi (by decide)
  have g1 := (hd k hk).l.fi (by decide)
  have g2 := (hd k hk).h.fi (by decide)
  show NN (addP (c k) (d k)).1 ∧ NN (addP (c k) (d k)).2 ∧ NN (addP (d k) (c k)).1 ∧ NN (addP (d k) (c k)).2 ∧ ix (addP (c k) (d k)).1 = ix (addP (d k) (c k)).1 ∧ ix (addP (c k) (d k)).2 = ix (addP (d k) (c k)).2
  rw [e1, e2]
  obtain ⟨p1, p2⟩ := a1.dn (by decide)
  obtain ⟨q1, q2⟩ := a2.up (by decide)
  obtain ⟨r1, r2⟩ := b1.dn (by decide)
  obtain ⟨s1, s2⟩ := b2.up (by decide)
  have h1 := add_same f1 g1
  have h2 := add_same f2 g2
  exact ⟨(p1.fi (by decide)).nn, (q1.fi (by decide)).nn, (r1.fi (by decide)).nn, (s1.fi (by decide)).nn, by simp only; omega, by simp only; omega⟩
theorem neq_ix' {x y : Nat} (hx : NN x) (hy : NN y) (h : ix x = ix y) : fcmp .neq .f64 x y = some false := by
  rw [neq_ix hx hy]
  simp [h]
theorem subM_turn {c d : Nat → P2} {k : Nat} (hc : Or (c k)) (hd : Or (d k)) : fcmp .neq .f64 (subM c d k).1 (fop .sub .f64 0 (subM d c k).2) = some false ∧ fcmp .neq .f64 (subM c d k).2 (fop .sub .f64 0 (subM d c k).1) = some false := by
  obtain ⟨e1, a1, a2⟩ := subP_fin hc hd
  obtain ⟨e2, b1, b2⟩ := subP_fin hd hc
  have f1 := hc.l.fi (by decide)
  have f2 := hc.h.fi (by decide)
  have g1 := hd.l.fi (by decide)
  have g2 := hd.h.fi (by decide)
  show fcmp .neq .f64 (subP (c k) (d k)).1 (fop .sub .f64 0 (subP (d k) (c k)).2) = some false ∧ fcmp .neq .f64 (subP (c k) (d k)).2 (fop .sub .f64 0 (subP (d k) (c k)).1) = some false
  rw [e1, e2]
  obtain ⟨p1, p2⟩ := a1.dn (by decide)
  obtain ⟨q1, q2⟩ := a2.up (by decide)
  obtain ⟨r1, r2⟩ := b1.dn (by decide)
  obtain ⟨s1, s2⟩ := b2.up (by decide)
  obtain ⟨n1, n2⟩ := neg_ix (s1.fi (by decide)).nn
  obtain ⟨m1, m2⟩ := neg_ix (r1.fi (by decide)).nn
  have h1 := sub_turn f1 g2
  have h2 := sub_turn f2 g1
  exact ⟨neq_ix' (p1.fi (by decide)).nn n1 (by simp only; omega), neq_ix' (q1.fi (by decide)).nn m1 (by simp only; omega)⟩

/-! near -/
def w8f : Nat := 4620693217682128896
theorem w8f_ok : Fi w8f ∧ kv w8f = 8 * un := by
  have h : F 8 = w8f := by decide +kernel
  have := F_fi (n := 8) (by decide)
  rw [h] at this
  exact this
theorem near_at {a b : Nat} (ha : Fi a) (hb : Fi b) (h1 : vR a - vR b ≤ 1) (h2 : vR b - vR a ≤ 1) : Runs Try.prog 33 #[.float .f64 a, .float .f64 b, .float .f64 w8f] #[] (.bool true) #[] := by
  have key : ∀ {x y : Nat}, Fi x → Fi y → vR x - vR y ≤ 1 → fcmp .leq .f64 (fop .sub .f64 x y) w8f = some true := by
    intro x y hx hy h
    have hr := sub_rd hx hy
    have hw := w8f_ok.1.2
    have hu : (0 : Int) < un := by have := un_pos; omega
    have hle : kv x - kv y ≤ 1 * un := by
      refine icast.1 ?_
      rw [Rat.intCast_sub, Rat.intCast_mul]
      show kR x - kR y ≤ 1 * uR
      rw [vR_eq, vR_eq]
      have := Rat.mul_le_mul_of_nonneg_right h (Rat.le_of_lt uR_pos')
      grind
    have hi : ix (fop .sub .f64 x y) ≤ ix w8f := by
      refine hr.2.le (by decide) (by omega) (by omega) ?_
      rw [Int.natCast_one, Int.mul_one]
      show _ ≤ kv w8f
      rw [w8f_ok.2]; omega
    exact (leq_ix hr.nn w8f_ok.1.nn).trans (congrArg some (decide_eq_true hi))
  exact quiet_of' (ask := noF) (askC := fltC) (s := [yes true, yes true]) (l := [cmpF .leq (fop .sub .f64 a b) w8f true, cmpF .leq (fop .sub .f64 b a) w8f true]) (by kernel_rfl) ⟨(fc _ rfl _ _).trans (key ha hb h1), (fc _ rfl _ _).trans (key hb ha h2), trivial⟩ rfl rfl

/-! the law's Models: how large they are -/
def cOf3 (zs : List Int) (rest : Int) : Nat → P2 := fun i => if i < 9 then cAt zs i else rR rest
theorem c_all : ∀ n < 65, ∀ u < 3, -4621256167635550208 ≤ ix (fop .quo .f64 (F (Int.ofNat n - 32)) w4) ∧ ix (fop .add .f64 (fop .quo .f64 (F (Int.ofNat n - 32)) w4) (fop .quo .f64 (F (Int.ofNat u)) w4)) ≤ 4621256167635550208 := by decide +kernel
theorem r_all' : ∀ n < 9, ix (fop .quo .f64 (F (Int.ofNat n)) w8) ≤ 4607182418800017408 := by decide +kernel
theorem cAt_sz : ∀ (l : List Int) (i : Nat), -4621256167635550208 ≤ ix (cAt l i).1 ∧ ix (cAt l i).2 ≤ 4621256167635550208
  | [], _ => by
    show -4621256167635550208 ≤ ix 0 ∧ ix 0 ≤ 4621256167635550208
    decide
  | z :: _, 0 => by
    have a1 := Int.emod_nonneg z (b := 65) (by decide)
    have a2 := Int.emod_lt_of_pos z (b := 65) (by decide)
    have b1 := Int.emod_nonneg (iw5 (z.tdiv 65)) (b := 3) (by decide)
    have b2 := Int.emod_lt_of_pos (iw5 (z.tdiv 65)) (b := 3) (by decide)
    have e : iw5 (z % 65 - 32) = z % 65 - 32 := iw5_id (by omega) (by omega)
    show -4621256167635550208 ≤ ix (cK z).1 ∧ ix (cK z).2 ≤ 4621256167635550208
    unfold cK
    rw [e]
    obtain ⟨n, hn⟩ := Int.eq_ofNat_of_zero_le a1
    obtain ⟨u, hu⟩ := Int.eq_ofNat_of_zero_le b1
    rw [hn] at a2 ⊢
    rw [hu] at b2 ⊢
    exact c_all n (by omega) u (by omega)
  | _ :: l, i + 1 => cAt_sz l i
theorem nine_ix : ix (F 9) = 4621256167635550208 ∧ ix (F (-9)) = -4621256167635550208 := by decide +kernel
theorem vR_mono {x y : Nat} (h : ix x ≤ ix y) : vR x ≤ vR y := by
  have h3 : kv x ≤ kv y := rk_le h
  have h4 := icast.2 h3
  have h5 : kR x ≤ kR y := h4
  rw [vR_eq x, vR_eq y] at h5
  exact Rat.le_of_mul_le_mul_right h5 uR_pos'
theorem vR_F {n : Int} (h : n.natAbs < 9007199254740992) : vR (F n) = (n : Rat) := by
  have h2 := vR_eq (F n)
  have h3 : kR (F n) = (n : Rat) * uR := by
    unfold kR
    rw [(F_fi h).2, Rat.intCast_mul]
    rfl
  rw [h3] at h2
  have h4 : (vR (F n) - (n : Rat)) * uR = 0 := by grind
  rcases Rat.mul_eq_zero.1 h4 with h | h
  · grind
  · exact absurd h uR_ne
theorem c_or (zs : List Int) (rest : Int) : ∀ k, k ≤ 9 → Or (cOf3 zs rest k) := by
  intro k hk
  unfold cOf3
  by_cases h : k < 9
  · rw [if_pos h]
    obtain ⟨g1, g2, g3⟩ := cAt_good zs k
    exact ⟨g1.mono (by decide), g2.mono (by decide), g3⟩
  · rw [if_neg h]
    obtain ⟨p1, p2, p3, p4⟩ := rR_ok rest
    exact ⟨p1.mono (by decide), p2.mono (by decide), by omega⟩
def cE (c : Nat → P2) : Nat → Rat × Rat := fun k => (vR (c k).1, vR (c k).2)
theorem c_nm (zs : List Int) (rest : Int) : NM (cOf3 zs rest) (cE (cOf3 zs rest)) ∧ ∃ w : Rat, 0 ≤ w ∧ cE (cOf3 zs rest) 9 = (-w, w) := by
  have e0 : ((0 : Nat) : Rat) = 0 := rfl
  have e9 : ((9 : Nat) : Rat) = 9 := rfl
  have e1 : ((1 : Nat) : Rat) = 1 := rfl
  have o := c_or zs rest
  have t9 : cOf3 zs rest 9 = rR rest := rfl
  obtain ⟨p1, p2, p3, p4⟩ := rR_ok rest
  have neg : vR (rR rest).1 = -vR (rR rest).2 := by
    obtain ⟨n1, n2⟩ := neg_ix (p2.fi (by decide)).nn
    have hk : kv (rR rest).1 = -kv (rR rest).2 := by
      show rk (ix (fop .sub .f64 0 (rR rest).2)) = -rk (ix (rR rest).2)
      rw [n2, rk_neg]
    have h5 : kR (rR rest).1 = -kR (rR rest).2 := by
      unfold kR
      rw [hk, Rat.intCast_neg]
    rw [vR_eq, vR_eq (rR rest).2] at h5
    have h4 : (vR (rR rest).1 + vR (rR rest).2) * uR = 0 := by grind
    rcases Rat.mul_eq_zero.1 h4 with h | h
    · grind
    · exact absurd h uR_ne
  have w0 : 0 ≤ vR (rR rest).2 := by
    have := vR_mono (x := 0) (y := (rR rest).2) (by rw [fi_zero.2]; exact p4)
    rw [vR_zero] at this
    exact this
  have w1 : vR (rR rest).2 ≤ 1 := by
    have a1 := Int.emod_nonneg rest (b := 9) (by decide)
    have a2 := Int.emod_lt_of_pos rest (b := 9) (by decide)
    obtain ⟨n, hn⟩ := Int.eq_ofNat_of_zero_le a1
    have h := r_all' n (by omega)
    have e : (rR rest).2 = fop .quo .f64 (F (Int.ofNat n)) w8 := by unfold rR; rw [hn]; rfl
    have ho : ix oneW = 4607182418800017408 := by decide
    have := vR_mono (x := (rR rest).2) (y := oneW) (by rw [e, ho]; exact h)
    rw [vR_one] at this
    exact this
  refine ⟨⟨fun k hk => ?_, ?_⟩, vR (rR rest).2, w0, ?_⟩
  · have ok := o k (by omega)
    have e : cOf3 zs rest k = cAt zs k := by unfold cOf3; rw [if_pos (by omega)]
    obtain ⟨s1, s2⟩ := cAt_sz zs k
    have q1 := vR_mono (x := F (-9)) (y := (cOf3 zs rest k).1) (by rw [nine_ix.2, e]; exact s1)
    have q2 := vR_mono (x := (cOf3 zs rest k).2) (y := F 9) (by rw [nine_ix.1, e]; exact s2)
    rw [vR_F (by decide)] at q1 q2
    have q3 := vR_mono ok.le
    have c9 : ((-9 : Int) : Rat) = -9 := rfl
    have c9' : ((9 : Int) : Rat) = 9 := rfl
    rw [c9] at q1
    rw [c9'] at q2
    exact ⟨ok.l, ok.h, q3, Rat.le_refl, by rw [e0]; show vR _ - 0 * eps ≤ vR _; grind, Rat.le_refl, by rw [e0]; show vR _ ≤ vR _ + 0 * eps; grind, by rw [e9]; exact q1, by rw [e9]; exact q2⟩
  · have ok := o 9 (by decide)
    have q3 := vR_mono ok.le
    rw [t9] at ok q3 ⊢
    refine ⟨ok.l, ok.h, ?_, ?_, ?_, ?_, ?_, ?_, ?_⟩
    · exact q3
    · exact Rat.le_refl
    · rw [e0]; show vR (rR rest).1 - 0 * eps ≤ vR (rR rest).1; grind
    · exact Rat.le_refl
    · rw [e0]; show vR (rR rest).2 ≤ vR (rR rest).2 + 0 * eps; grind
    · rw [e1]; show -1 ≤ vR (rR rest).1; grind
    · rw [e1]; exact w1
  · show (vR (cOf3 zs rest 9).1, vR (cOf3 zs rest 9).2) = _
    rw [t9, neg]

/-! the law -/
noncomputable def askTu (f : FuncId) : Nat := if [15, 16, 31, 32, 27, 18, 25, 33].contains f then 1 else 2
noncomputable def opT (f : FuncId) (c d e : Nat → P2) : Obl := .run f #[mW c, mW d] #[] (mW e) #[]
noncomputable def tuK (S D : Nat → P2) (k : Nat) : List Obl := [cmpF .neq (S k).1 (fop .sub .f64 0 (D k).2) false, cmpF .neq (S k).2 (fop .sub .f64 0 (D k).1) false]
noncomputable def neQ (a b : Nat) : Obl := .run 33 #[.float .f64 a, .float .f64 b, .float .f64 w8f] #[] (.bool true) #[]
noncomputable def tuO (H : AHeap) (va vb : Value) (a b : Int) (c d S D A B P Q : Nat → P2) (p q : P2) : List Obl :=
  [kn5O, mk2 H 16 #[va, .int .i64 a] (isV' (mW c)), mk2 (nx H (isV' (mW c))) 16 #[vb, .int .i64 b] (isV' (mW d)), opT 32 c d S, opT 32 d c D, opT 31 c d A, opT 31 d c B,
   .run 25 #[mW A, mW B] #[] (.bool true) #[]] ++ (tuK S D 0 ++ (tuK S D 1 ++ (tuK S D 2 ++ (tuK S D 3 ++ (tuK S D 4 ++ (tuK S D 5 ++ (tuK S D 6 ++ (tuK S D 7 ++ (tuK S D 8 ++
  [opT 27 c d P, .run 18 #[mW P] #[] (vI p) #[], opT 27 d c Q, .run 18 #[mW Q] #[] (vI q) #[], neQ p.1 q.1, neQ p.2 q.2])))))))))
def noN : Nat → List Ans
  | 0 => []
  | n + 1 => yes false :: noN n
def tuS (c d S D A B P Q : Nat → P2) (p q : P2) : List Ans := [yes true, isV' (mW c), isV' (mW d), isV' (mW S), isV' (mW D), isV' (mW A), isV' (mW B), yes true] ++ (noN 18 ++ [isV' (mW P), isV' (vI p), isV' (mW Q), isV' (vI q), yes true, yes true])
def TuRun (H : AHeap) : Prop := ∀ (va vb : Value) (a b : Int) (c d S D A B P Q : Nat → P2) (p q : P2), (askN askTu fltC 12 7 #[va, vb, .int .i64 a, .int .i64 b] H (tuS c d S D A B P Q p q)).map (fun r => (r.1, r.2.2)) = some (.bool true, tuO H va vb a b c d S D A B P Q p q)
theorem tu0 : TuRun #[] := fun va vb a b c d S D A B P Q p q => by kernel_rfl
theorem tu1 (o : Option ABlk) : TuRun #[o] := fun va vb a b c d S D A B P Q p q => by kernel_rfl
theorem tu2 (o1 o2 : Option ABlk) : TuRun #[o1, o2] := fun va vb a b c d S D A B P Q p q => by kernel_rfl

theorem make_3 {H : AHeap} {zs : List Int} {rest : Int} {va : Value} (hh : Handed H zs va) : (mk2 H 16 #[va, .int .i64 rest] (isV' (mW (cOf3 zs rest)))).ok Try.prog := by
  have h := make_handed (rest := rest) hh.froze
  have h2 := Runs.drop (froze_all H) h rfl
  exact mk2_v h2
theorem app_okT {P : Program} : ∀ {l m : List Obl}, okAll P l → okAll P m → okAll P (l ++ m)
  | [], _, _, h => h
  | _ :: _, _, h, g => ⟨h.1, app_okT h.2 g⟩
theorem modelTurns_run {Hp : AHeap} (hrun : TuRun Hp) {zs us : List Int} {va vb : Value} (ha : Handed Hp zs va) (hb : Handed Hp us vb) (a b : Int) : Tells 7 #[va, vb, .int .i64 a, .int .i64 b] Hp (.bool true) := by
  have m1 := make_3 (rest := a) ha
  have hb2 : Handed (nx Hp (isV' (mW (cOf3 zs a)))) us vb := hb.thaw _
  have m2 := make_3 (rest := b) hb2
  obtain ⟨nc, w, w0, wC⟩ := c_nm zs a
  obtain ⟨nd, v, v0, vD⟩ := c_nm us b
  have oc := c_or zs a
  have od := c_or us b
  generalize cOf3 zs a = c at *
  generalize cOf3 us b = d at *
  have n1 := ne_all nc nd
  have n2 := ne_all nd nc
  have eq := range_comm wC vD w0 v0 (ne_poly nc.co (by decide) (by decide)).ab (ne_poly nd.co (by decide) (by decide)).ab
  rw [eq] at n1
  have tk := fun k (hk : k ≤ 9) => subM_turn (c := c) (d := d) (oc k hk) (od k hk)
  have kk : ∀ k, k ≤ 9 → okAll Try.prog (tuK (subM c d) (subM d c) k) := fun k hk => ⟨(fc _ rfl _ _).trans (tk k hk).1, (fc _ rfl _ _).trans (tk k hk).2, trivial⟩
  have e5 : ((503 : Nat) : Rat) * eps ≤ 1 / 2 := by unfold eps; decide +kernel
  have x1 := n1.l1; have x2 := n1.l2; have x3 := n1.h1; have x4 := n1.h2
  have y1 := n2.l1; have y2 := n2.l2; have y3 := n2.h1; have y4 := n2.h2
  have k1 := near_at (fi_of_bd n1.bl) (fi_of_bd n2.bl) (by grind) (by grind)
  have k2 := near_at (fi_of_bd n1.bh) (fi_of_bd n2.bh) (by grind) (by grind)
  refine tells_of (hrun va vb a b c d (subM c d) (subM d c) (addM c d) (addM d c) (mulM c d) (mulM d c) (rangeM (mulM c d)) (rangeM (mulM d c))) ?_
  unfold tuO
  exact app_okT ⟨known5, m1, m2, subM_runs c d, subM_runs d c, addM_runs c d, addM_runs d c, addM_same oc od, trivial⟩ (app_okT (kk 0 (by decide)) (app_okT (kk 1 (by decide)) (app_okT (kk 2 (by decide)) (app_okT (kk 3 (by decide)) (app_okT (kk 4 (by decide)) (app_okT (kk 5 (by decide)) (app_okT (kk 6 (by decide)) (app_okT (kk 7 (by decide)) (app_okT (kk 8 (by decide))
    ⟨mulM_runs c d, rangeM_runs _, mulM_runs d c, rangeM_runs _, k1, k2, trivial⟩)))))))))

theorem modelTurns_two {Hp : AHeap} (hs : Hp.size ≤ 2) {zs us : List Int} {va vb : Value} (ha : Handed Hp zs va) (hb : Handed Hp us vb) (a b : Int) : Tells 7 #[va, vb, .int .i64 a, .int .i64 b] Hp (.bool true) := by
  have h : TuRun Hp := by
    obtain ⟨l⟩ := Hp
    match l, hs with
    | [], _ => exact tu0
    | [o], _ => exact tu1 o
    | [o1, o2], _ => exact tu2 o1 o2
  exact modelTurns_run h ha hb a b

end Go.Proofs.Ytnbbmihlokajaaa
