/- The law ModelRanges: its questions. -/
import Derived.Test.YtnbbmihlokajaaaModelRange
namespace Go.Proofs.Ytnbbmihlokajaaa
open Go
set_option linter.unusedVariables false
set_option linter.unusedSimpArgs false
set_option maxRecDepth 100000

noncomputable def askG (f : FuncId) : Nat := if [15, 17, 18, 19, 20, 21].contains f then 1 else 2
def lenG : BinOp → Value → Value → Bool
  | .lss, .int _ _, .int _ (.ofNat n) => Nat.ble 9 n
  | _, .float _ _, _ => true
  | _, _, _ => false
def w4 : Nat := 4616189618054758400
def w8 : Nat := 4620693217682128896
theorem w4_fi : Fi w4 ∧ kv w4 = (4 : Nat) * (un : Int) := by
  have h : F 4 = w4 := by decide +kernel
  have := F_fi (n := 4) (by decide)
  rw [h] at this
  exact this
theorem w8_fi : Fi w8 ∧ kv w8 = (8 : Nat) * (un : Int) := by
  have h : F 8 = w8 := by decide +kernel
  have := F_fi (n := 8) (by decide)
  rw [h] at this
  exact this
theorem quo_bd {n x k c : Nat} (hc : Fi c) (hk : kv c = (k : Int) * (un : Int)) (h0 : 0 < k) (hx : Bd n x) (hn : n < 2047) : Bd n (fop .quo .f64 x c) ∧ (0 ≤ ix x → 0 ≤ ix (fop .quo .f64 x c)) := by
  have hu := un_pos
  have hku : 0 < k * un := Nat.mul_pos h0 hu
  have e1 : kv c = ((k * un : Nat) : Int) := by rw [hk, Int.natCast_mul]
  have hr := quo_rd (hx.fi hn) hc (by rw [e1]; omega)
  rw [e1, if_neg (by omega), Int.mul_one, Int.natAbs_natCast] at hr
  refine ⟨⟨hr.1, hr.2.abs hku (by omega) ?_⟩, fun h => ?_⟩
  · rw [Int.natAbs_mul, Int.natAbs_natCast]
    refine Nat.mul_le_mul hx.kv ?_
    exact Nat.le_mul_of_pos_left _ h0
  · refine hr.2.ge hku (by decide) (by decide) ?_
    rw [rk_zero, Int.zero_mul]
    have : rk 0 ≤ kv x := rk_le h
    rw [rk_zero] at this
    exact Int.mul_nonneg this (by omega)
theorem F_64 : ix (F 64) = 1029 * 4503599627370496 := by decide +kernel
theorem F_m64 : ix (F (-64)) = -(1029 * 4503599627370496) := by decide +kernel
theorem F_sm {n : Int} (h : n.natAbs ≤ 64) : Bd 1029 (F n) := by
  have h1 := F_le (n := n) (m := 64) (by omega)
  have h2 := F_le (n := -64) (m := n) (by omega)
  rw [F_64] at h1
  rw [F_m64] at h2
  exact ⟨(F_rd n).1, by omega⟩
theorem F_nonneg {n : Int} (h : 0 ≤ n) : 0 ≤ ix (F n) := by
  have := F_le h
  rw [F_zero] at this
  exact this

def cK (z : Int) : Pt := (fop .quo .f64 (F (iw5 (z % 65 - 32))) w4, fop .add .f64 (fop .quo .f64 (F (iw5 (z % 65 - 32))) w4) (fop .quo .f64 (F (iw5 (z.tdiv 65) % 3)) w4))
def cAt : List Int → Nat → Pt
  | [], _ => (0, 0)
  | z :: _, 0 => cK z
  | _ :: l, i + 1 => cAt l i
theorem iw5_id {x : Int} (h1 : -9223372036854775808 ≤ x) (h2 : x < 9223372036854775808) : iw5 x = x := wrap_id h1 h2
theorem cK_good (z : Int) : Good (cK z) := by
  have a1 := Int.emod_nonneg z (b := 65) (by decide)
  have a2 := Int.emod_lt_of_pos z (b := 65) (by decide)
  have b1 := Int.emod_nonneg (iw5 (z.tdiv 65)) (b := 3) (by decide)
  have b2 := Int.emod_lt_of_pos (iw5 (z.tdiv 65)) (b := 3) (by decide)
  have e : iw5 (z % 65 - 32) = z % 65 - 32 := iw5_id (by omega) (by omega)
  unfold cK
  rw [e]
  have hn : (z % 65 - 32).natAbs ≤ 64 := by omega
  generalize z % 65 - 32 = n at *
  generalize iw5 (z.tdiv 65) % 3 = u at *
  obtain ⟨q1, _⟩ := quo_bd w4_fi.1 w4_fi.2 (by decide) (F_sm (n := n) hn) (by decide)
  obtain ⟨q2, q3⟩ := quo_bd w4_fi.1 w4_fi.2 (by decide) (F_sm (n := u) (by omega)) (by decide)
  exact ⟨q1.mono (by decide), q1.add q2 (by decide) (by decide), add_ge (q1.fi (by decide)) (q2.fi (by decide)) (q3 (F_nonneg b1))⟩
theorem zero_good : Good (0, 0) := ⟨⟨by decide, by decide⟩, ⟨by decide, by decide⟩, Int.le_refl _⟩
theorem cAt_good : ∀ (l : List Int) (i : Nat), Good (cAt l i)
  | [], _ => zero_good
  | z :: _, 0 => cK_good z
  | _ :: l, i + 1 => cAt_good l i

def rR (rest : Int) : Pt := (fop .sub .f64 0 (fop .quo .f64 (F (rest % 9)) w8), fop .quo .f64 (F (rest % 9)) w8)
def rW (rest more : Int) : Pt := (fop .sub .f64 (rR rest).1 (F (more % 9)), fop .add .f64 (rR rest).2 (F (iw5 (more.tdiv 9) % 9)))
theorem nine (z : Int) : Bd 1029 (F (z % 9)) ∧ 0 ≤ ix (F (z % 9)) := by
  have a1 := Int.emod_nonneg z (b := 9) (by decide)
  have a2 := Int.emod_lt_of_pos z (b := 9) (by decide)
  exact ⟨F_sm (by omega), F_nonneg a1⟩
theorem rR_ok (rest : Int) : Bd 1029 (rR rest).1 ∧ Bd 1029 (rR rest).2 ∧ ix (rR rest).1 ≤ 0 ∧ 0 ≤ ix (rR rest).2 := by
  obtain ⟨a, b⟩ := nine rest
  obtain ⟨q1, q2⟩ := quo_bd w8_fi.1 w8_fi.2 (by decide) a (by decide)
  have q3 := q2 b
  obtain ⟨n1, n2⟩ := neg_ix (q1.fi (by decide)).nn
  have q4 := q1.2
  refine ⟨⟨n1.1, ?_⟩, q1, ?_, q3⟩
  · show (ix (fop .sub .f64 0 _)).natAbs ≤ _
    rw [n2]; omega
  · show ix (fop .sub .f64 0 _) ≤ 0
    rw [n2]; omega
theorem rW_ok (rest more : Int) : Bd 1040 (rW rest more).1 ∧ Bd 1040 (rW rest more).2 ∧ ix (rW rest more).1 ≤ ix (rR rest).1 ∧ ix (rR rest).2 ≤ ix (rW rest more).2 := by
  obtain ⟨a1, a2, a3, a4⟩ := rR_ok rest
  obtain ⟨b1, b2⟩ := nine more
  obtain ⟨c1, c2⟩ := nine (iw5 (more.tdiv 9))
  exact ⟨(a1.sub b1 (by decide) (by decide)).mono (by decide), (a2.add c1 (by decide) (by decide)).mono (by decide), sub_le (a1.fi (by decide)) (b1.fi (by decide)) b2, add_ge (a2.fi (by decide)) (c1.fi (by decide)) c2⟩

noncomputable def rgW : List Int → List Obl
  | [] => []
  | z :: l => wi5O z 65 (z % 65) :: wi5O (iw5 (z.tdiv 65)) 3 (iw5 (z.tdiv 65) % 3) :: rgW l
noncomputable def rgU (len : Nat) : Nat → List Int → List Obl
  | _, [] => []
  | i, z :: l => cmpI .lss (Int.ofNat i) (Int.ofNat len) true :: wi5O z 65 (z % 65) :: wi5O (iw5 (z.tdiv 65)) 3 (iw5 (z.tdiv 65) % 3) :: rgU len (i + 1) l
def rgA : List Int → List Ans
  | [] => []
  | z :: l => isI (z % 65) :: isI (iw5 (z.tdiv 65) % 3) :: rgA l
def rgB : List Int → List Ans
  | [] => []
  | z :: l => yes true :: isI (z % 65) :: isI (iw5 (z.tdiv 65) % 3) :: rgB l
noncomputable def r2Q (f : FuncId) (x : Nat) (s : Pt) : Obl := .run f #[.float .f64 x, vP s] #[] (.bool true) #[]
noncomputable def rgEnd (l : List Int) (rest more : Int) (s s' : Pt) : List Obl :=
  [wi5O rest 9 (rest % 9), wi5O more 9 (more % 9), wi5O (iw5 (more.tdiv 9)) 9 (iw5 (more.tdiv 9) % 9), .run 18 #[mod9 (cAt l 0) (cAt l 1) (cAt l 2) (cAt l 3) (cAt l 4) (cAt l 5) (cAt l 6) (cAt l 7) (cAt l 8) (rR rest)] #[] (vP s) #[], .run 19 #[vP s] #[] (.bool true) #[],
   r2Q 20 (cAt l 0).1 s, r2Q 20 (cAt l 0).2 s, r2Q 20 (lo9 (cAt l 0) (cAt l 1) (cAt l 2) (cAt l 3) (cAt l 4) (cAt l 5) (cAt l 6) (cAt l 7) (cAt l 8)) s, r2Q 20 (hi9 (cAt l 0) (cAt l 1) (cAt l 2) (cAt l 3) (cAt l 4) (cAt l 5) (cAt l 6) (cAt l 7) (cAt l 8)) s,
   .run 18 #[mod9 (cAt l 0) (cAt l 1) (cAt l 2) (cAt l 3) (cAt l 4) (cAt l 5) (cAt l 6) (cAt l 7) (cAt l 8) (rW rest more)] #[] (vP s') #[], .run 21 #[vP s, vP s'] #[] (.bool true) #[]]
def rgS (rest more : Int) (s s' : Pt) : List Ans := [isI (rest % 9), isI (more % 9), isI (iw5 (more.tdiv 9) % 9), isP s, yes true, yes true, yes true, yes true, yes true, isP s', yes true]
noncomputable def rgR (zs : List Int) (rest more : Int) (a : List Ans) : Option (Value × List Obl) := (askN askG lenG 12 3 #[arg0 zs, .int .i64 rest, .int .i64 more] (heap0 zs) a).map (fun r => (r.1, r.2.2))

theorem wi9 (z : Int) : Runs Try.prog 17 #[.int .i64 z, .int .i64 9] #[] (.int .i64 (z % 9)) #[] := within5 z 8 (by decide)
theorem wi65 (z : Int) : Runs Try.prog 17 #[.int .i64 z, .int .i64 65] #[] (.int .i64 (z % 65)) #[] := within5 z 64 (by decide)
theorem wi3 (z : Int) : Runs Try.prog 17 #[.int .i64 z, .int .i64 3] #[] (.int .i64 (z % 3)) #[] := within5 z 2 (by decide)
theorem rgW_ok : ∀ l : List Int, okAll Try.prog (rgW l)
  | [] => trivial
  | z :: l => ⟨wi65 z, wi3 _, rgW_ok l⟩
theorem rgU_ok (len : Nat) : ∀ (i : Nat) (l : List Int), i + l.length ≤ len → okAll Try.prog (rgU len i l)
  | i, [], h => trivial
  | i, z :: l, h => by
    simp only [List.length_cons] at h
    exact ⟨(cmp_lss _ _).trans (congrArg some (decide_eq_true (Int.ofNat_lt.2 (by omega)))), wi65 z, wi3 _, rgU_ok len (i + 1) l (by omega)⟩
theorem ref_in {x : Nat} {s : Pt} (hx : NN x) (h1 : NN s.1) (h2 : NN s.2) (l1 : ix s.1 ≤ ix x) (l2 : ix x ≤ ix s.2) : Runs Try.prog 20 #[.float .f64 x, vP s] #[] (.bool true) #[] :=
  quiet_of' (ask := noF) (askC := fltC) (s := [yes true, yes true]) (l := [cmpF .leq s.1 x true, cmpF .leq x s.2 true]) (by kernel_rfl) ⟨(fc _ rfl _ _).trans ((leq_ix h1 hx).trans (congrArg some (decide_eq_true l1))), (fc _ rfl _ _).trans ((leq_ix hx h2).trans (congrArg some (decide_eq_true l2))), trivial⟩ rfl rfl
theorem ref_right {s : Pt} (h1 : NN s.1) (h2 : NN s.2) (l : ix s.1 ≤ ix s.2) : Runs Try.prog 19 #[vP s] #[] (.bool true) #[] :=
  quiet_of' (ask := noF) (askC := fltC) (s := [yes true]) (l := [cmpF .leq s.1 s.2 true]) (by kernel_rfl) ⟨(fc _ rfl _ _).trans ((leq_ix h1 h2).trans (congrArg some (decide_eq_true l))), trivial⟩ rfl rfl
theorem ref_within {s t : Pt} (h1 : NN s.1) (h2 : NN s.2) (h3 : NN t.1) (h4 : NN t.2) (l1 : ix t.1 ≤ ix s.1) (l2 : ix s.2 ≤ ix t.2) : Runs Try.prog 21 #[vP s, vP t] #[] (.bool true) #[] :=
  quiet_of' (ask := noF) (askC := fltC) (s := [yes true, yes true]) (l := [cmpF .leq t.1 s.1 true, cmpF .leq s.2 t.2 true]) (by kernel_rfl) ⟨(fc _ rfl _ _).trans ((leq_ix h3 h1).trans (congrArg some (decide_eq_true l1))), (fc _ rfl _ _).trans ((leq_ix h2 h4).trans (congrArg some (decide_eq_true l2))), trivial⟩ rfl rfl

theorem rgEnd_ok (l : List Int) (rest more : Int) : ∃ s s', okAll Try.prog (rgEnd l rest more s s') := by
  obtain ⟨a1, a2, a3, a4⟩ := rR_ok rest
  have g := cAt_good l
  obtain ⟨s, s', r1, r2, n1, n2, n3, n4, e1, e2, e3, e4, e5, e6, e7, e8, e9, e10, e11⟩ := range_runs (g 0) (g 1) (g 2) (g 3) (g 4) (g 5) (g 6) (g 7) (g 8) ⟨a1.mono (by decide), a2.mono (by decide), a3, a4⟩ (rW_ok rest more)
  have c0 := g 0
  have k1 := (c0.1.fi (by decide)).nn
  have k2 := (c0.2.1.fi (by decide)).nn
  have k3 := c0.2.2
  exact ⟨s, s', wi9 _, wi9 _, wi9 _, r1, ref_right n1 n2 e1, ref_in k1 n1 n2 e4 (by omega), ref_in k2 n1 n2 (by omega) e5, ref_in e6 n1 n2 e8 e9, ref_in e7 n1 n2 e10 e11, r2, ref_within n1 n2 n3 n4 e2 e3, trivial⟩

theorem rg_short {zs : List Int} {rest more : Int} (h : ∀ s s', rgR zs rest more (yes true :: rgA zs ++ rgS rest more s s') = some (.bool true, kn5O :: rgW zs ++ rgEnd zs rest more s s')) : Tells 3 #[arg0 zs, .int .i64 rest, .int .i64 more] (heap0 zs) (.bool true) := by
  obtain ⟨s, s', hs⟩ := rgEnd_ok zs rest more
  exact tells_of (h s s') ⟨known5, app_ok (rgW_ok zs) hs⟩
theorem rg_long {zs l : List Int} {rest more : Int} (hl : l.length = 9) (hz : 9 ≤ zs.length) (h : ∀ s s', rgR zs rest more (yes true :: rgB l ++ rgS rest more s s') = some (.bool true, kn5O :: rgU zs.length 0 l ++ rgEnd l rest more s s')) : Tells 3 #[arg0 zs, .int .i64 rest, .int .i64 more] (heap0 zs) (.bool true) := by
  obtain ⟨s, s', hs⟩ := rgEnd_ok l rest more
  exact tells_of (h s s') ⟨known5, app_ok (rgU_ok _ 0 l (by omega)) hs⟩

end Go.Proofs.Ytnbbmihlokajaaa
