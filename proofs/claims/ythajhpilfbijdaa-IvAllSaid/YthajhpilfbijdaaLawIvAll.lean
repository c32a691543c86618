/- The law IvAll returns true, whatever it is handed. -/
import Derived.Test.YthajhpilfbijdaaIvAllT
import Derived.Test.YthajhpilfbijdaaIvAllF
namespace Go.Proofs.Ythajhpilfbijdaa
open Go
set_option linter.unusedVariables false
set_option linter.unusedSimpArgs false
set_option maxRecDepth 100000

theorem ivAll_came (T : Tab) (a b : Nat) (m k w n j v : Int) (X0 X1 X2 P : Pt) (x y z : Nat) (t r : Bool) :
    (askN askA allC 12 12 #[.float .f64 a, .float .f64 b, .int .i64 m, .int .i64 k, .int .i64 w, .int .i64 n, .int .i64 j, .int .i64 v] #[] (headA X0 X1 X2 P x y z t ++ rowsA T (five X0 X1 X2 r) (five X0 X1 X2 r))).map (fun r => (r.1, r.2.2)) =
      some (.bool true, headQ a b m k w n j v X0 X1 X2 P x y z t ++ rowsQ T a (five X0 X1 X2 r) (five X0 X1 X2 r)) := by
  cases r
  · exact ivAll_cameF T a b m k w n j v X0 X1 X2 P x y z t
  · exact ivAll_cameT T a b m k w n j v X0 X1 X2 P x y z t

/-! the answers -/
theorem same_at {p q : Nat} (h1 : fcmp .eql .f64 p p = some true) (h2 : fcmp .eql .f64 q q = some true) : Runs Try.prog 36 #[fl2 p q, fl2 p q] #[] (.bool true) #[] :=
  quiet_of' (ask := fun _ => 2) (askC := fltC) (s := [yes true, yes true]) (l := [cmpF .eql p p true, cmpF .eql q q true]) (by kernel_rfl) ⟨(fc _ rfl _ _).trans h1, (fc _ rfl _ _).trans h2, trivial⟩ rfl rfl
theorem eql_self {p : Nat} (h : NN p) : fcmp .eql .f64 p p = some true := (eql_ix h h).trans (congrArg some (decide_eq_true rfl))
theorem fcmp_all (op : BinOp) (h : op = .leq ∨ op = .lss ∨ op = .gtr) (x y : Nat) : ∃ t, fcmp op .f64 x y = some t := by
  rcases h with rfl | rfl | rfl <;> exact ⟨_, rfl⟩

theorem within_came (f : FuncId) (hf : f = 35 ∨ f = 41) (a b c d : Nat) (s t : Bool) : (askN noF fltC 12 f #[fl2 a b, fl2 c d] #[] (yes s :: bif s then [yes t] else [])).map (fun r => (r.1, r.2.2)) =
    some (.bool (bif s then t else false), cmpF .leq c a s :: bif s then [cmpF .leq b d t] else []) := by
  rcases hf with rfl | rfl <;> cases s <;> cases t <;> kernel_rfl
theorem within_both (X Y : Pt) : ∃ t, Runs Try.prog 35 #[vP X, vP Y] #[] (.bool t) #[] ∧ Runs Try.prog 41 #[vP X, vP Y] #[] (.bool t) #[] := by
  obtain ⟨s, hs⟩ := fcmp_all .leq (.inl rfl) Y.1 X.1
  obtain ⟨t, ht⟩ := fcmp_all .leq (.inl rfl) X.2 Y.2
  have ob : okAll Try.prog (cmpF .leq Y.1 X.1 s :: bif s then [cmpF .leq X.2 Y.2 t] else []) := by
    cases s
    · exact ⟨(fc _ rfl _ _).trans hs, trivial⟩
    · exact ⟨(fc _ rfl _ _).trans hs, (fc _ rfl _ _).trans ht, trivial⟩
  exact ⟨_, quiet_of' (within_came _ (.inl rfl) X.1 X.2 Y.1 Y.2 s t) ob rfl rfl, quiet_of' (within_came _ (.inr rfl) X.1 X.2 Y.1 Y.2 s t) ob rfl rfl⟩
theorem in_came (f : FuncId) (hf : f = 18 ∨ f = 40) (x a b : Nat) (s t : Bool) : (askN noF fltC 12 f #[.float .f64 x, fl2 a b] #[] (yes s :: bif s then [yes t] else [])).map (fun r => (r.1, r.2.2)) =
    some (.bool (bif s then t else false), cmpF .leq a x s :: bif s then [cmpF .leq x b t] else []) := by
  rcases hf with rfl | rfl <;> cases s <;> cases t <;> kernel_rfl
theorem in_both (x : Nat) (X : Pt) : ∃ t, Runs Try.prog 18 #[.float .f64 x, vP X] #[] (.bool t) #[] ∧ Runs Try.prog 40 #[.float .f64 x, vP X] #[] (.bool t) #[] := by
  obtain ⟨s, hs⟩ := fcmp_all .leq (.inl rfl) X.1 x
  obtain ⟨t, ht⟩ := fcmp_all .leq (.inl rfl) x X.2
  have ob : okAll Try.prog (cmpF .leq X.1 x s :: bif s then [cmpF .leq x X.2 t] else []) := by
    cases s
    · exact ⟨(fc _ rfl _ _).trans hs, trivial⟩
    · exact ⟨(fc _ rfl _ _).trans hs, (fc _ rfl _ _).trans ht, trivial⟩
  exact ⟨_, quiet_of' (in_came _ (.inl rfl) x X.1 X.2 s t) ob rfl rfl, quiet_of' (in_came _ (.inr rfl) x X.1 X.2 s t) ob rfl rfl⟩
theorem join_cameR (a b c d : Nat) (c1 c2 : Bool) : (askN noF fltC 12 46 #[fl2 a b, fl2 c d] #[] [yes c1, yes c2]).map (fun r => (r.1, r.2.2)) = some (fl2 (sel c1 c a) (sel c2 d b), [cmpF .lss c a c1, cmpF .gtr d b c2]) := by
  cases c1 <;> cases c2 <;> kernel_rfl
theorem sel_nn {c : Bool} {x y : Nat} (hx : NN x) (hy : NN y) : NN (sel c x y) := by cases c; exact hy; exact hx
theorem join_both (X Y : Pt) : ∃ r : Pt, Runs Try.prog 32 #[vP X, vP Y] #[] (vP r) #[] ∧ Runs Try.prog 46 #[vP X, vP Y] #[] (vP r) #[] ∧ (NN X.1 → NN X.2 → NN Y.1 → NN Y.2 → NN r.1 ∧ NN r.2) := by
  obtain ⟨s, hs⟩ := fcmp_all .lss (.inr (.inl rfl)) Y.1 X.1
  obtain ⟨t, ht⟩ := fcmp_all .gtr (.inr (.inr rfl)) Y.2 X.2
  have ob : okAll Try.prog [cmpF .lss Y.1 X.1 s, cmpF .gtr Y.2 X.2 t] := ⟨(fc _ rfl _ _).trans hs, (fc _ rfl _ _).trans ht, trivial⟩
  exact ⟨(sel s Y.1 X.1, sel t Y.2 X.2), quiet_of' (join_came X.1 X.2 Y.1 Y.2 s t) ob rfl rfl, quiet_of' (join_cameR X.1 X.2 Y.1 Y.2 s t) ob rfl rfl, fun h1 h2 h3 h4 => ⟨sel_nn h3 h1, sel_nn h4 h2⟩⟩
noncomputable def askAbR (f : FuncId) : Nat := if f == 25 then 1 else if f == 66 then 2 else 0
theorem mag_cameR (a b x y : Nat) (c : Bool) : (askN askAbR fltC 12 47 #[fl2 a b] #[] [isG x, isG y, yes c]).map (fun r => (r.1, r.2.2)) = some (.float .f64 (sel c y x), [absO a x, absO b y, cmpF .gtr y x c]) := by
  cases c <;> kernel_rfl
theorem mag_both (X : Pt) : ∃ g, NN X.1 → NN X.2 → Runs Try.prog 33 #[vP X] #[] (.float .f64 g) #[] ∧ Runs Try.prog 47 #[vP X] #[] (.float .f64 g) #[] ∧ NN g := by
  obtain ⟨t, ht⟩ := fcmp_all .gtr (.inr (.inr rfl)) (fabs X.2) (fabs X.1)
  refine ⟨sel t (fabs X.2) (fabs X.1), fun h1 h2 => ?_⟩
  have ob : okAll Try.prog [absO X.1 (fabs X.1), absO X.2 (fabs X.2), cmpF .gtr (fabs X.2) (fabs X.1) t] := ⟨abs_runs h1, abs_runs h2, (fc _ rfl _ _).trans ht, trivial⟩
  exact ⟨quiet_of' (mag_came X.1 X.2 _ _ t) ob rfl rfl, quiet_of' (mag_cameR X.1 X.2 _ _ t) ob rfl rfl, sel_nn (abs_ix h2).1 (abs_ix h1).1⟩

def Ok (X : Pt) : Prop := NN X.1 ∧ NN X.2 ∧ ix X.1 ≤ ix X.2

/-- A table whose answers are right. -/
structure TabOK (a : Nat) (T : Tab) : Prop where
  A : ∀ X Y, Runs Try.prog 19 #[vP X, vP Y] #[] (vP (T.A (X, Y))) #[] ∧ Runs Try.prog 42 #[vP X, vP Y] #[] (vP (T.A (X, Y))) #[] ∧ NN (T.A (X, Y)).1 ∧ NN (T.A (X, Y)).2
  S : ∀ X Y, Runs Try.prog 20 #[vP X, vP Y] #[] (vP (T.S (X, Y))) #[] ∧ Runs Try.prog 43 #[vP X, vP Y] #[] (vP (T.S (X, Y))) #[] ∧ NN (T.S (X, Y)).1 ∧ NN (T.S (X, Y)).2
  M : ∀ X Y, Runs Try.prog 21 #[vP X, vP Y] #[] (vP (T.M (X, Y))) #[] ∧ Runs Try.prog 44 #[vP X, vP Y] #[] (vP (T.M (X, Y))) #[] ∧ NN (T.M (X, Y)).1 ∧ NN (T.M (X, Y)).2
  D : ∀ X Y, NN Y.1 → NN Y.2 → Runs Try.prog 22 #[vP X, vP Y] #[] (vP (T.D (X, Y))) #[] ∧ Runs Try.prog 45 #[vP X, vP Y] #[] (vP (T.D (X, Y))) #[] ∧ NN (T.D (X, Y)).1 ∧ NN (T.D (X, Y)).2
  J : ∀ X Y, Runs Try.prog 32 #[vP X, vP Y] #[] (vP (T.J (X, Y))) #[] ∧ Runs Try.prog 46 #[vP X, vP Y] #[] (vP (T.J (X, Y))) #[] ∧ (NN X.1 → NN X.2 → NN Y.1 → NN Y.2 → NN (T.J (X, Y)).1 ∧ NN (T.J (X, Y)).2)
  g : ∀ X, NN X.1 → NN X.2 → Runs Try.prog 33 #[vP X] #[] (.float .f64 (T.g X)) #[] ∧ Runs Try.prog 47 #[vP X] #[] (.float .f64 (T.g X)) #[] ∧ NN (T.g X)
  w : ∀ X Y, Runs Try.prog 35 #[vP X, vP Y] #[] (.bool (T.w (X, Y))) #[] ∧ Runs Try.prog 41 #[vP X, vP Y] #[] (.bool (T.w (X, Y))) #[]
  i : ∀ X, Runs Try.prog 18 #[.float .f64 a, vP X] #[] (.bool (T.i X)) #[] ∧ Runs Try.prog 40 #[.float .f64 a, vP X] #[] (.bool (T.i X)) #[]

theorem tab_ok (a : Nat) : ∃ T, TabOK a T := by
  have c2 : ∀ {R : Pt → Pt → Pt → Prop}, (∀ X Y, ∃ r, R X Y r) → ∃ f : Pt × Pt → Pt, ∀ X Y, R X Y (f (X, Y)) := fun {R} h => by
    obtain ⟨f, hf⟩ := Classical.axiomOfChoice (r := fun (Z : Pt × Pt) r => R Z.1 Z.2 r) (fun Z => h Z.1 Z.2)
    exact ⟨f, fun X Y => hf (X, Y)⟩
  obtain ⟨A, hA⟩ := c2 (fun X Y => (add_both X.1 X.2 Y.1 Y.2).pair)
  obtain ⟨S, hS⟩ := c2 (fun X Y => (sub_both X.1 X.2 Y.1 Y.2).pair)
  obtain ⟨M, hM⟩ := c2 (fun X Y => (mul_both X.1 X.2 Y.1 Y.2).pair)
  obtain ⟨D, hD⟩ := c2 (R := fun X Y r => NN Y.1 → NN Y.2 → Runs Try.prog 22 #[vP X, vP Y] #[] (vP r) #[] ∧ Runs Try.prog 45 #[vP X, vP Y] #[] (vP r) #[] ∧ NN r.1 ∧ NN r.2) (fun X Y => by
    by_cases h : NN Y.1 ∧ NN Y.2
    · obtain ⟨r, h1, h2, h3, h4, _⟩ := (div_both X.1 X.2 h.1 h.2).pair
      exact ⟨r, fun _ _ => ⟨h1, h2, h3, h4⟩⟩
    · exact ⟨(0, 0), fun h1 h2 => absurd ⟨h1, h2⟩ h⟩)
  obtain ⟨J, hJ⟩ := c2 join_both
  obtain ⟨g, hg⟩ := Classical.axiomOfChoice mag_both
  obtain ⟨w, hw⟩ := Classical.axiomOfChoice (fun Z : Pt × Pt => within_both Z.1 Z.2)
  obtain ⟨i, hi⟩ := Classical.axiomOfChoice (in_both a)
  exact ⟨⟨A, S, M, D, J, g, w, i⟩, fun X Y => ⟨(hA X Y).1, (hA X Y).2.1, (hA X Y).2.2.1, (hA X Y).2.2.2.1⟩, fun X Y => ⟨(hS X Y).1, (hS X Y).2.1, (hS X Y).2.2.1, (hS X Y).2.2.2.1⟩, fun X Y => ⟨(hM X Y).1, (hM X Y).2.1, (hM X Y).2.2.1, (hM X Y).2.2.2.1⟩, hD, hJ, hg, fun X Y => hw (X, Y), hi⟩

/-- Whether one is right is told so by both; one that is told right has ends that are numbers. -/
def Told' (X : Pt) (r : Bool) : Prop := fcmp .leq .f64 X.1 X.2 = some r ∧ (r = true → NN X.1 ∧ NN X.2)

theorem two_ok {f g : FuncId} {X Y r : Pt} (h1 : Runs Try.prog f #[vP X, vP Y] #[] (vP r) #[]) (h2 : Runs Try.prog g #[vP X, vP Y] #[] (vP r) #[]) (n1 : NN r.1) (n2 : NN r.2) : okAll Try.prog (twoQ f g X Y r) :=
  ⟨h1, h2, same_at (eql_self n1) (eql_self n2), trivial⟩

theorem cell_ok {a : Nat} {T : Tab} (hT : TabOK a T) {X Y : Pt} {rx ry : Bool} (hx : Told' X rx) (hy : Told' Y ry) : okAll Try.prog (cellQ X Y rx ry (T.w (X, Y)) (T.A (X, Y)) (T.S (X, Y)) (T.M (X, Y)) (T.D (X, Y)) (T.J (X, Y)) (T.g X)) := by
  unfold cellQ
  refine okAll_append ⟨(hT.w X Y).1, (hT.w X Y).2, neB_ok _, refRight_at hx.1, trivial⟩ ?_
  cases rx with
  | false => trivial
  | true =>
    obtain ⟨x1, x2⟩ := hx.2 rfl
    refine ⟨refRight_at hy.1, ?_⟩
    cases ry with
    | false => trivial
    | true =>
      obtain ⟨y1, y2⟩ := hy.2 rfl
      obtain ⟨a1, a2, a3, a4⟩ := hT.A X Y
      obtain ⟨s1, s2, s3, s4⟩ := hT.S X Y
      obtain ⟨m1, m2, m3, m4⟩ := hT.M X Y
      obtain ⟨d1, d2, d3, d4⟩ := hT.D X Y y1 y2
      obtain ⟨j1, j2, j3⟩ := hT.J X Y
      obtain ⟨j4, j5⟩ := j3 x1 x2 y1 y2
      obtain ⟨g1, g2, g3⟩ := hT.g X x1 x2
      exact okAll_append (okAll_append (okAll_append (okAll_append (okAll_append (two_ok a1 a2 a3 a4) (two_ok s1 s2 s3 s4)) (two_ok m1 m2 m3 m4)) (two_ok d1 d2 d3 d4)) (two_ok j1 j2 j4 j5)) ⟨g1, g2, (fc _ rfl _ _).trans (nn_self g3).1, trivial⟩

theorem cells_ok {a : Nat} {T : Tab} (hT : TabOK a T) {X : Pt} {rx : Bool} (hx : Told' X rx) : ∀ l : List (Pt × Bool), (∀ Y ∈ l, Told' Y.1 Y.2) → okAll Try.prog (cellsQ T X rx l)
  | [], _ => trivial
  | (Y, ry) :: l, h => okAll_append (cell_ok hT hx (h (Y, ry) (List.mem_cons_self ..))) (cells_ok hT hx l fun Z hZ => h Z (List.mem_cons_of_mem _ hZ))

theorem rows_ok {a : Nat} {T : Tab} (hT : TabOK a T) {all : List (Pt × Bool)} (ha : ∀ Y ∈ all, Told' Y.1 Y.2) : ∀ l : List (Pt × Bool), (∀ Y ∈ l, Told' Y.1 Y.2) → okAll Try.prog (rowsQ T a all l)
  | [], _ => trivial
  | (X, rx) :: l, h => by
    have hx := h (X, rx) (List.mem_cons_self ..)
    exact okAll_append (okAll_append ⟨right_at hx.1, refRight_at hx.1, neB_ok _, (hT.i X).1, (hT.i X).2, neB_ok _, trivial⟩ (cells_ok hT hx all ha)) (rows_ok hT ha l fun Z hZ => h Z (List.mem_cons_of_mem _ hZ))

theorem make_both (a b : Nat) : ∃ P : Pt, ∃ t, Runs Try.prog 31 #[.float .f64 a, .float .f64 b] #[] (vP P) #[] ∧ Runs Try.prog 37 #[.float .f64 a, .float .f64 b] #[] (vP P) #[] ∧
    Runs Try.prog 36 #[vP P, vP P] #[] (.bool true) #[] ∧ fcmp .leq .f64 a b = some t := by
  obtain ⟨t, ht⟩ := fcmp_all .leq (.inl rfl) a b
  have ob : okAll Try.prog [cmpF .leq a b t] := ⟨(fc _ rfl _ _).trans ht, trivial⟩
  cases t with
  | true =>
    have h1 : (askN (fun _ => 2) fltC 12 31 #[.float .f64 a, .float .f64 b] #[] [yes true]).map (fun r => (r.1, r.2.2)) = some (fl2 a b, [cmpF .leq a b true]) := by kernel_rfl
    have h2 : (askN (fun _ => 2) fltC 12 37 #[.float .f64 a, .float .f64 b] #[] [yes true]).map (fun r => (r.1, r.2.2)) = some (fl2 a b, [cmpF .leq a b true]) := by kernel_rfl
    have e1 : fcmp .eql .f64 a a = some true ∧ fcmp .eql .f64 b b = some true := by
      have l := ht
      rw [fcmp_mod] at l
      rw [fcmp_mod .eql a a, fcmp_mod .eql b b]
      have la : a % 18446744073709551616 < 18446744073709551616 := Nat.mod_lt _ (by decide)
      have lb : b % 18446744073709551616 < 18446744073709551616 := Nat.mod_lt _ (by decide)
      generalize a % 18446744073709551616 = x at *
      generalize b % 18446744073709551616 = y at *
      have nx : NN x := by
        by_cases h : NN x
        · exact h
        · obtain ⟨s, f, hr⟩ := nan_read la h
          have : FloatKind.f64.format.order x y = none := by
            show (Ieee.double.read x).order (Ieee.double.read y) = none
            rw [hr]; rfl
          simp only [fcmp, this] at l
          cases l
      have ny : NN y := by
        by_cases h : NN y
        · exact h
        · obtain ⟨s, f, hr⟩ := nan_read lb h
          have : FloatKind.f64.format.order x y = none := by
            show (Ieee.double.read x).order (Ieee.double.read y) = none
            rw [hr]; cases Ieee.double.read x <;> rfl
          simp only [fcmp, this] at l
          cases l
      exact ⟨eql_self nx, eql_self ny⟩
    exact ⟨(a, b), true, quiet_of' h1 ob rfl rfl, quiet_of' h2 ob rfl rfl, same_at e1.1 e1.2, ht⟩
  | false =>
    have h1 : (askN (fun _ => 2) fltC 12 31 #[.float .f64 a, .float .f64 b] #[] [yes false]).map (fun r => (r.1, r.2.2)) = some (fl2 ninf pinf, [cmpF .leq a b false]) := by kernel_rfl
    have h2 : (askN (fun _ => 2) fltC 12 37 #[.float .f64 a, .float .f64 b] #[] [yes false]).map (fun r => (r.1, r.2.2)) = some (fl2 ninf pinf, [cmpF .leq a b false]) := by kernel_rfl
    exact ⟨(ninf, pinf), false, quiet_of' h1 ob rfl rfl, quiet_of' h2 ob rfl rfl, same_at (eql_self ninf_nn.1) (eql_self pinf_nn.1), ht⟩

theorem ivAll_tells (a b : Nat) (m k w n j v : Int) : Tells 12 #[.float .f64 a, .float .f64 b, .int .i64 m, .int .i64 k, .int .i64 w, .int .i64 n, .int .i64 j, .int .i64 v] #[] (.bool true) := by
  obtain ⟨T, hT⟩ := tab_ok a
  obtain ⟨c, d, r1, bc, bd, hcd⟩ := make_runs m k w
  obtain ⟨e, f, r2, be, bf, hef⟩ := make_runs n j v
  obtain ⟨g, h, r3, n1, n2⟩ := rare_runs m n
  obtain ⟨r, hr, gr⟩ := leq_some n1 n2
  obtain ⟨P, t, m1, m2, m3, ht⟩ := make_both a b
  obtain ⟨y, y1, y2, y3⟩ := exp_both a
  obtain ⟨x, hx, bx⟩ := num_runs m k
  obtain ⟨z, z1, z2, z3⟩ := exp_both x
  have told : ∀ {p q : Nat}, NN p → NN q → ix p ≤ ix q → Told' (p, q) true := fun hp hq h => ⟨(leq_ix hp hq).trans (congrArg some (decide_eq_true h)), fun _ => ⟨hp, hq⟩⟩
  have hall : ∀ Y ∈ five (c, d) (e, f) (g, h) r, Told' Y.1 Y.2 := by
    intro Y hY
    unfold five at hY
    simp only [List.mem_cons, List.not_mem_nil, or_false] at hY
    rcases hY with rfl | rfl | rfl | rfl | rfl
    · exact told (bc.fi (by decide)).nn (bd.fi (by decide)).nn hcd
    · exact told (be.fi (by decide)).nn (bf.fi (by decide)).nn hef
    · exact ⟨hr, fun h => ⟨(gr h).1, (gr h).2.1⟩⟩
    · exact told nn_zero.1 nn_zero.1 (Int.le_refl _)
    · exact told ⟨by decide, by decide, by decide⟩ nn_zero.1 (by decide)
  refine tells_of (ivAll_came T a b m k w n j v (c, d) (e, f) (g, h) P x y z t r) (okAll_append ?_ (rows_ok hT hall _ hall))
  exact ⟨known_runs, r1, r2, r3, m1, m2, m3, y1, y2, (fc _ rfl _ _).trans (nn_self y3).1, hx, z1, hx, z2, (fc _ rfl _ _).trans (nn_self z3).1, right_at ht, (fc _ rfl _ _).trans ht, neB_ok t, trivial⟩

end Go.Proofs.Ythajhpilfbijdaa
