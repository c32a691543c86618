/- The law IvExp returns true, whatever the numbers. -/
import Derived.Test.YthajhpilfbijdaaIvExAll
import Derived.Test.YthajhpilfbijdaaIvMn
namespace Go.Proofs.Ythajhpilfbijdaa
open Go
set_option linter.unusedVariables false
set_option linter.unusedSimpArgs false
set_option maxRecDepth 100000

noncomputable def askXp (g : FuncId) : Nat := if [16, 17, 24, 25].contains g then 1 else if [1000015, 1000016, 1000023].contains g then 7 else 0
def tlA (b : Nat) : List Ans := if b = 0 then [yes true] else if b = 1 then [yes false, yes true] else [yes false, yes false, yes true]
noncomputable def tlO (b x ey ax : Nat) : List Obl := if b = 0 then [cmpF .lss x 0 true] else if b = 1 then [cmpF .lss x 0 false, cmpF .gtr x c100 true] else [cmpF .lss x 0 false, cmpF .gtr x c100 false, cmpF .geq ey (fop .mul .f64 (sS ax 30) c999) true]
def XpRun (b : Nat) : Prop := ∀ (m n wm k wn : Int) (fk fn ey ez em ax : Nat),
  (askN askXp fltC 12 4 #[.int .i64 m, .int .i64 n] #[] ([yes true, isI wm, isI k, vA (.float .f64 fk), vA (.float .f64 ey), isI wn, vA (.float .f64 fn), vA (.float .f64 ez), yes true, yes true, yes true, yes true, yes true, vA (.float .f64 em), yes true] ++
    List.replicate 30 (vA (.float .f64 ax)) ++ [vA (.float .f64 pinf), yes false, vA (.float .f64 pinf), yes false] ++ tlA b)).map (fun r => (r.1, r.2.2)) =
  some (.bool true, [qI 16 #[] (.bool true), qI 17 #[.int .i64 m, .int .i64 (Int.ofNat 4000)] (.int .i64 wm), arI .sub wm 2000 k, cvI k fk, qI 24 #[.float .f64 (fop .quo .f64 fk c16)] (.float .f64 ey),
      qI 17 #[.int .i64 n, .int .i64 (Int.ofNat 50)] (.int .i64 wn), cvI wn fn, qI 24 #[.float .f64 (fop .add .f64 (fop .quo .f64 fk c16) (fop .quo .f64 fn c64))] (.float .f64 ez),
      cmpF .geq ey (fop .add .f64 c1w (fop .quo .f64 fk c16)) true, cmpF .geq ez ey true, cmpF .gtr ey 0 true, cmpF .lss (fop .quo .f64 fk c16) c256 true, cmpF .gtr (fop .quo .f64 fk c16) cm256 true,
      qI 24 #[.float .f64 (fop .sub .f64 0 (fop .quo .f64 fk c16))] (.float .f64 em), cmpF .geq (fop .mul .f64 ey em) c1w true] ++
    List.replicate 30 (qI 25 #[.float .f64 (fop .quo .f64 fk c16)] (.float .f64 ax)) ++ [qI 24 #[.float .f64 4648488871632306176] (.float .f64 pinf), cmpF .neq pinf pinf false, qI 24 #[.float .f64 9221120237041090561] (.float .f64 pinf), cmpF .neq pinf pinf false] ++ tlO b (fop .quo .f64 fk c16) ey ax)
theorem xpRun_0 : XpRun 0 := fun _ _ _ _ _ _ _ _ _ _ _ => by kernel_rfl
theorem xpRun_1 : XpRun 1 := fun _ _ _ _ _ _ _ _ _ _ _ => by kernel_rfl
theorem xpRun_2 : XpRun 2 := fun _ _ _ _ _ _ _ _ _ _ _ => by kernel_rfl

theorem isT_eq {x : Option Bool} (h : isT x = true) : x = some true := by
  cases x with
  | none => cases h
  | some b => cases b with
    | false => cases h
    | true => rfl
theorem isFl_eq {x : Option Bool} (h : isFl x = true) : x = some false := by
  cases x with
  | none => cases h
  | some b => cases b with
    | false => rfl
    | true => cases h
/-- What was checked at a place. -/
structure OneE (x e : Nat) : Prop where
  a : fcmp .geq .f64 e (fop .add .f64 c1w x) = some true
  b : fcmp .gtr .f64 e 0 = some true
  c : fcmp .lss .f64 x c256 = some true
  d : fcmp .gtr .f64 x cm256 = some true
theorem oneE_eq {x e : Nat} (h : oneE x e = true) : OneE x e := by
  unfold oneE at h
  simp only [Bool.and_eq_true] at h
  exact ⟨isT_eq h.1.1.1, isT_eq h.1.1.2, isT_eq h.1.2, isT_eq h.2⟩
def plX (k : Nat) : Nat := fop .quo .f64 (F (Int.ofNat k)) c16
def mnX (k : Nat) : Nat := fop .quo .f64 (F (-(Int.ofNat k))) c16
structure ChkG (k x nx e g sx : Nat) : Prop where
  p : OneE x e
  n : OneE nx g
  sp : fop .sub .f64 0 x = nx
  sn : fop .sub .f64 0 nx = x
  pn : fcmp .geq .f64 (fop .mul .f64 e g) c1w = some true
  np : fcmp .geq .f64 (fop .mul .f64 g e) c1w = some true
  z : fcmp .lss .f64 x 0 = some false
  y : k = 0 ∨ fcmp .lss .f64 nx 0 = some true
  s : (k ≤ 1600 ∧ fcmp .gtr .f64 x c100 = some false ∧ fcmp .geq .f64 e (fop .mul .f64 sx c999) = some true) ∨ fcmp .gtr .f64 x c100 = some true
theorem chkG_eq {k x nx e g sx : Nat} (h : (oneE x e && oneE nx g && Nat.beq (fop .sub .f64 0 x) nx && Nat.beq (fop .sub .f64 0 nx) x && isT (fcmp .geq .f64 (fop .mul .f64 e g) c1w) && isT (fcmp .geq .f64 (fop .mul .f64 g e) c1w) &&
  isFl (fcmp .lss .f64 x 0) && (Nat.beq k 0 || isT (fcmp .lss .f64 nx 0)) && (if Nat.ble k 1600 then isFl (fcmp .gtr .f64 x c100) && isT (fcmp .geq .f64 e (fop .mul .f64 sx c999)) else isT (fcmp .gtr .f64 x c100))) = true) : ChkG k x nx e g sx := by
  simp only [Bool.and_eq_true, Bool.or_eq_true] at h
  obtain ⟨⟨⟨⟨⟨⟨⟨⟨h1, h2⟩, h3⟩, h4⟩, h5⟩, h6⟩, h7⟩, h8⟩, h9⟩ := h
  refine ⟨oneE_eq h1, oneE_eq h2, Nat.eq_of_beq_eq_true h3, Nat.eq_of_beq_eq_true h4, isT_eq h5, isT_eq h6, isFl_eq h7, h8.imp Nat.eq_of_beq_eq_true isT_eq, ?_⟩
  split at h9
  · rename_i hk
    simp only [Bool.and_eq_true] at h9
    exact .inl ⟨Nat.le_of_ble_eq_true hk, isFl_eq h9.1, isT_eq h9.2⟩
  · exact .inr (isT_eq h9)
abbrev ChkE (k : Nat) : Prop := ChkG k (plX k) (mnX k) (ezC (plX k)) (ezC (mnX k)) (sS (fabs (plX k)) 30)
theorem chkE_eq {k : Nat} (h : chkE k = true) : ChkE k := by
  unfold chkE at h
  have e1 : plX k = fop .quo .f64 (F (Int.ofNat k)) c16 := rfl
  have e2 : mnX k = fop .quo .f64 (F (-(Int.ofNat k))) c16 := rfl
  rw [← e1, ← e2] at h
  unfold ChkE
  generalize plX k = x at h ⊢
  generalize mnX k = nx at h ⊢
  dsimp only at h
  exact chkG_eq h

theorem quoX {e : Nat} {N : Int} {x : Nat} (h : Dy e N x) (k : Nat) {c : Nat} (hc : Fi c) (hk : kv c = pw k * un) (hN : N.natAbs < 9007199254740992) (he : e + k ≤ 1000) : Dy (e + k) N (fop .quo .f64 x c) := by
  have hp : (0 : Int) < kv c := by rw [hk]; exact Int.mul_pos (pwi_pos k) (by have := un_pos; omega)
  have hq : (kv c).natAbs = pw k * un := by rw [hk, ← Int.natCast_mul, Int.natAbs_natCast]
  have hr := quo_rd h.fi hc (by omega)
  rw [if_neg (by omega), hq] at hr
  refine Dy.of hN he (Nat.mul_pos (pw_pos k) un_pos) hr ?_
  have e1 := h.eq
  rw [pw_addI, Int.natCast_mul]
  generalize (pw e : Int) = p at *
  generalize (pw k : Int) = q at *
  generalize (un : Int) = u at *
  grind
theorem fi_16 : Fi c16 ∧ kv c16 = pw 4 * un := ⟨⟨by decide +kernel, by decide +kernel, by decide +kernel⟩, by decide +kernel⟩
theorem fi_64 : Fi c64 ∧ kv c64 = pw 6 * un := ⟨⟨by decide +kernel, by decide +kernel, by decide +kernel⟩, by decide +kernel⟩
theorem dyK {k : Int} (h1 : -2000 ≤ k) (h2 : k ≤ 2000) : Dy 4 k (fop .quo .f64 (F k) c16) := (quoX (Dy.F (n := k) (by omega)) 4 fi_16.1 fi_16.2 (by omega) (by omega)).cast rfl rfl
theorem dyJ {j : Int} (h1 : -9000 ≤ j) (h2 : j ≤ 9000) : Dy 6 j (fop .quo .f64 (F j) c64) := (quoX (Dy.F (n := j) (by omega)) 6 fi_64.1 fi_64.2 (by omega) (by omega)).cast rfl rfl
theorem p46 : ((pw 4 : Nat) : Int) = 16 ∧ ((pw 6 : Nat) : Int) = 64 := ⟨rfl, rfl⟩
theorem unI : (0 : Int) ≤ (un : Int) := Int.natCast_nonneg _
/-- The places are within. -/
theorem placeX {k : Int} (h1 : -2000 ≤ k) (h2 : k ≤ 2000) : NN (fop .quo .f64 (F k) c16) ∧ ix xLo ≤ ix (fop .quo .f64 (F k) c16) ∧ ix (fop .quo .f64 (F k) c16) ≤ ix xHi := by
  have d := dyK h1 h2
  have l := dyJ (j := -8000) (by decide) (by decide)
  have u := dyJ (j := 8045) (by decide) (by decide)
  refine ⟨d.fi.nn, rk_le_iff.1 ?_, rk_le_iff.1 ?_⟩
  · have a := l.eq; have b := d.eq
    have := Int.mul_le_mul_of_nonneg_right (show -8000 ≤ 4 * k by omega) unI
    rw [p46.1] at b
    rw [p46.2] at a
    show kv xLo ≤ kv _
    have e : xLo = fop .quo .f64 (F (-8000)) c64 := rfl
    rw [e]
    have f : 4 * k * (un : Int) = 4 * (k * un) := Int.mul_assoc _ _ _
    rw [f] at this
    omega
  · have a := u.eq; have b := d.eq
    have := Int.mul_le_mul_of_nonneg_right (show 4 * k ≤ 8045 by omega) unI
    rw [p46.1] at b
    rw [p46.2] at a
    show kv _ ≤ kv xHi
    have e : xHi = fop .quo .f64 (F 8045) c64 := rfl
    rw [e]
    have f : 4 * k * (un : Int) = 4 * (k * un) := Int.mul_assoc _ _ _
    rw [f] at this
    omega
theorem placeZ {k j : Int} (h1 : -2000 ≤ k) (h2 : k ≤ 1999) (j1 : 0 ≤ j) (j2 : j < 50) : NN (fop .add .f64 (fop .quo .f64 (F k) c16) (fop .quo .f64 (F j) c64)) ∧ ix (fop .quo .f64 (F k) c16) ≤ ix (fop .add .f64 (fop .quo .f64 (F k) c16) (fop .quo .f64 (F j) c64)) ∧
    ix (fop .add .f64 (fop .quo .f64 (F k) c16) (fop .quo .f64 (F j) c64)) ≤ ix xHi := by
  have d := dyK h1 (show k ≤ 2000 by omega)
  have g := dyJ (j := j) (by omega) (by omega)
  have u := dyJ (j := 8045) (by decide) (by decide)
  have r := add_rd d.fi g.fi
  have a := d.eq
  have b := g.eq
  have c := u.eq
  rw [p46.1] at a
  rw [p46.2] at b c
  have xf := d.fi.2
  have hf : Fi xHi := u.fi
  have e : xHi = fop .quo .f64 (F 8045) c64 := rfl
  refine ⟨r.nn, r.2.ge (by decide) (Int.le_of_lt xf.1) (Int.le_of_lt xf.2) ?_, r.2.le (by decide) (Int.le_of_lt hf.2.1) (Int.le_of_lt hf.2.2) ?_⟩
  · show kv _ * 1 ≤ _
    have := Int.mul_le_mul_of_nonneg_right j1 unI
    omega
  · show _ ≤ kv xHi * 1
    rw [e]
    have := Int.mul_le_mul_of_nonneg_right (show 4 * k + j ≤ 8045 by omega) unI
    rw [Int.add_mul, Int.mul_assoc] at this
    omega
theorem exp_inf {x : Nat} (h : fcmp .neq .f64 x x = some false) (h2 : fcmp .geq .f64 x 4647714815446351872 = some true) : Runs Try.prog 24 #[.float .f64 x] #[] (.float .f64 pinf) #[] := by
  have h1 : (askN askE fltC 12 24 #[.float .f64 x] #[] [yes false, yes true]).map (fun r => (r.1, r.2.2)) = some (.float .f64 pinf, [cmpO .neq x x false, cmpO .geq x 4647714815446351872 true]) := by kernel_rfl
  exact quiet_of h1 ⟨(fc _ rfl _ _).trans h, (fc _ rfl _ _).trans h2, trivial⟩ rfl rfl
theorem exp_nan {x : Nat} (h : fcmp .neq .f64 x x = some true) : Runs Try.prog 24 #[.float .f64 x] #[] (.float .f64 pinf) #[] := by
  have h1 : (askN askE fltC 12 24 #[.float .f64 x] #[] [yes true]).map (fun r => (r.1, r.2.2)) = some (.float .f64 pinf, [cmpO .neq x x true]) := by kernel_rfl
  exact quiet_of h1 ⟨(fc _ rfl _ _).trans h, trivial⟩ rfl rfl
theorem rep_ok {P : Program} {o : Obl} (h : o.ok P) : ∀ n, okAll P (List.replicate n o)
  | 0 => trivial
  | n + 1 => ⟨h, rep_ok h n⟩

theorem subI' (a b : Int) : (arI .sub a b (IntKind.i64.wrap (a - b))).ok Try.prog := by
  show pureV Try.prog (binOp .sub 3 (.int .i64 a) (.int .i64 b)) = some (.int .i64 (IntKind.i64.wrap (a - b)))
  kernel_rfl
theorem cvI_ok' (c : Int) : (cvI c (F c)).ok Try.prog := by
  show convV Try.prog 3 24 (.int .i64 c) = some (.float .f64 (floatOfInt .f64 c))
  kernel_rfl

theorem ivExp_tells (m n : Int) : Tells 4 #[.int .i64 m, .int .i64 n] #[] (.bool true) := by
  have w1 := Int.emod_nonneg m (b := 4000) (by decide)
  have w2 := Int.emod_lt_of_pos m (b := 4000) (by decide)
  have v1 := Int.emod_nonneg n (b := 50) (by decide)
  have v2 := Int.emod_lt_of_pos n (b := 50) (by decide)
  have rm := within2 m 3999 (by decide)
  have rn := within2 n 49 (by decide)
  have hs := subI' (m % 4000) 2000
  rw [show IntKind.i64.wrap (m % 4000 - 2000) = m % 4000 - 2000 from wrap_id (by omega) (by omega)] at hs
  have hk1 : -2000 ≤ m % 4000 - 2000 := by omega
  have hk2 : m % 4000 - 2000 ≤ 1999 := by omega
  generalize hk : m % 4000 - 2000 = k at *
  generalize n % 50 = j at *
  have px := placeX hk1 (show k ≤ 2000 by omega)
  have pz := placeZ hk1 hk2 v1 v2
  have ex := exp_runs px.1 px.2.1 px.2.2
  have ez := exp_runs pz.1 (Int.le_trans px.2.1 pz.2.1) pz.2.2
  have hmono := ezC_mono px.1 pz.1 px.2.1 pz.2.1 pz.2.2
  have geq : (cmpF .geq (ezC (fop .add .f64 (fop .quo .f64 (F k) c16) (fop .quo .f64 (F j) c64))) (ezC (fop .quo .f64 (F k) c16)) true).ok Try.prog :=
    (fc _ rfl _ _).trans ((geq_ix ez.2.1.nn ex.2.1.nn).trans (congrArg some (decide_eq_true hmono)))
  have i600 := exp_inf (x := 4648488871632306176) (by decide +kernel) (by decide +kernel)
  have inan := exp_nan (x := 9221120237041090561) (by decide +kernel)
  have pp : (cmpF .neq pinf pinf false).ok Try.prog := (fc _ rfl _ _).trans (by decide +kernel)
  have fab := abs_runs px.1
  -- the other sign
  have pm := placeX (k := -k) (by omega) (by omega)
  have em := exp_runs pm.1 pm.2.1 pm.2.2
  have key : ∀ (nx : Nat), nx = fop .quo .f64 (F (-k)) c16 → fop .sub .f64 0 (fop .quo .f64 (F k) c16) = nx → OneE (fop .quo .f64 (F k) c16) (ezC (fop .quo .f64 (F k) c16)) → fcmp .geq .f64 (fop .mul .f64 (ezC (fop .quo .f64 (F k) c16)) (ezC nx)) c1w = some true →
      (fcmp .lss .f64 (fop .quo .f64 (F k) c16) 0 = some true ∨ (fcmp .lss .f64 (fop .quo .f64 (F k) c16) 0 = some false ∧ (fcmp .gtr .f64 (fop .quo .f64 (F k) c16) c100 = some true ∨ (fcmp .gtr .f64 (fop .quo .f64 (F k) c16) c100 = some false ∧ fcmp .geq .f64 (ezC (fop .quo .f64 (F k) c16)) (fop .mul .f64 (sS (fabs (fop .quo .f64 (F k) c16)) 30) c999) = some true)))) →
      Tells 4 #[.int .i64 m, .int .i64 n] #[] (.bool true) := by
    intro nx hnx hsub one prod tail
    have e2 : Runs Try.prog 24 #[.float .f64 (fop .sub .f64 0 (fop .quo .f64 (F k) c16))] #[] (.float .f64 (ezC nx)) #[] := by rw [hsub, hnx]; exact em.1
    have base : ∀ b, okAll Try.prog (tlO b (fop .quo .f64 (F k) c16) (ezC (fop .quo .f64 (F k) c16)) (fabs (fop .quo .f64 (F k) c16))) → XpRun b → Tells 4 #[.int .i64 m, .int .i64 n] #[] (.bool true) := by
      intro b hb hrun
      refine tells_of (hrun m n (m % 4000) k j (F k) (F j) (ezC (fop .quo .f64 (F k) c16)) (ezC (fop .add .f64 (fop .quo .f64 (F k) c16) (fop .quo .f64 (F j) c64))) (ezC nx) (fabs (fop .quo .f64 (F k) c16))) ?_
      refine okApp' (okApp' (okApp' ⟨known_runs, rm, hs, cvI_ok' k, ex.1, rn, cvI_ok' j, ez.1, (fc _ rfl _ _).trans one.a, geq, (fc _ rfl _ _).trans one.b, (fc _ rfl _ _).trans one.c, (fc _ rfl _ _).trans one.d, e2, (fc _ rfl _ _).trans prod, trivial⟩ (rep_ok (o := qI 25 #[.float .f64 (fop .quo .f64 (F k) c16)] (.float .f64 (fabs (fop .quo .f64 (F k) c16)))) fab 30)) ⟨i600, pp, inan, pp, trivial⟩) hb
    rcases tail with t | ⟨t1, t | ⟨t2, t3⟩⟩
    · exact base 0 ⟨(fc _ rfl _ _).trans t, trivial⟩ xpRun_0
    · exact base 1 ⟨(fc _ rfl _ _).trans t1, (fc _ rfl _ _).trans t, trivial⟩ xpRun_1
    · exact base 2 ⟨(fc _ rfl _ _).trans t1, (fc _ rfl _ _).trans t2, (fc _ rfl _ _).trans t3, trivial⟩ xpRun_2
  by_cases h0 : 0 ≤ k
  · have hc := chkE_eq (chkAll k.toNat (by omega))
    have e1 : plX k.toNat = fop .quo .f64 (F k) c16 := by unfold plX; rw [show Int.ofNat k.toNat = k from Int.toNat_of_nonneg h0]
    have e2 : mnX k.toNat = fop .quo .f64 (F (-k)) c16 := by unfold mnX; rw [show Int.ofNat k.toNat = k from Int.toNat_of_nonneg h0]
    have c1 := hc.p
    have c2 := hc.sp
    have c3 := hc.pn
    have c4 := hc.z
    have c5 := hc.s
    rw [e1] at c1 c2 c3 c4 c5
    rw [e2] at c2 c3
    refine key _ rfl c2 c1 c3 (.inr ⟨c4, ?_⟩)
    rcases c5 with ⟨_, a, b⟩ | a
    · exact .inr ⟨a, b⟩
    · exact .inl a
  · have hc := chkE_eq (chkAll (-k).toNat (by omega))
    have e0 : Int.ofNat (-k).toNat = -k := Int.toNat_of_nonneg (by omega)
    have e1 : plX (-k).toNat = fop .quo .f64 (F (-k)) c16 := by unfold plX; rw [e0]
    have e2 : mnX (-k).toNat = fop .quo .f64 (F k) c16 := by unfold mnX; rw [e0, Int.neg_neg]
    have c1 := hc.n
    have c2 := hc.sn
    have c3 := hc.np
    have c4 := hc.y.resolve_left (by omega)
    rw [e2] at c1 c2 c3 c4
    rw [e1] at c2 c3
    exact key _ rfl c2 c1 c3 (.inl c4)

end Go.Proofs.Ythajhpilfbijdaa
