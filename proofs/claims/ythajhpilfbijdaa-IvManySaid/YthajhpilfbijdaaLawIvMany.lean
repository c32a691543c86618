/- The law IvMany returns true, whatever the numbers. -/
import Derived.Test.YthajhpilfbijdaaIvMn
import Derived.Test.YthajhpilfbijdaaHget
import Derived.Test.YthajhpilfbijdaaNear
namespace Go.Proofs.Ythajhpilfbijdaa
open Go
set_option linter.unusedVariables false
set_option linter.unusedSimpArgs false
set_option maxRecDepth 100000

def subE (E G : Rat × Rat) : Rat × Rat := (E.1 - G.2, E.2 - G.1)
theorem NE.sub {n m M K : Nat} {X Y : P2} {E G : Rat × Rat} (h : NE n M X E) (h' : NE m K Y G) (hn : n ≤ 1000000000) (hm : m ≤ 1000000000) (hM : M ≤ 500000) (hK : K ≤ 500000) : NE (n + m + 1) (M + K) (subP X Y) (subE E G) := by
  obtain ⟨a0, a1⟩ := n_eps (show n ≤ 1073741824 by omega)
  obtain ⟨b0, b1⟩ := n_eps (show m ≤ 1073741824 by omega)
  have e0 := eps_pos
  have eb : eps ≤ 1 := by unfold eps; decide +kernel
  have M1 := nat_le hM
  have K1 := nat_le hK
  have c1 : ((500000 : Nat) : Rat) = 500000 := rfl
  rw [c1] at M1 K1
  obtain ⟨g1, g2, g3, g4, g5, g6, g7⟩ := And.intro h.ab (And.intro h.l1 (And.intro h.l2 (And.intro h.h1 (And.intro h.h2 (And.intro h.ma h.mb)))))
  obtain ⟨k1, k2, k3, k4, k5, k6, k7⟩ := And.intro h'.ab (And.intro h'.l1 (And.intro h'.l2 (And.intro h'.h1 (And.intro h'.h2 (And.intro h'.ma h'.mb)))))
  have s1 := (step_near (z := vR X.1 - vR Y.2) (by decide) (sub_rd (fi_of_bd h.bl) (fi_of_bd h'.bh)) (by
    rw [Rat.intCast_sub]
    show kR X.1 - kR Y.2 = _ * 1
    rw [vR_eq, vR_eq]; grind) (by grind) (by grind)).1
  have s2 := (step_near (z := vR X.2 - vR Y.1) (by decide) (sub_rd (fi_of_bd h.bh) (fi_of_bd h'.bl)) (by
    rw [Rat.intCast_sub]
    show kR X.2 - kR Y.1 = _ * 1
    rw [vR_eq, vR_eq]; grind) (by grind) (by grind)).2
  have n1 := (sub_rd (fi_of_bd h.bl) (fi_of_bd h'.bh)).nn
  have n2 := (sub_rd (fi_of_bd h.bh) (fi_of_bd h'.bl)).nn
  have hle : ix (dn (fop .sub .f64 X.1 Y.2)) ≤ ix (up (fop .sub .f64 X.2 Y.1)) := by
    have : vR (dn (fop .sub .f64 X.1 Y.2)) ≤ vR (up (fop .sub .f64 X.2 Y.1)) := by grind
    have h3 := Rat.mul_le_mul_of_nonneg_right this (Rat.le_of_lt uR_pos')
    rw [← vR_eq, ← vR_eq] at h3
    have h4 : kv (dn (fop .sub .f64 X.1 Y.2)) ≤ kv (up (fop .sub .f64 X.2 Y.1)) := by exact_mod_cast h3
    exact rk_le_iff.1 h4
  have eq : subP X Y = (dn (fop .sub .f64 X.1 Y.2), up (fop .sub .f64 X.2 Y.1)) := outP_eq n1 n2 hle
  have nc : ((n + m + 1 : Nat) : Rat) = (n : Rat) + (m : Rat) + 1 := by rw [Rat.natCast_add, Rat.natCast_add]; rfl
  have mc : ((M + K : Nat) : Rat) = (M : Rat) + (K : Rat) := Rat.natCast_add _ _
  rw [eq]
  refine ⟨bd_small s1.1 (by grind) (by grind), bd_small s2.1 (by grind) (by grind), ?_, ?_, ?_, ?_, ?_, ?_, ?_⟩ <;> simp only [subE] <;> (try rw [nc]) <;> (try rw [mc]) <;> grind

/-- A small whole number as a float. -/
theorem kF {k : Int} (h : k.natAbs < 9007199254740992) : kR (F k) = (k : Rat) * uR := by
  show ((kv (F k) : Int) : Rat) = _
  rw [(F_fi h).2, Rat.intCast_mul]
  rfl
theorem vF {k : Int} (h : k.natAbs < 9007199254740992) : vR (F k) = (k : Rat) := by
  have h1 := kF h
  rw [vR_eq] at h1
  have h2 : (vR (F k) - (k : Rat)) * uR = 0 := by grind
  rcases Rat.mul_eq_zero.1 h2 with h3 | h3
  · grind
  · exact absurd h3 uR_ne
theorem bdF {k : Int} (h1 : -1000 ≤ k) (h2 : k ≤ 1000) : Bd 1033 (F k) := by
  have a := F_le h1
  have b := F_le h2
  have e1 : ix (F (-1000)) = -4652007308841189376 := by decide +kernel
  have e2 : ix (F 1000) = 4652007308841189376 := by decide +kernel
  exact ⟨(F_fi (n := k) (by omega)).1.1, by omega⟩
theorem neF {k : Int} (h1 : -1000 ≤ k) (h2 : k ≤ 1000) : NE 0 1000 (F k, F k) ((k : Rat), (k : Rat)) := by
  have hv := vF (k := k) (by omega)
  have a : (-1000 : Rat) ≤ (k : Rat) := by have := icast.2 h1; exact this
  have b : (k : Rat) ≤ 1000 := by have := icast.2 h2; exact this
  have z : ((0 : Nat) : Rat) = 0 := rfl
  have t : ((1000 : Nat) : Rat) = 1000 := rfl
  have hb := (bdF h1 h2).mono (m := 1060) (by decide)
  refine ⟨hb, hb, Rat.le_refl, ?_, ?_, ?_, ?_, ?_, ?_⟩ <;> (try rw [z]) <;> (try rw [t]) <;> (try rw [hv]) <;> grind
theorem mrF {k : Int} (h1 : -1000 ≤ k) (h2 : k ≤ 1000) : MR 1033 (F k, F k) (k : Rat) := MR.point (bdF h1 h2) (kF (by omega))

/-- What holds when so many numbers were taken. -/
structure InvMn (i : Nat) (sum pr : Int) (s p : P2) : Prop where
  ne : NE i (1000 * i) s ((sum : Rat), (sum : Rat))
  sb : sum.natAbs ≤ 1000 * i
  mr : MR (1024 + 11 * i) p (pr : Rat)
  pb : pr.natAbs ≤ 1125899906842624
theorem ratI (a b : Int) : ((a + b : Int) : Rat) = (a : Rat) + (b : Rat) ∧ ((a - b : Int) : Rat) = (a : Rat) - (b : Rat) := ⟨Rat.intCast_add _ _, Rat.intCast_sub _ _⟩
theorem InvMn.next {i : Nat} {sum pr : Int} {s p : P2} (h : InvMn i sum pr s p) (hi : i < 40) {k : Int} (h1 : -1000 ≤ k) (h2 : k ≤ 1000) (ev sm : Bool) (hsm : sm = true → pr.natAbs < 1099511627776) :
    InvMn (i + 1) (if ev then sum + k else sum - k) (if sm then pr * k else pr) (opMn ev s (F k)) (if sm then mulP p (F k, F k) else p) := by
  refine ⟨?_, ?_, ?_, ?_⟩
  · cases ev with
    | true =>
      have := (h.ne.add (neF h1 h2) (by omega) (by omega) (by omega) (by omega))
      simp only [addE] at this
      simp only [if_true]
      rw [(ratI _ _).1]
      exact this.mono (by omega) (by omega)
    | false =>
      have := (h.ne.sub (neF h1 h2) (by omega) (by omega) (by omega) (by omega))
      simp only [subE] at this
      simp only [Bool.false_eq_true, if_false]
      rw [(ratI _ _).2]
      exact this.mono (by omega) (by omega)
  · have := h.sb
    cases ev with
    | true => simp only [if_true]; omega
    | false => simp only [Bool.false_eq_true, if_false]; omega
  · cases sm with
    | true =>
      simp only [if_true]
      have := h.mr.mul (mrF h1 h2) (r := 1024 + 11 * i + 10) (by omega) (by omega) (by omega) (by omega) (by omega) (by omega) (by omega)
      rw [Rat.intCast_mul]
      exact this.mono (by omega)
    | false => simp only [Bool.false_eq_true, if_false]; exact h.mr.mono (by omega)
  · cases sm with
    | true =>
      simp only [if_true]
      have a := hsm rfl
      rw [Int.natAbs_mul]
      have := Nat.mul_le_mul (Nat.le_of_lt a) (show k.natAbs ≤ 1000 by omega)
      omega
    | false => simp only [Bool.false_eq_true, if_false]; exact h.pb

theorem lssI (a b : Int) (c : Bool) (h : decide (a < b) = c) : (cpI .lss a b c).ok Try.prog := by
  subst h
  show cmpV Try.prog .lss 3 (.int .i64 a) (.int .i64 b) = some (decide (a < b))
  kernel_rfl
theorem gtrI (a b : Int) (c : Bool) (h : decide (b < a) = c) : (cpI .gtr a b c).ok Try.prog := by
  subst h
  show cmpV Try.prog .gtr 3 (.int .i64 a) (.int .i64 b) = some (decide (b < a))
  kernel_rfl
theorem eqlI (a b : Int) (c : Bool) (h : decide (a = b) = c) : (cpI .eql a b c).ok Try.prog := by
  subst h
  show cmpV Try.prog .eql 3 (.int .i64 a) (.int .i64 b) = some (decide (a = b))
  kernel_rfl
theorem addI (a b : Int) : (arI .add a b (IntKind.i64.wrap (a + b))).ok Try.prog := by
  show pureV Try.prog (binOp .add 3 (.int .i64 a) (.int .i64 b)) = some (.int .i64 (IntKind.i64.wrap (a + b)))
  kernel_rfl
theorem subI (a b : Int) : (arI .sub a b (IntKind.i64.wrap (a - b))).ok Try.prog := by
  show pureV Try.prog (binOp .sub 3 (.int .i64 a) (.int .i64 b)) = some (.int .i64 (IntKind.i64.wrap (a - b)))
  kernel_rfl
theorem mulI (a b : Int) : (arI .mul a b (IntKind.i64.wrap (a * b))).ok Try.prog := by
  show pureV Try.prog (binOp .mul 3 (.int .i64 a) (.int .i64 b)) = some (.int .i64 (IntKind.i64.wrap (a * b)))
  kernel_rfl
theorem rem2I (a : Int) : (arI .rem a 2 (a.tmod 2)).ok Try.prog := by
  show pureV Try.prog (binOp .rem 3 (.int .i64 a) (.int .i64 2)) = some (.int .i64 (a.tmod 2))
  kernel_rfl
theorem cvI_ok (c : Int) : (cvI c (F c)).ok Try.prog := by
  show convV Try.prog 3 24 (.int .i64 c) = some (.float .f64 (floatOfInt .f64 c))
  kernel_rfl
theorem wrI {x : Int} (h1 : -9223372036854775808 ≤ x) (h2 : x < 9223372036854775808) : IntKind.i64.wrap x = x := wrap_id h1 h2

theorem entMn {o : Option ABlk} (ho : PlO o) {zs : List Int} {ar : Option Addr} {nr cr : Nat} (hh : Handed #[o] zs (.slice ar nr cr)) (i sum pr : Int) (s p : P2) :
    EntOK 1 [0, 3, 4, 5, 6, 7] [0, 1, 2] (80, [.slice ar nr cr, pt 1, pt 2, .int .i64 sum, .int .i64 pr, .int .i64 i], [some o, some (ivB s), some (ivB p)]) (tmA 80 (LMn (.slice ar nr cr) i sum pr)) (HMn o s p).toArray := by
  have hiv : ∀ X : P2, ∀ (i : Nat) (v : Value), (#[.float .f64 X.1, .float .f64 X.2] : Array Value)[i]? = some v → closN 4 v = true := by
    intro X i v h
    match i, h with
    | 0, h => simp at h; subst h; rfl
    | 1, h => simp at h; subst h; rfl
    | i + 2, h => simp at h
  refine entOK rfl (by decide) (by decide) ?_ ?_
  · refine .cons (hh.low fun b hb => ?_) (.cons (.ptr 1 1 0 none (show (1 : Nat) < 3 by decide) rfl) (.cons (.ptr 2 2 0 none (show (2 : Nat) < 3 by decide) rfl) (.cons (.clos rfl) (.cons (.clos rfl) (.cons (.clos rfl) .nil)))))
    have : b = 0 := by simp at hb; omega
    subst this
    exact ⟨show (0 : Nat) < 3 by decide, rfl⟩
  · exact relBs_pl ho (relBs_own (hiv s) (relBs_own (hiv p) .nil))

theorem rdMn {o : Option ABlk} (ho : PlO o) {zs : List Int} {ar : Option Addr} {cr : Nat} (hh : Handed #[o] zs (.slice ar zs.length cr)) {i : Nat} (hi : i < zs.length) (hi4 : i < 40) {sum pr : Int} {s p : P2} (h : InvMn i sum pr s p) :
    ∃ sum' pr' s' p', InvMn (i + 1) sum' pr' s' p' ∧ CodeB Try.prog 1 bodyMn (tmA 80 (LMn (.slice ar zs.length cr) (i : Nat) sum pr)) (HMn o s p).toArray (.normal, tmA 80 (LMn (.slice ar zs.length cr) ((i + 1 : Nat) : Int) sum' pr'), (HMn o s' p').toArray) := by
  obtain ⟨px, hp1, hp2⟩ := hh.getG hi
  have w1 := Int.emod_nonneg (zs.getD i 0) (b := 2001) (by decide)
  have w2 := Int.emod_lt_of_pos (zs.getD i 0) (b := 2001) (by decide)
  have wr := within2 (zs.getD i 0) 2000 (by decide)
  have hs : IntKind.i64.wrap (zs.getD i 0 % 2001 - 1000) = zs.getD i 0 % 2001 - 1000 := wrI (by omega) (by omega)
  have sub := subI (zs.getD i 0 % 2001) 1000
  rw [hs] at sub
  generalize hz : zs.getD i 0 = z at *
  generalize hk : z % 2001 - 1000 = k at *
  have k1 : -1000 ≤ k := by omega
  have k2 : k ≤ 1000 := by omega
  have hmem : readVar Try.prog (HMn o s p).toArray 3 px = some (.int .i64 z) := by
    have := hp2 #[ivB s, ivB p]
    exact this
  have hFk := (F_fi (n := k) (by omega)).1
  have mk : Runs Try.prog 31 #[.float .f64 (F k), .float .f64 (F k)] #[] (vI (F k, F k)) #[] := imake_at ((leq_ix hFk.nn hFk.nn).trans (congrArg some (decide_eq_true (Int.le_refl _))))
  have rem := rem2I (i : Int)
  have hsum := h.sb
  have hpr := h.pb
  have add1 := addI (i : Int) 1
  rw [wrI (by omega) (by omega)] at add1
  have hm : IntKind.i64.wrap (pr * k) = pr * k ∨ ¬ pr.natAbs < 1099511627776 := by
    by_cases c : pr.natAbs < 1099511627776
    · left
      have : (pr * k).natAbs ≤ 1099511627776 * 1000 := by rw [Int.natAbs_mul]; exact Nat.mul_le_mul (Nat.le_of_lt c) (by omega)
      exact wrI (by omega) (by omega)
    · exact .inr c
  obtain ⟨sm, hsm⟩ : ∃ sm : Nat, (sm = 0 ∧ pr < 1099511627776 ∧ -1099511627776 < pr) ∨ (sm = 1 ∧ ¬ pr < 1099511627776) ∨ (sm = 2 ∧ pr < 1099511627776 ∧ ¬ -1099511627776 < pr) := by
    by_cases c1 : pr < 1099511627776
    · by_cases c2 : -1099511627776 < pr
      · exact ⟨0, .inl ⟨rfl, c1, c2⟩⟩
      · exact ⟨2, .inr (.inr ⟨rfl, c1, c2⟩)⟩
    · exact ⟨1, .inr (.inl ⟨rfl, c1⟩)⟩
  obtain ⟨ev, hev⟩ : ∃ ev : Bool, ev = decide ((i : Int).tmod 2 = 0) := ⟨_, rfl⟩
  have hround : RdMn ev sm := by
    rcases hsm with ⟨rfl, _⟩ | ⟨rfl, _⟩ | ⟨rfl, _⟩ <;> cases ev
    · exact rdMn_f0
    · exact rdMn_t0
    · exact rdMn_f1
    · exact rdMn_t1
    · exact rdMn_f2
    · exact rdMn_t2
  have hinv := h.next hi4 k1 k2 ev (decide (sm = 0)) (fun e => by
    have : sm = 0 := of_decide_eq_true e
    rcases hsm with ⟨_, a, b⟩ | ⟨a, _⟩ | ⟨a, _⟩ <;> omega)
  have r := hround o ar zs.length cr i sum pr s p ⟨px, z, z % 2001, k, F k, (i : Int).tmod 2, if ev then sum + k else sum - k, pr * k, (i : Int) + 1⟩
  refine ⟨_, _, _, _, hinv, ?_⟩
  have hh' := entMn ho hh ((i : Int) + 1) (if ev then sum + k else sum - k) (if decide (sm = 0) = true then pr * k else pr) (opMn ev s (F k)) (if decide (sm = 0) = true then mulP p (F k, F k) else p)
  simp only [decide_eq_true_eq] at hh' ⊢
  refine rndB_to r okMn ?_ hh'
  unfold soMn
  refine okApp' (okApp' ⟨lssI _ _ _ (decide_eq_true (by omega)), lssI _ _ _ (decide_eq_true (by omega)), hp1, hmem, wr, sub, cvI_ok k, cvI_ok k, mk, rem, eqlI _ _ _ hev.symm, ?_, trivial⟩ ?_) ⟨add1, trivial⟩
  · cases ev with
    | true => have := addI sum k; rw [wrI (by omega) (by omega)] at this; exact this
    | false => have := subI sum k; rw [wrI (by omega) (by omega)] at this; exact this
  · rcases hsm with ⟨rfl, a, b⟩ | ⟨rfl, a⟩ | ⟨rfl, a, b⟩
    · have m := mulI pr k
      rcases hm with hm | hm
      · rw [hm] at m
        exact ⟨lssI _ _ _ (decide_eq_true a), gtrI _ _ _ (decide_eq_true b), m, trivial⟩
      · omega
    · exact ⟨lssI _ _ _ (decide_eq_false a), trivial⟩
    · exact ⟨lssI _ _ _ (decide_eq_true a), gtrI _ _ _ (decide_eq_false b), trivial⟩

theorem mn_rds {o : Option ABlk} (ho : PlO o) {zs : List Int} {ar : Option Addr} {cr : Nat} (hh : Handed #[o] zs (.slice ar zs.length cr)) : ∀ (d i : Nat), i + d = min zs.length 40 → ∀ {sum pr : Int} {s p : P2}, InvMn i sum pr s p →
    ∃ sum' pr' s' p', InvMn (i + d) sum' pr' s' p' ∧ RdsB Try.prog 1 bodyMn (tmA 80 (LMn (.slice ar zs.length cr) (i : Nat) sum pr)) (HMn o s p).toArray (.exit 0, tmA 80 (LMn (.slice ar zs.length cr) ((i + d : Nat) : Int) sum' pr'), (HMn o s' p').toArray)
  | 0, i, hk, sum, pr, s, p, h => by
    refine ⟨sum, pr, s, p, h, .last ?_ (by simp)⟩
    by_cases c : i < zs.length
    · exact rndB_to (rdMnEnd_t o ar zs.length cr i sum pr s p) okMn ⟨lssI _ _ _ (decide_eq_true (by omega)), lssI _ _ _ (decide_eq_false (by omega)), trivial⟩ (entMn ho hh _ _ _ _ _)
    · exact rndB_to (rdMnEnd_f o ar zs.length cr i sum pr s p) okMn ⟨lssI _ _ _ (decide_eq_false (by omega)), trivial⟩ (entMn ho hh _ _ _ _ _)
  | d + 1, i, hk, sum, pr, s, p, h => by
    obtain ⟨sum1, pr1, s1, p1, i1, c1⟩ := rdMn ho hh (by omega) (by omega) h
    obtain ⟨sum2, pr2, s2, p2, i2, c2⟩ := mn_rds ho hh d (i + 1) (by omega) i1
    rw [show i + 1 + d = i + (d + 1) by omega] at i2 c2
    exact ⟨sum2, pr2, s2, p2, i2, .next c1 c2⟩

theorem ivMany_pad {o : Option ABlk} {va : Value} {zs : List Int} (ho : PlO o) (ha : Handed #[o] zs va) : Tells 6 #[va] #[o] (.bool true) := by
  obtain ⟨ar, cr, rfl⟩ := ha.partsG
  have e0 : F 0 = 0 := by decide +kernel
  have e1 : F 1 = 4607182418800017408 := by decide +kernel
  have inv0 : InvMn 0 0 1 (0, 0) (4607182418800017408, 4607182418800017408) := by
    have n0 := neF (k := 0) (by decide) (by decide)
    have m1 := mrF (k := 1) (by decide) (by decide)
    rw [e0] at n0
    rw [e1] at m1
    refine ⟨⟨n0.bl, n0.bh, n0.ab, n0.l1, n0.l2, n0.h1, n0.h2, ?_, ?_⟩, by decide, ?_, by decide⟩
    · decide +kernel
    · decide +kernel
    · have b1 : Bd 1024 4607182418800017408 := ⟨by decide, by decide +kernel⟩
      exact ⟨b1, b1, m1.lo, m1.hi⟩
  obtain ⟨sum, pr, s, p, inv, rds⟩ := mn_rds ho ha (min zs.length 40) 0 (by omega) inv0
  rw [Nat.zero_add] at inv rds
  have i40 : min zs.length 40 ≤ 40 := by omega
  generalize hi : min zs.length 40 = i at *
  have hs := inv.sb
  have hp := inv.pb
  have hne := inv.ne
  have b1 := fi_of_bd hne.bl
  have b2 := fi_of_bd hne.bh
  have hsF := (F_fi (n := sum) (by omega)).1
  have hpF := (F_fi (n := pr) (by omega)).1
  have vs := vF (k := sum) (by omega)
  have lo : ix s.1 ≤ ix (F sum) := by
    have h3 := Rat.mul_le_mul_of_nonneg_right hne.l1 (Rat.le_of_lt uR_pos')
    rw [← vR_eq] at h3
    have h4 := kF (k := sum) (by omega)
    rw [← h4] at h3
    exact rk_le_iff.1 (icast.1 h3)
  have hi2 : ix (F sum) ≤ ix s.2 := by
    have h3 := Rat.mul_le_mul_of_nonneg_right hne.h1 (Rat.le_of_lt uR_pos')
    rw [← vR_eq] at h3
    have h4 := kF (k := sum) (by omega)
    rw [← h4] at h3
    exact rk_le_iff.1 (icast.1 h3)
  have hin := inv.mr.holds (by omega) (kF (k := pr) (by omega))
  have mrt := inv.mr.rt (by omega)
  have sr := sub_rd b2 b1
  have hd : ix (fop .sub .f64 s.2 s.1) ≤ 4517110426252607488 := by
    refine sr.2.le (by decide) (by decide) (by decide) ?_
    have c1 : vR s.2 - vR s.1 ≤ 80 * eps := by
      have a := hne.l2
      have b := hne.h2
      have n40 := nat_le i40
      have e40 : ((40 : Nat) : Rat) = 40 := rfl
      rw [e40] at n40
      have := Rat.mul_le_mul_of_nonneg_right n40 (Rat.le_of_lt eps_pos)
      simp only at a b
      grind
    have c2 : (80 : Rat) * eps * 1048576 ≤ 1 := by unfold eps; decide +kernel
    have c3 : (vR s.2 - vR s.1) * 1048576 ≤ 1 := by grind
    have c4 := Rat.mul_le_mul_of_nonneg_right c3 (Rat.le_of_lt uR_pos')
    have c5 : ((kv s.2 - kv s.1 : Int) : Rat) * 1048576 ≤ ((un : Int) : Rat) := by
      rw [Rat.intCast_sub]
      show (kR s.2 - kR s.1) * 1048576 ≤ uR
      rw [vR_eq, vR_eq]
      grind
    have c6 : ((kv s.2 - kv s.1) * 1048576 : Int) ≤ (un : Int) := by
      refine icast.1 ?_
      rw [Rat.intCast_mul]
      exact c5
    have c7 : rk 4517110426252607488 * 1048576 = (un : Int) := by decide +kernel
    omega
  have hcmp : fcmp .lss .f64 (fop .sub .f64 s.2 s.1) 4517329193108106637 = some true := by
    rw [lss_ix sr.nn ⟨by decide, by decide +kernel, by decide +kernel⟩]
    have : ix 4517329193108106637 = 4517329193108106637 := by decide +kernel
    rw [this, decide_eq_true (by omega)]
  have run := runMn o ar zs.length cr i sum pr s p (F sum) (F pr)
  have mk0 : Runs Try.prog 31 #[.float .f64 0, .float .f64 0] #[] (vI (0, 0)) #[] := imake_at (by decide +kernel)
  have mk1 : Runs Try.prog 31 #[.float .f64 4607182418800017408, .float .f64 4607182418800017408] #[] (vI (4607182418800017408, 4607182418800017408)) #[] := imake_at (by decide +kernel)
  refine askTB_tells run ⟨known_runs, mk0, mk1, cvI_ok sum, in_yes hsF.nn b1.nn b2.nn lo hi2, cvI_ok pr, in_yes hpF.nn mrt.l mrt.h hin.1 hin.2, (fc _ rfl _ _).trans hcmp, trivial⟩ ⟨⟨_, _, entMn ho ha 0 0 1 (0, 0) (4607182418800017408, 4607182418800017408), rds.loop⟩, trivial⟩

end Go.Proofs.Ythajhpilfbijdaa
