/- The law TapeHolds returns true, whatever the numbers. -/
import Derived.Test.YtpmdpbljgidllaaTpHl2
import Derived.Test.YtpmdpbljgidllaaTpHl3
import Derived.Test.YtpmdpbljgidllaaTpGn
namespace Go.Proofs.Ytpmdpbljgidllaa
open Go
set_option linter.unusedVariables false
set_option linter.unusedSimpArgs false
set_option maxRecDepth 100000

theorem ho_run {N lm lw : Nat} (h1 : 1 ≤ N) (h2 : N ≤ 3) (h3 : lm ≤ N) (h4 : lw ≤ N) (c : Nat → Bool) : ∃ c' : Nat → Bool, (∀ i, i < N → c' i = c i) ∧ HoRun N lm lw c' := by
  have : N = 1 ∨ N = 2 ∨ N = 3 := by omega
  rcases this with rfl | rfl | rfl
  · refine ⟨_, ?_, hoA_1 lm lw h3 h4 (c 0)⟩
    intro i hi
    match i, hi with
    | 0, _ => rfl
  · refine ⟨_, ?_, hoA_2 lm lw h3 h4 (c 0) (c 1)⟩
    intro i hi
    match i, hi with
    | 0, _ => rfl
    | 1, _ => rfl
  · refine ⟨_, ?_, hoA_3 lm lw h3 h4 (c 0) (c 1) (c 2)⟩
    intro i hi
    match i, hi with
    | 0, _ => rfl
    | 1, _ => rfl
    | 2, _ => rfl
/-- A variable's numbers. -/
def mkRnHo (k w : Int) (pk pw : Addr) : RnHo := ⟨pk, k, pw, w, k % 7, wr (k % 7 - 3), Fz (wr (k % 7 - 3)), w % 4, Fz (w % 4), wr (w.tdiv 4), wr (w.tdiv 4) % 4, Fz (wr (w.tdiv 4) % 4)⟩
theorem dyF3 {n : Int} (h : n.natAbs < 1000000) : Dy 3 (n * 8) (Fz n) := ((Dy.F (n := n) (by omega)).up 3).cast (by omega) rfl
theorem ho_in (k w : Int) (pk pw : Addr) (r : Nat → RnHo) {i : Nat} (hr : r i = mkRnHo k w pk pw) : Fi (r i).fs ∧ InP (r i).fs (bx 0) ∧ NIn (r i).fs (bHo r i) := by
  have e1 := emod_bd k (m := 7) (by decide)
  have e2 := emod_bd w (m := 4) (by decide)
  have e3 := emod_bd (wr (w.tdiv 4)) (m := 4) (by decide)
  have es : wr (k % 7 - 3) = k % 7 - 3 := wr_id (by omega) (by omega)
  unfold bHo
  rw [hr]
  simp only [mkRnHo, es]
  generalize k % 7 = a at *
  generalize w % 4 = b at *
  generalize wr (w.tdiv 4) % 4 = c at *
  have d0 := dyF3 (n := a - 3) (by omega)
  have d1 := d0.sub (dyF3 (n := b) (by omega)) (by omega) (by omega)
  have d2 := d0.add (dyF3 (n := c) (by omega)) (by omega) (by omega)
  have a1 := d1.le d0 (by omega)
  have a2 := d0.le d2 (by omega)
  have hb : -4616189618054758400 ≤ ix (Fz (a - 3)) ∧ ix (Fz (a - 3)) ≤ 4616189618054758400 := by
    have : a = 0 ∨ a = 1 ∨ a = 2 ∨ a = 3 ∨ a = 4 ∨ a = 5 ∨ a = 6 := by omega
    rcases this with rfl | rfl | rfl | rfl | rfl | rfl | rfl <;> exact ⟨by decide +kernel, by decide +kernel⟩
  have q1 : ix (bx 0).1 = -4616189618054758400 := by decide +kernel
  have q2 : ix (bx 0).2 = 4616189618054758400 := by decide +kernel
  exact ⟨d0.fi, ⟨by rw [q1]; exact hb.1, by rw [q2]; exact hb.2⟩, .inl d0.fi.nn, rs_fi d1.fi d2.fi (Int.le_trans a1 a2), fun _ => ⟨a1, a2⟩⟩
/-- Without divisions none is made. -/
theorem mk_no5 (n : Int) (zs : List Int) {k : Nat} (hk : k < mkM n zs) : (tmkO n zs false k).K ≤ 4 ∧ (2 ≤ (tmkO n zs false k).K → mkN n < k) := by
  by_cases h1 : k < mkN n
  · have e : tmkO n zs false k = ⟨1, Int.ofNat k, 0, 0⟩ := by unfold tmkO Omk; rw [if_pos h1]
    rw [e]
    exact ⟨(by decide : (1 : Int) ≤ 4), fun h => absurd h (show ¬ ((2 : Int) ≤ 1) by decide)⟩
  by_cases h2 : k = mkN n
  · have e : (tmkO n zs false k).K = 0 := by unfold tmkO Omk; rw [if_neg h1, if_pos h2]
    rw [e]
    exact ⟨(by decide : (0 : Int) ≤ 4), fun h => absurd h (show ¬ ((2 : Int) ≤ 0) by decide)⟩
  · refine ⟨?_, fun _ => by omega⟩
    obtain ⟨i, rfl⟩ : ∃ i, k = mkN n + 1 + i := ⟨k - (mkN n + 1), by omega⟩
    have hi : i < 8 ∧ i < zs.length := by unfold mkM mkL at hk; omega
    rw [mkO_at (List.getElem?_eq_getElem hi.2) hi.1]
    generalize zs[i] = z
    unfold mkOp RnK.op
    by_cases h : decide (z % 11 = 0) = true
    · rw [h]; exact (by decide : (0 : Int) ≤ 4)
    · rw [Bool.not_eq_true] at h
      rw [h]
      have h1 := Int.emod_nonneg z (b := 3) (by decide)
      have h2 := Int.emod_lt_of_pos z (b := 3) (by decide)
      have hK : (mkRn (mkN n + 1 + i) z).K = 2 + z % 3 := wrap_id (by omega) (by omega)
      simp only [Bool.false_eq_true, if_false, Bool.false_and]
      rw [hK]
      omega
theorem grHo_last {N : Nat} (h1 : 1 ≤ N) (h2 : N ≤ 3) (r : Nat → RnHo) : (grHo N r).length = 4 * N ∧ (grHo N r)[4 * N - 3]? = some (nwF ((List.range N).map fun i => (r i).fs)) ∧ (grHo N r)[4 * N - 1]? = some (nwP ((List.range N).map (bHo r))) := by
  have : N = 1 ∨ N = 2 ∨ N = 3 := by omega
  rcases this with rfl | rfl | rfl <;> exact ⟨rfl, rfl, rfl⟩
theorem get2 {α : Type} {N : Nat} (f : Nat → α) (d : α) {Q : α → Prop} (hd : Q d) (h : ∀ i, i < N → Q (f i)) (i : Nat) : Q (((List.range N).map f).getD i d) := by
  rw [List.getD_eq_getElem?_getD, List.getElem?_map]
  by_cases c : i < N
  · rw [List.getElem?_range c]; exact h i c
  · rw [List.getElem?_eq_none (l := List.range N) (by simp; omega)]; exact hd
theorem fl_K (O : Nat → OpD) (fl : Nat → Nat) (k i : Nat) : (flO O fl k i).K = (O i).K ∧ (flO O fl k i).A = (O i).A ∧ (flO O fl k i).B = (O i).B := by
  unfold flO flH
  split
  · split <;> exact ⟨rfl, rfl, rfl⟩
  · exact ⟨rfl, rfl, rfl⟩
theorem opOkD_of {k n : Nat} {o p : OpD} (h : opOkD k n o) (e1 : p.K = o.K) (e2 : p.A = o.A) (e3 : p.B = o.B) : opOkD k n p := by
  unfold opOkD at *
  rw [e1, e2, e3]
  exact h

set_option maxHeartbeats 4000000 in
theorem tapeHolds_three {o o2 o3 : Option ABlk} {va vb vc : Value} {zs ms rs : List Int} (ha : Handed #[o, o2, o3] zs va) (hb : Handed #[o, o2, o3] ms vb) (hc : Handed #[o, o2, o3] rs vc) (n : Int) :
    Tells 10 #[.int .i64 n, va, vb, vc] #[o, o2, o3] (.bool true) := by
  obtain ⟨n1, n2⟩ := mkN_le n
  obtain ⟨m1, m2⟩ := mkM_le n zs
  have hM9 : mkM n zs ≤ mkN n + 9 := by unfold mkM mkL; omega
  -- floors
  have hF : ∀ i, ∃ f : Nat, i < mkM n zs → (tmkO n zs false i).K = 0 → Runs Try.prog 32 #[.float .f64 (tmkO n zs false i).C] #[] (.float .f64 f) #[] ∧ Fi f ∧ -4616189618054758400 ≤ ix f ∧ ix f ≤ 4616189618054758400 := by
    intro i
    by_cases h : i < mkM n zs ∧ (tmkO n zs false i).K = 0
    · obtain ⟨f, hf⟩ := mk_floor n zs false h.1 h.2
      exact ⟨f, fun _ _ => hf⟩
    · exact ⟨0, fun a b => absurd ⟨a, b⟩ h⟩
  obtain ⟨fl, hfl⟩ := Classical.axiomOfChoice hF
  -- what was handed in
  obtain ⟨am, cm, rfl⟩ := hb.parts
  obtain ⟨aw, cw, rfl⟩ := hc.parts
  have hP : ∀ {xs : List Int} {a : Option Addr} {c : Nat}, Handed #[o, o2, o3] xs (.slice a xs.length c) → ∀ i, ∃ p : Addr, i < xs.length → indexAddrV Try.prog 23 (.slice a xs.length c) (.int .i64 (Int.ofNat i)) = some (.pointer (some p)) ∧ ∀ c : AHeap, readVar Try.prog (#[o, o2, o3] ++ c) 3 p = some (.int .i64 (xs.getD i 0)) := by
    intro xs a c hh i
    by_cases h : i < xs.length
    · obtain ⟨p, h1, h2⟩ := hh.get h
      exact ⟨p, fun _ => ⟨h1, h2⟩⟩
    · exact ⟨⟨0, 0, none⟩, fun h' => absurd h' h⟩
  obtain ⟨pm, hpm⟩ := Classical.axiomOfChoice (hP hb)
  obtain ⟨pw, hpw⟩ := Classical.axiomOfChoice (hP hc)
  obtain ⟨r, hr⟩ : ∃ r : Nat → RnHo, r = fun i => mkRnHo (ms.getD i (Int.ofNat i)) (rs.getD i 0) (pm i) (pw i) := ⟨_, rfl⟩
  have hri : ∀ i, r i = mkRnHo (ms.getD i (Int.ofNat i)) (rs.getD i 0) (pm i) (pw i) := fun i => by rw [hr]
  clear hr
  have hin := fun i => ho_in _ _ _ _ r (hri i)
  -- the field
  obtain ⟨O', hO'⟩ : ∃ O' : Nat → OpD, O' = flO (tmkO n zs false) fl (mkM n zs) := ⟨_, rfl⟩
  have hK := fun i => fl_K (tmkO n zs false) fl (mkM n zs) i
  rw [← hO'] at hK
  obtain ⟨ops, hops⟩ : ∃ ops, ops = (List.range (mkM n zs)).map O' := ⟨_, rfl⟩
  have hlen : ops.length = mkM n zs := by rw [hops]; simp
  have hget : ∀ k q, ops[k]? = some q → k < mkM n zs ∧ q = O' k := by
    intro k q h
    have hk : k < mkM n zs := by have := (List.getElem?_eq_some_iff.1 h).1; omega
    rw [hops, List.getElem?_map, List.getElem?_range hk, Option.map_some] at h
    injection h with h
    exact ⟨hk, h.symm⟩
  have hmk : ∀ k, k < mkM n zs → (mkOps n zs false)[k]? = some (tmkO n zs false k) := fun k hk => by
    unfold mkOps
    rw [List.getElem?_map, List.getElem?_range hk]; rfl
  have hok : ∀ k q, ops[k]? = some q → opOkD k (mkN n) q := by
    intro k q h
    obtain ⟨hk, rfl⟩ := hget k q h
    exact opOkD_of (mk_ok n zs false k _ (hmk k hk)) (hK k).1 (hK k).2.1 (hK k).2.2
  have h5 : ∀ k q, ops[k]? = some q → q.K ≤ 4 ∧ (2 ≤ q.K → mkN n < k) := by
    intro k q h
    obtain ⟨hk, rfl⟩ := hget k q h
    rw [(hK k).1]
    exact mk_no5 n zs hk
  have q1 : ix (bx 0).1 = -4616189618054758400 := by decide +kernel
  have q2 : ix (bx 0).2 = 4616189618054758400 := by decide +kernel
  have hcc : ∀ q ∈ ops, q.K = 0 → Fi q.C ∧ InP q.C (bx 0) := by
    intro q hq h0
    obtain ⟨k, hk⟩ := List.getElem?_of_mem hq
    obtain ⟨hkM, rfl⟩ := hget k q hk
    rw [(hK k).1] at h0
    have hf := hfl k hkM h0
    have e : (O' k).C = fl k := by
      rw [hO']
      unfold flO flH
      rw [if_pos hkM, decide_eq_true h0]
      rfl
    rw [e]
    exact ⟨hf.2.1, ⟨by rw [q1]; exact hf.2.2.1, by rw [q2]; exact hf.2.2.2⟩⟩
  have b0 : Fi 0 ∧ InP 0 (bx 0) := ⟨fi_zero.1, by rw [q1]; decide, by rw [q2]; decide⟩
  -- what it tells
  have hUb := fun i => mkU_bd n (M := mkM n zs) m1 (by omega) i
  obtain ⟨fy, hfy⟩ : ∃ fy : Nat → Nat, fy = fun i => regF ops ((List.range (mkN n)).map fun i => (r i).fs) (mkU n (mkM n zs) i).toNat := ⟨_, rfl⟩
  obtain ⟨fZ, hfZ⟩ : ∃ fZ : Nat → Nat × Nat, fZ = fun i => regP ops ((List.range (mkN n)).map (bHo r)) (mkU n (mkM n zs) i).toNat := ⟨_, rfl⟩
  have hyf : ∀ i, Fi (fy i) := by
    intro i
    rw [hfy]
    have := hUb i
    exact (reg_bd hok h5 (by omega) hcc (get2 (Q := fun x => Fi x ∧ InP x (bx 0)) _ _ b0 fun i _ => ⟨(hin i).1, (hin i).2.1⟩) _ _ (Nat.lt_succ_self _) (by rw [hlen]; omega)).1
  have hyz : ∀ i, NIn (fy i) (fZ i) := by
    intro i
    rw [hfy, hfZ]
    refine reg_in (fun q hq h0 => (hcc q hq h0).1) (fun i => ?_) _
    simp only [List.getD_eq_getElem?_getD, List.getElem?_map]
    by_cases c : i < mkN n
    · rw [List.getElem?_range c]; exact (hin i).2.2
    · rw [List.getElem?_eq_none (l := List.range (mkN n)) (by simp; omega)]; exact nIn_pt fi_zero.1
  have hrt : ∀ k, Rt (regP ops ((List.range (mkN n)).map (bHo r)) k) := by
    intro k
    refine regT_all rt_zero (fun i => ?_) opP_rt (fun q hq h0 => rt_pt (hcc q hq h0).1.nn) k
    exact get2 (Q := Rt) _ _ rt_zero (fun i _ => (hin i).2.2.rs.rt) i
  obtain ⟨c, hcs, hrun⟩ := ho_run (N := mkN n) (lm := min (mkN n) ms.length) (lw := min (mkN n) rs.length) n1 n2 (by omega) (by omega) (fun i => decide (ix (fabs (fy i)) < ix 4832362400168542208))
  -- the first loop
  have hO0 : flO (tmkO n zs false) fl 0 = tmkO n zs false := by
    funext i
    unfold flO
    rw [if_neg (by omega)]
  obtain ⟨j', hR⟩ := hs_rds (M := mkM n zs) m1 m2 (b1 := o) (b2 := o2) (b3 := o3) (n := n) (va := va) (vb := .slice am ms.length cm) (vc := .slice aw rs.length cw) (N := mkN n) (cu := (intB (mkOut n (mkM n zs)) true).cells) (O := tmkO n zs false) (fl := fl)
    (fun i hi h0 => (hfl i hi h0).1) (mkM n zs) 0 (by omega) (j0Ho n va (.slice am ms.length cm) (.slice aw rs.length cw) (mkN n) (mkM n zs))
  rw [hO0, ← hO'] at hR
  have run := hrun o o2 o3 n va am aw ms.length cm rs.length cw (mkM n zs) (intB (mkOut n (mkM n zs)) true).cells (tmkO n zs false) O' j' r fy (fun i => fabs (fy i)) fZ
  simp only [Option.map_eq_some_iff] at run
  obtain ⟨⟨v1, H1, l1, lo1⟩, hx1, hx2⟩ := run
  simp only [Prod.mk.injEq] at hx2
  obtain ⟨rfl, rfl, rfl⟩ := hx2
  refine ⟨H1, askT_runs hx1 ?_ (fun x hx => ?_)⟩
  case refine_2 =>
    rw [List.mem_singleton] at hx
    subst hx
    exact hR
  have hh := fun (c : List (Option ABlk)) {zs : List Int} {v : Value} (h : Handed [o, o2, o3].toArray zs v) => h.list c
  have e3 : ∀ rest : List (Option ABlk), (o :: o2 :: o3 :: rest).toArray = #[o, o2, o3] ++ rest.toArray := fun rest => by
    apply Array.ext'
    simp
  have ec : ∀ O : Nat → OpD, ((List.range (mkM n zs)).flatMap fun i => opC (O i)).toArray = (opsB ((List.range (mkM n zs)).map O) true).cells := fun O => congrArg List.toArray (flat_range (f := opC) O (mkM n zs))
  have eops : opsH (mkM n zs) O' = opB (opsB ops true).cells := by rw [hops]; unfold opsH; rw [ec]
  unfold lgHo
  refine okApp (okApp (okApp (okApp ⟨tapeKnown0, ?_, trivial⟩ (each_ok _ _ fun i hi => ?_)) ?_) (each_ok _ _ fun i hi => ?_)) ⟨cmp_ok (decide_eq_false (by omega)), trivial⟩
  · have := make_rn (l := [o, o2, o3]) n false (hh [] ha) (N := mkN n) (M := mkM n zs) (s := 3) rfl rfl rfl
    have e : opsH (mkM n zs) (tmkO n zs false) = opB (opsB (mkOps n zs false) true).cells := by unfold opsH; rw [ec]; rfl
    rw [e]
    exact this
  · have hin' := List.mem_range.1 hi
    have ek : (if i < min (mkN n) ms.length then (r i).k else Int.ofNat i) = ms.getD i (Int.ofNat i) := by
      rw [hri]
      split
      · rfl
      · rw [List.getD_eq_getElem?_getD, List.getElem?_eq_none (by omega)]; rfl
    have ew : (if i < min (mkN n) rs.length then (r i).w else 0) = rs.getD i 0 := by
      rw [hri]
      split
      · rfl
      · rw [List.getD_eq_getElem?_getD, List.getElem?_eq_none (by omega)]; rfl
    unfold soHo
    rw [ek, ew]
    have g1 : (r i).k = ms.getD i (Int.ofNat i) ∧ (r i).w = rs.getD i 0 ∧ (r i).pk = pm i ∧ (r i).pw = pw i := by rw [hri]; exact ⟨rfl, rfl, rfl, rfl⟩
    have hread : ∀ {xs : List Int} {p : Addr} {d : Int}, i < xs.length → (∀ c : AHeap, readVar Try.prog (#[o, o2, o3] ++ c) 3 p = some (.int .i64 (xs.getD i 0))) → readVar Try.prog (hpHo o o2 o3 (mkN n) (mkM n zs) (intB (mkOut n (mkM n zs)) true).cells O' r i).toArray 3 p = some (.int .i64 (xs.getD i d)) := by
      intro xs p d hx h
      have := h ([opsH (mkM n zs) O', iB (intB (mkOut n (mkM n zs)) true).cells, tcB 3 (mkN n) (mkM n zs)] ++ grHo i r).toArray
      rw [← e3] at this
      have ex : xs.getD i d = xs.getD i 0 := by
        rw [List.getD_eq_getElem?_getD, List.getD_eq_getElem?_getD, List.getElem?_eq_getElem hx]; rfl
      rw [ex]
      exact this
    refine okApp (okApp (okApp ⟨cmp_ok (decide_eq_true hin'), trivial⟩ ?_) ?_) ?_
    · by_cases hlt : i < min (mkN n) ms.length
      · rw [if_pos hlt, g1.1, g1.2.2.1]
        obtain ⟨p1, p2⟩ := hpm i (by omega)
        exact ⟨cmp_ok (decide_eq_true (by omega)), p1, hread (by omega) p2, trivial⟩
      · rw [if_neg hlt]
        exact ⟨cmp_ok (decide_eq_false (by omega)), trivial⟩
    · by_cases hlt : i < min (mkN n) rs.length
      · rw [if_pos hlt, g1.2.1, g1.2.2.2]
        obtain ⟨p1, p2⟩ := hpw i (by omega)
        exact ⟨cmp_ok (decide_eq_true (by omega)), p1, hread (by omega) p2, trivial⟩
      · rw [if_neg hlt]
        exact ⟨cmp_ok (decide_eq_false (by omega)), trivial⟩
    · rw [hri]
      exact ⟨wi_ok _ (n := 7) (by omega) (by omega), ar_sub _ _, cv_ok _, wi_ok _ (n := 4) (by omega) (by omega), cv_ok _, ar_quo4 _, wi_ok _ (n := 4) (by omega) (by omega), cv_ok _, trivial⟩
  · obtain ⟨g1, g2, g3⟩ := grHo_last n1 n2 r
    have hlenH : (hpHo o o2 o3 (mkN n) (mkM n zs) (intB (mkOut n (mkM n zs)) true).cells O' r (mkN n)).length = 6 + 4 * mkN n := by
      unfold hpHo
      rw [List.length_append, g1]
      rfl
    have hat : ∀ k, (hpHo o o2 o3 (mkN n) (mkM n zs) (intB (mkOut n (mkM n zs)) true).cells O' r (mkN n))[6 + k]? = (grHo (mkN n) r)[k]? := by
      intro k
      unfold hpHo
      rw [List.getElem?_append_right (by simp [hpH])]
      show (grHo (mkN n) r)[6 + k - 6]? = _
      rw [Nat.add_sub_cancel_left]
    have hA := hat (4 * mkN n - 3)
    have hB := hat (4 * mkN n - 1)
    rw [g2, show 6 + (4 * mkN n - 3) = 4 * mkN n + 3 by omega] at hA
    rw [g3, show 6 + (4 * mkN n - 1) = 4 * mkN n + 5 by omega] at hB
    clear hat
    generalize hH : hpHo o o2 o3 (mkN n) (mkM n zs) (intB (mkOut n (mkM n zs)) true).cells O' r (mkN n) = HH at hlenH hA hB
    have q3 : HH[3]? = some (opB (opsB ops true).cells) := by rw [← eops, ← hH]; rfl
    have q4 : HH[4]? = some (iB (intB (mkOut n (mkM n zs)) true).cells) := by rw [← hH]; rfl
    have ap : ∀ {i : Nat} {x : Option ABlk} (c : List (Option ABlk)), HH[i]? = some x → (HH ++ c)[i]? = some x := by
      intro i x c h
      rw [List.getElem?_append_left (List.getElem?_eq_some_iff.1 h).1]; exact h
    have hout : ∀ u ∈ mkOut n (mkM n zs), 0 ≤ u ∧ u < mkM n zs := by
      intro u hu
      obtain ⟨i, _, rfl⟩ := List.mem_map.1 hu
      exact hUb i
    have e1 := evG_rn (l := HH) (out := mkOut n (mkM n zs)) (xs := (List.range (mkN n)).map fun i => (r i).fs) (bo := 3) (bu := 4) (bx := 4 * mkN n + 3) (s := 6 + 4 * mkN n) hlen m1 (by omega) n1 n2 (by simp) (mkOut_len _ _) hok hout q3 rfl q4 rfl hA rfl hlenH.symm (fy := fy) (by rw [hfy]; exact evOut_range _ _ _)
    have e2 := evI_rn (l := HH ++ [nwF ((List.range (mkN n)).map fy)]) (out := mkOut n (mkM n zs)) (xs := (List.range (mkN n)).map (bHo r)) (bo := 3) (bu := 4) (bx := 4 * mkN n + 5) (s := 7 + 4 * mkN n) hlen m1 (by omega) n1 n2 (by simp) (mkOut_len _ _) hok hout hrt (ap _ q3) rfl (ap _ q4) rfl (ap _ hB) rfl (by simp [hlenH]; omega) (fy := fZ) (by rw [hfZ]; exact evOut_range _ _ _)
    exact ⟨cmp_ok (decide_eq_false (by omega)), e1, e2, trivial⟩
  · have hin' := List.mem_range.1 hi
    have nn := (hyf i).nn
    have hcmp : (cmpF .lss (fabs (fy i)) 4832362400168542208 (c i)).ok Try.prog := by
      rw [hcs i hin']
      exact (fc _ rfl _ _).trans (lss_ix (abs_ix nn).1 ⟨by decide +kernel, by decide +kernel, by decide +kernel⟩)
    unfold soHe
    refine okApp ⟨cmp_ok (decide_eq_true hin'), abs_runs nn, hcmp, trivial⟩ ?_
    cases c i with
    | false => exact trivial
    | true => exact ⟨in_yesT nn (hyz i).rs.rt ((hyz i).is nn), trivial⟩

end Go.Proofs.Ytpmdpbljgidllaa
