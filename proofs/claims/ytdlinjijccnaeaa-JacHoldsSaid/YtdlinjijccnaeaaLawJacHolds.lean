/- The law JacHolds returns true, whatever the numbers. -/
import Derived.Test.YtdlinjijccnaeaaJhE
import Derived.Test.YtdlinjijccnaeaaJhC
namespace Go.Proofs.Ytdlinjijccnaeaa
open Go
set_option linter.unusedVariables false
set_option linter.unusedSimpArgs false
set_option maxRecDepth 100000

/-! the first loop -/
theorem tmJh_back {n : Int} {va vb vc : Value} {i : Nat} {tm' : List Value} (h : slJh tm' = (194, [.int .i64 n, va, vb, vc, .bool false, .pointer (some ⟨5, 0, none⟩), .slice none 0 0, .slice none 0 0, .int .i64 (Int.ofNat i)])) : ∃ j', tm' = tmJh n va vb vc i j' := by
  unfold slJh at h
  simp only [Prod.mk.injEq, List.cons.injEq, and_true] at h
  obtain ⟨hl, t0, t1, t2, t3, t8, t9, t10, t11, t12⟩ := h
  refine ⟨getT tm', (tm_eq hl).trans ?_⟩
  unfold tmJh
  apply List.map_congr_left
  intro s _
  split
  · rename_i h; subst h; exact t0
  split
  · rename_i h; subst h; exact t1
  split
  · rename_i h; subst h; exact t2
  split
  · rename_i h; subst h; exact t3
  split
  · rename_i h; subst h; exact t8
  split
  · rename_i h; subst h; exact t9
  split
  · rename_i h; subst h; exact t10
  split
  · rename_i h; subst h; exact t11
  split
  · rename_i h; subst h; exact t12
  rfl
def flO (O : Nat → OpD) (fl : Nat → Nat) (k : Nat) (i : Nat) : OpD := if i < k then flJ (fl i) (O i) else O i
theorem flO_next (O : Nat → OpD) (fl : Nat → Nat) (k : Nat) : (fun i => if i = k then flJ (fl k) (flO O fl k k) else flO O fl k i) = flO O fl (k + 1) := by
  funext i
  have e : flO O fl k k = O k := by unfold flO; rw [if_neg (by omega)]
  rw [e]
  by_cases h : i = k
  · subst h
    rw [if_pos rfl]
    unfold flO
    rw [if_pos (by omega)]
  · rw [if_neg h]
    unfold flO
    by_cases h2 : i < k
    · rw [if_pos h2, if_pos (by omega)]
    · rw [if_neg h2, if_neg (by omega)]
theorem jh_rds {M : Nat} (h1 : 2 ≤ M) (h2 : M ≤ 12) {b1 b2 b3 : Option ABlk} {n : Int} {va vb vc : Value} {N : Nat} {cu : Array Value} {O : Nat → OpD} {fl : Nat → Nat}
    (hfl : ∀ i, i < M → Runs Try.prog 27 #[.float .f64 (O i).C] #[] (.float .f64 (fl i)) #[]) : ∀ (d k : Nat), k + d = M → ∀ j : Nat → Value, ∃ j' : Nat → Value,
      Rds (evR Try.prog (Runs Try.prog) (orcD 12) q1 bodyJh) (tmJh n va vb vc k j) (hpH b1 b2 b3 N M cu (flO O fl k)).toArray (.exit 0, tmJh n va vb vc M j', (hpH b1 b2 b3 N M cu (flO O fl M)).toArray)
  | 0, k, hk, j => by
    have hkM : k = M := by omega
    subst hkM
    obtain ⟨tm', H', hx, hev⟩ := rnd_part (g := fun tm H => (slJh tm, H)) (rdJhEnd h1 h2 b1 b2 b3 n va vb vc N cu (flO O fl k) j) ⟨cmp_ok (decide_eq_false (by omega)), trivial⟩
    simp only [Prod.mk.injEq] at hx
    obtain ⟨hs, rfl⟩ := hx
    obtain ⟨j', rfl⟩ := tmJh_back hs
    exact ⟨j', .last hev (by simp)⟩
  | d + 1, k, hk, j => by
    have hlt : k < M := by omega
    have e : flO O fl k k = O k := by unfold flO; rw [if_neg (by omega)]
    obtain ⟨tm', H', hx, hev⟩ := rnd_part (g := fun tm H => (slJh tm, H)) (rdJh h1 h2 hlt b1 b2 b3 n va vb vc N cu (flO O fl k) j (fl k)) ⟨cmp_ok (decide_eq_true hlt), by rw [e]; exact hfl k hlt, trivial⟩
    simp only [Prod.mk.injEq] at hx
    obtain ⟨hs, rfl⟩ := hx
    obtain ⟨j1, rfl⟩ := tmJh_back hs
    rw [flO_next] at hev
    obtain ⟨j', ht⟩ := jh_rds h1 h2 hfl d (k + 1) (by omega) j1
    exact ⟨j', .next hev ht⟩

/-! the last loop -/
theorem tmJc_back {N i : Nat} {tm' : List Value} (h : slJc tm' = svJc N i) : ∃ j', tm' = tmJc N i j' := by
  unfold slJc svJc at h
  simp only [Prod.mk.injEq, List.cons.injEq, and_true] at h
  obtain ⟨hl, t8, t9, t17, t18, t19, t20, t21⟩ := h
  refine ⟨getT tm', (tm_eq hl).trans ?_⟩
  unfold tmJc
  apply List.map_congr_left
  intro s _
  split
  · rename_i h; subst h; exact t8
  split
  · rename_i h; subst h; exact t9
  split
  · rename_i h; subst h; exact t17
  split
  · rename_i h; subst h; exact t18
  split
  · rename_i h; subst h; exact t19
  split
  · rename_i h; subst h; exact t20
  split
  · rename_i h; subst h; exact t21
  rfl
/-- What a cell asks for. -/
structure CellOK (R : Nat) (RI B A : P2) : Prop where
  inn : Runs Try.prog 21 #[.float .f64 R, vI RI] #[] (.bool true) #[]
  b : Rt B
  a : Rt A
theorem soJc_ok {N i : Nat} {T : TbJh} {g : Nat} {h c c' : Nat → Nat} (hg : Runs Try.prog 22 #[vI (T.B i)] #[] (.float .f64 g) #[]) (ng : NN g)
    (hh : ∀ k, Runs Try.prog 22 #[vI (T.A i k)] #[] (.float .f64 (h k)) #[] ∧ NN (h k)) (hin : ∀ k, k < N → Runs Try.prog 21 #[.float .f64 (T.R i k), vI (T.RI i k)] #[] (.bool true) #[])
    (hc : ∀ k, c k = if ix g < ix 4787326403894837248 then (if ix (h k) < ix 4787326403894837248 then 2 else 1) else 0) (hcc : ∀ k, k < N → c' k = c k) {k : Nat} (hk : k < N) : okAll Try.prog (soJc N i T g h c' k) := by
  have nb : NN 4787326403894837248 := ⟨by decide +kernel, by decide +kernel, by decide +kernel⟩
  have cg : ∀ {x : Nat} {b : Bool}, NN x → decide (ix x < ix 4787326403894837248) = b → (cmpF .lss x 4787326403894837248 b).ok Try.prog := fun nx hb => by
    rw [← hb]
    exact (fc _ rfl _ _).trans (lss_ix nx nb)
  have e := (hcc k hk).trans (hc k)
  unfold soJc
  refine okApp ⟨cmp_ok (decide_eq_true hk), hg, trivial⟩ ?_
  by_cases c1 : ix g < ix 4787326403894837248
  · rw [if_pos c1] at e
    by_cases c2 : ix (h k) < ix 4787326403894837248
    · rw [if_pos c2] at e
      rw [e, if_neg (by decide), if_neg (by decide)]
      exact ⟨cg ng (decide_eq_true c1), (hh k).1, cg (hh k).2 (decide_eq_true c2), hin k hk, trivial⟩
    · rw [if_neg c2] at e
      rw [e, if_neg (by decide), if_pos rfl]
      exact ⟨cg ng (decide_eq_true c1), (hh k).1, cg (hh k).2 (decide_eq_false c2), trivial⟩
  · rw [if_neg c1] at e
    rw [e, if_pos rfl]
    exact ⟨cg ng (decide_eq_false c1), trivial⟩
theorem jc_rds {N : Nat} (h1 : 1 ≤ N) (h3 : N ≤ 3) {b1 b2 b3 : Option ABlk} {M : Nat} {cu : Array Value} {O : Nat → OpD} {r : Nat → RnJh} {T : TbJh}
    (hT : ∀ i k, i < N → k < N → Runs Try.prog 21 #[.float .f64 (T.R i k), vI (T.RI i k)] #[] (.bool true) #[]) (hB : ∀ i, Rt (T.B i)) (hA : ∀ i k, Rt (T.A i k)) : ∀ (d i : Nat), i + d = N → ∀ j : Nat → Value, ∃ j' : Nat → Value,
      Rds (evR Try.prog (Runs Try.prog) (orcD 12) q1 bodyJc) (tmJc N i j) (hpJ4 b1 b2 b3 N M cu O r T).toArray (.exit 4, tmJc N N j', (hpJ4 b1 b2 b3 N M cu O r T).toArray)
  | 0, i, hi, j => by
    have hiN : i = N := by omega
    subst hiN
    obtain ⟨tm', H', hx, hev⟩ := rnd_part (g := fun tm H => (slJc tm, H)) (rdJcEnd h1 h3 b1 b2 b3 M cu O r T j) ⟨cmp_ok (decide_eq_false (by omega)), trivial⟩
    simp only [Prod.mk.injEq] at hx
    obtain ⟨hs, rfl⟩ := hx
    obtain ⟨j', rfl⟩ := tmJc_back hs
    exact ⟨j', .last hev (by simp)⟩
  | d + 1, i, hi, j => by
    have hlt : i < N := by omega
    obtain ⟨g, _, g2, g3, _⟩ := mag_two (hB i).l (hB i).h
    obtain ⟨h, hh⟩ := Classical.axiomOfChoice (fun k : Nat => mag_two (hA i k).l (hA i k).h)
    obtain ⟨c', hcc, hrd⟩ := rdJc h1 h3 hlt (fun k => if ix g < ix 4787326403894837248 then (if ix (h k) < ix 4787326403894837248 then 2 else 1) else 0) (fun k => by
      show (if _ then (if _ then 2 else 1) else 0 : Nat) ≤ 2
      split
      · split <;> decide
      · decide)
    obtain ⟨tm', H', hx, hev⟩ := rnd_part (g := fun tm H => (slJc tm, H)) (hrd b1 b2 b3 M cu O r T j g h) (okApp (okApp ⟨cmp_ok (decide_eq_true hlt), trivial⟩ (each_ok _ _ fun k hk => soJc_ok g2 g3 (fun k => ⟨(hh k).2.1, (hh k).2.2.1⟩) (fun k hk => hT i k hlt hk) (fun k => rfl) hcc (List.mem_range.1 hk))) ⟨cmp_ok (decide_eq_false (by omega)), trivial⟩)
    simp only [Prod.mk.injEq] at hx
    obtain ⟨hs, rfl⟩ := hx
    obtain ⟨j1, rfl⟩ := tmJc_back hs
    obtain ⟨j', ht⟩ := jc_rds h1 h3 hT hB hA d (i + 1) (by omega) j1
    exact ⟨j', .next hev ht⟩

theorem jh_run {N lm lw : Nat} (h1 : 1 ≤ N) (h2 : N ≤ 3) (h3 : lm ≤ N) (h4 : lw ≤ N) : JhRun N lm lw := by
  have : N = 1 ∨ N = 2 ∨ N = 3 := by omega
  rcases this with rfl | rfl | rfl
  · exact jhA_1 lm lw h3 h4
  · exact jhA_2 lm lw h3 h4
  · exact jhA_3 lm lw h3 h4
theorem knownJh : Runs Try.prog 12 #[] #[] (.bool true) #[] := by
  have h : (askN noF noC 12 12 #[] #[] []).map (fun r => (r.1, r.2.2)) = some (.bool true, []) := by kernel_rfl
  obtain ⟨H', h⟩ := tells_of h trivial
  exact h.quiet rfl rfl #[]
theorem wi4_ok (z : Int) {n : Nat} (h1 : 1 ≤ n) (h2 : n < 1000) : (wiOh z n (z % (n : Int))).ok Try.prog := by
  obtain ⟨k, rfl⟩ : ∃ k, n = k + 1 := ⟨n - 1, by omega⟩
  exact within4 z k (by omega)
def mkRnJh (k w : Int) (pk pw : Addr) : RnJh := ⟨pk, k, pw, w, k % 5, wr (k % 5 - 2), Fz (wr (k % 5 - 2)), w % 3, Fz (w % 3), wr (w.tdiv 3), wr (w.tdiv 3) % 3, Fz (wr (w.tdiv 3) % 3)⟩
theorem jh_in (k w : Int) (pk pw : Addr) (r : Nat → RnJh) {i : Nat} (hr : r i = mkRnJh k w pk pw) : Sz (r i).fs (bx 0) ∧ NIn (r i).fs (bHo r i) := by
  have e1 := emod_bd k (m := 5) (by decide)
  have e2 := emod_bd w (m := 3) (by decide)
  have e3 := emod_bd (wr (w.tdiv 3)) (m := 3) (by decide)
  have es : wr (k % 5 - 2) = k % 5 - 2 := wr_id (by omega) (by omega)
  unfold bHo
  rw [hr]
  simp only [mkRnJh, es]
  generalize k % 5 = a at *
  generalize w % 3 = b at *
  generalize wr (w.tdiv 3) % 3 = c at *
  have d0 := dyF3 (n := a - 2) (by omega)
  have d1 := d0.sub (dyF3 (n := b) (by omega)) (by omega) (by omega)
  have d2 := d0.add (dyF3 (n := c) (by omega)) (by omega) (by omega)
  have a1 := d1.le d0 (by omega)
  have a2 := d0.le d2 (by omega)
  have hb : -4616189618054758400 ≤ ix (Fz (a - 2)) ∧ ix (Fz (a - 2)) ≤ 4616189618054758400 := by
    have : a = 0 ∨ a = 1 ∨ a = 2 ∨ a = 3 ∨ a = 4 := by omega
    rcases this with rfl | rfl | rfl | rfl | rfl <;> exact ⟨by decide +kernel, by decide +kernel⟩
  have q1 : ix (bx 0).1 = -4616189618054758400 := by decide +kernel
  have q2 : ix (bx 0).2 = 4616189618054758400 := by decide +kernel
  exact ⟨⟨d0.fi, ⟨by rw [q1]; exact hb.1, by rw [q2]; exact hb.2⟩⟩, .inl d0.fi.nn, rs_fi d1.fi d2.fi (Int.le_trans a1 a2), fun _ => ⟨a1, a2⟩⟩
theorem grHo_last {N : Nat} (h1 : 1 ≤ N) (h2 : N ≤ 3) (r : Nat → RnJh) : (grHo N r).length = 4 * N ∧ (grHo N r)[4 * N - 3]? = some (nwF ((List.range N).map fun i => (r i).fs)) ∧ (grHo N r)[4 * N - 1]? = some (nwPj ((List.range N).map (bHo r))) := by
  have : N = 1 ∨ N = 2 ∨ N = 3 := by omega
  rcases this with rfl | rfl | rfl <;> exact ⟨rfl, rfl, rfl⟩
/-- Every operation's number may be floored. -/
theorem jh_floor (n : Int) (zs : List Int) {k : Nat} (hk : k < mkM n zs) : FlOK (tmkO n zs false k).C := by
  by_cases h0 : (tmkO n zs false k).K = 0
  · exact mk_floor n zs false hk h0
  · have e : (tmkO n zs false k).C = 0 := by
      by_cases h1 : k < mkN n
      · have e : tmkO n zs false k = ⟨1, Int.ofNat k, 0, 0⟩ := by unfold tmkO Omk; rw [if_pos h1]
        rw [e]
      by_cases h2 : k = mkN n
      · exact absurd (by unfold tmkO Omk; rw [if_neg h1, if_pos h2]) h0
      · obtain ⟨i, rfl⟩ : ∃ i, k = mkN n + 1 + i := ⟨k - (mkN n + 1), by omega⟩
        have hi : i < 8 ∧ i < zs.length := by unfold mkM mkL at hk; omega
        rw [mkO_at (List.getElem?_eq_getElem hi.2) hi.1] at h0 ⊢
        generalize zs[i] = z at *
        unfold mkOp RnK.op at h0 ⊢
        by_cases h : decide (z % 11 = 0) = true
        · rw [h] at h0
          exact absurd rfl h0
        · rw [Bool.not_eq_true] at h
          rw [h]
          rfl
    rw [e]
    have h := fl8_0
    rw [show fop .quo .f64 (Fz 0) 4620693217682128896 = 0 by decide +kernel] at h
    exact h
theorem e8_rs : Rs e8 := rs_fi ⟨by decide +kernel, by decide +kernel, by decide +kernel⟩ ⟨by decide +kernel, by decide +kernel, by decide +kernel⟩ (by decide +kernel)
theorem e8_in : NIn 0 e8 := ⟨.inl fi_zero.1.nn, e8_rs, fun _ => ⟨by decide +kernel, by decide +kernel⟩⟩

set_option maxHeartbeats 8000000 in
theorem jacHolds_three {o o2 o3 : Option ABlk} {va vb vc : Value} {zs ms rs : List Int} (ha : Handed #[o, o2, o3] zs va) (hb : Handed #[o, o2, o3] ms vb) (hc : Handed #[o, o2, o3] rs vc) (n : Int) :
    Tells 9 #[.int .i64 n, va, vb, vc] #[o, o2, o3] (.bool true) := by
  obtain ⟨n1, n2⟩ := mkN_le n
  obtain ⟨m1, m2⟩ := mkM_le n zs
  have hM9 : mkM n zs ≤ mkN n + 9 := by unfold mkM mkL; omega
  -- floors
  have hF : ∀ i, ∃ f : Nat, i < mkM n zs → Runs Try.prog 27 #[.float .f64 (tmkO n zs false i).C] #[] (.float .f64 f) #[] ∧ Fi f ∧ -4616189618054758400 ≤ ix f ∧ ix f ≤ 4616189618054758400 := by
    intro i
    by_cases h : i < mkM n zs
    · obtain ⟨f, hf⟩ := jh_floor n zs h
      exact ⟨f, fun _ => hf⟩
    · exact ⟨0, fun a => absurd a h⟩
  obtain ⟨fl, hfl⟩ := Classical.axiomOfChoice hF
  -- what was handed in
  obtain ⟨am, cm, rfl⟩ := hb.parts
  obtain ⟨aw, cw, rfl⟩ := hc.parts
  have hP : ∀ {xs : List Int} {a : Option Addr} {c : Nat}, Handed #[o, o2, o3] xs (.slice a xs.length c) → ∀ i, ∃ p : Addr, i < xs.length → indexAddrV Try.prog 22 (.slice a xs.length c) (.int .i64 (Int.ofNat i)) = some (.pointer (some p)) ∧ ∀ c : AHeap, readVar Try.prog (#[o, o2, o3] ++ c) 3 p = some (.int .i64 (xs.getD i 0)) := by
    intro xs a c hh i
    by_cases h : i < xs.length
    · obtain ⟨p, h1, h2⟩ := hh.get h
      exact ⟨p, fun _ => ⟨h1, h2⟩⟩
    · exact ⟨⟨0, 0, none⟩, fun h' => absurd h' h⟩
  obtain ⟨pm, hpm⟩ := Classical.axiomOfChoice (hP hb)
  obtain ⟨pw, hpw⟩ := Classical.axiomOfChoice (hP hc)
  obtain ⟨r, hr⟩ : ∃ r : Nat → RnJh, r = fun i => mkRnJh (ms.getD i (Int.ofNat i)) (rs.getD i 0) (pm i) (pw i) := ⟨_, rfl⟩
  have hri : ∀ i, r i = mkRnJh (ms.getD i (Int.ofNat i)) (rs.getD i 0) (pm i) (pw i) := fun i => by rw [hr]
  clear hr
  have hin := fun i => jh_in _ _ _ _ r (hri i)
  -- the field
  obtain ⟨O', hO'⟩ : ∃ O' : Nat → OpD, O' = flO (tmkO n zs false) fl (mkM n zs) := ⟨_, rfl⟩
  have hK : ∀ i, i < mkM n zs → O' i = flJ (fl i) (tmkO n zs false i) := fun i hi => by rw [hO']; unfold flO; rw [if_pos hi]
  obtain ⟨ops, hops⟩ : ∃ ops, ops = (List.range (mkM n zs)).map O' := ⟨_, rfl⟩
  have hlen : ops.length = mkM n zs := by rw [hops]; simp
  have hget : ∀ k q, ops[k]? = some q → k < mkM n zs ∧ q = flJ (fl k) (tmkO n zs false k) := by
    intro k q h
    have hk : k < mkM n zs := by have := (List.getElem?_eq_some_iff.1 h).1; omega
    rw [hops, List.getElem?_map, List.getElem?_range hk, Option.map_some] at h
    injection h with h
    exact ⟨hk, h.symm.trans (hK k hk)⟩
  have hmk : ∀ k, k < mkM n zs → (mkOps n zs false)[k]? = some (tmkO n zs false k) := fun k hk => by
    unfold mkOps
    rw [List.getElem?_map, List.getElem?_range hk]; rfl
  have hok : ∀ k q, ops[k]? = some q → opOkD k (mkN n) q := by
    intro k q h
    obtain ⟨hk, rfl⟩ := hget k q h
    exact opOkD_of (mk_ok n zs false k _ (hmk k hk)) rfl rfl rfl
  have h5 : ∀ k q, ops[k]? = some q → q.K ≤ 4 ∧ (2 ≤ q.K → mkN n < k) := by
    intro k q h
    obtain ⟨hk, rfl⟩ := hget k q h
    exact mk_no5 n zs hk
  have q1 : ix (bx 0).1 = -4616189618054758400 := by decide +kernel
  have q2 : ix (bx 0).2 = 4616189618054758400 := by decide +kernel
  have hcc : ∀ q ∈ ops, q.K = 0 → Sz q.C (bx 0) := by
    intro q hq h0
    obtain ⟨k, hk⟩ := List.getElem?_of_mem hq
    obtain ⟨hkM, rfl⟩ := hget k q hk
    have hf := hfl k hkM
    exact ⟨hf.2.1, ⟨by rw [q1]; exact hf.2.2.1, by rw [q2]; exact hf.2.2.2⟩⟩
  have hcf : ∀ q ∈ ops, q.K = 0 → Fi q.C := fun q hq h0 => (hcc q hq h0).fi
  have b0 : Sz 0 (bx 0) := ⟨fi_zero.1, ⟨by rw [q1]; decide, by rw [q2]; decide⟩⟩
  -- what it tells
  have hUb := fun i => mkU_bd n (M := mkM n zs) m1 (by omega) i
  obtain ⟨out, hout⟩ : ∃ out, out = mkOut n (mkM n zs) := ⟨_, rfl⟩
  have hol : out.length = mkN n := by rw [hout]; exact mkOut_len _ _
  have hou : ∀ u ∈ out, 0 ≤ u ∧ u < ops.length := by
    intro u hu
    rw [hout] at hu
    obtain ⟨i, _, rfl⟩ := List.mem_map.1 hu
    rw [hlen]
    exact hUb i
  have hog : ∀ i, (out.getD i 0).toNat < ops.length := by
    intro i
    rw [List.getD_eq_getElem?_getD]
    cases hg : out[i]? with
    | none => show (0 : Int).toNat < _; rw [hlen]; show 0 < _; omega
    | some u =>
      have := hou u (List.mem_of_getElem? hg)
      show u.toNat < _
      omega
  let xs : List Nat := (List.range (mkN n)).map fun i => (r i).fs
  let Xs : List P2 := (List.range (mkN n)).map (bHo r)
  let X8 : List P2 := List.replicate (mkN n) e8
  have hxs : ∀ i, Sz (xs.getD i 0) (bx 0) := get2 (Q := fun x => Sz x (bx 0)) _ _ b0 fun i _ => (hin i).1
  have hxX : ∀ i, NIn (xs.getD i 0) (Xs.getD i (0, 0)) := by
    intro i
    show NIn (((List.range (mkN n)).map fun i => (r i).fs).getD i 0) (((List.range (mkN n)).map (bHo r)).getD i (0, 0))
    simp only [List.getD_eq_getElem?_getD, List.getElem?_map]
    by_cases c : i < mkN n
    · rw [List.getElem?_range c]; exact (hin i).2
    · rw [List.getElem?_eq_none (l := List.range (mkN n)) (by simp; omega)]; exact nIn_pt fi_zero.1
  have hx8 : ∀ i, NIn ((List.replicate (mkN n) 0).getD i 0) (X8.getD i (0, 0)) := by
    intro i
    show NIn ((List.replicate (mkN n) 0).getD i 0) ((List.replicate (mkN n) e8).getD i (0, 0))
    simp only [List.getD_eq_getElem?_getD, List.getElem?_replicate]
    split
    · exact e8_in
    · exact nIn_zero
  have dI := fun k => regD_in (xs := xs) (Xs := Xs) hcf hxX k
  have d8 := fun k => regD_in (xs := List.replicate (mkN n) 0) (Xs := X8) hcf hx8 k
  have dB := fun k (hk : k < ops.length) => regD_bd (xs := xs) hok h5 (by rw [hlen]; exact hM9) hcc hxs (k + 1) k (Nat.lt_succ_self _) hk
  obtain ⟨T, hT⟩ : ∃ T : TbJh, T = ⟨rwD ops xs out, rwDI ops Xs out, fun i => regP ops X8 (mkU n (mkM n zs) i).toNat, rwDI ops X8 out⟩ := ⟨_, rfl⟩
  have tR : T.R = rwD ops xs out := by rw [hT]
  have tRI : T.RI = rwDI ops Xs out := by rw [hT]
  have tB : T.B = fun i => regP ops X8 (mkU n (mkM n zs) i).toNat := by rw [hT]
  have tA : T.A = rwDI ops X8 out := by rw [hT]
  clear hT
  have cin : ∀ i k, i < mkN n → k < mkN n → Runs Try.prog 21 #[.float .f64 (T.R i k), vI (T.RI i k)] #[] (.bool true) #[] := by
    intro i k _ _
    rw [tR, tRI]
    have nn := ((dB _ (hog i)).2 k).fi.nn
    have s := (dI (out.getD i 0).toNat).s k
    exact in_yesT nn s.rs.rt (s.is nn)
  have cB : ∀ i, Rt (T.B i) := by
    intro i
    rw [tB]
    show Rt (regP ops X8 _)
    rw [← regDI_fst]
    exact (d8 _).v.rs.rt
  have cA : ∀ i k, Rt (T.A i k) := by
    intro i k
    rw [tA]
    exact ((d8 _).s k).rs.rt
  -- the run
  have hrun := jh_run (N := mkN n) (lm := min (mkN n) ms.length) (lw := min (mkN n) rs.length) n1 n2 (by omega) (by omega)
  have hO0 : flO (tmkO n zs false) fl 0 = tmkO n zs false := by
    funext i
    unfold flO
    rw [if_neg (by omega)]
  obtain ⟨j', hR⟩ := jh_rds (M := mkM n zs) m1 m2 (b1 := o) (b2 := o2) (b3 := o3) (n := n) (va := va) (vb := .slice am ms.length cm) (vc := .slice aw rs.length cw) (N := mkN n) (cu := (intB out true).cells) (O := tmkO n zs false) (fl := fl)
    (fun i hi => (hfl i hi).1) (mkM n zs) 0 (by omega) (j0Jh n va (.slice am ms.length cm) (.slice aw rs.length cw) (mkN n) (mkM n zs))
  rw [hO0, ← hO'] at hR
  obtain ⟨hs3, run⟩ := hrun o o2 o3 n va am aw ms.length cm rs.length cw (mkM n zs) (intB out true).cells (tmkO n zs false) O' j' r T
  obtain ⟨j3, e3'⟩ := tmJc_back hs3
  obtain ⟨j4, hR2⟩ := jc_rds (N := mkN n) n1 n2 (b1 := o) (b2 := o2) (b3 := o3) (M := mkM n zs) (cu := (intB out true).cells) (O := O') (r := r) (T := T) cin cB cA (mkN n) 0 (by omega) j3
  have run := run j4
  simp only [Option.map_eq_some_iff] at run
  obtain ⟨⟨v1, H1, l1, lo1⟩, hx1, hx2⟩ := run
  simp only [Prod.mk.injEq] at hx2
  obtain ⟨rfl, rfl, rfl⟩ := hx2
  refine ⟨H1, askT_runs hx1 ?_ (fun x hx => ?_)⟩
  case refine_2 =>
    simp only [List.mem_cons, List.not_mem_nil, or_false] at hx
    rcases hx with rfl | rfl
    · exact hR
    · rw [e3']
      exact hR2
  have hh := fun (c : List (Option ABlk)) {zs : List Int} {v : Value} (h : Handed [o, o2, o3].toArray zs v) => h.list c
  have e3 : ∀ rest : List (Option ABlk), (o :: o2 :: o3 :: rest).toArray = #[o, o2, o3] ++ rest.toArray := fun rest => by
    apply Array.ext'
    simp
  have ec : ∀ O : Nat → OpD, ((List.range (mkM n zs)).flatMap fun i => opC (O i)).toArray = (opsB ((List.range (mkM n zs)).map O) true).cells := fun O => congrArg List.toArray (flat_range (f := opC) O (mkM n zs))
  have eops : opsH (mkM n zs) O' = opB (opsB ops true).cells := by rw [hops]; unfold opsH; rw [ec]
  unfold lgJh
  refine okApp (okApp ⟨knownJh, ?_, trivial⟩ (each_ok _ _ fun i hi => ?_)) ?_
  · have := make_rn (l := [o, o2, o3]) n false (hh [] ha) (N := mkN n) (M := mkM n zs) (s := 3) rfl rfl rfl
    have e : opsH (mkM n zs) (tmkO n zs false) = opB (opsB (mkOps n zs false) true).cells := by unfold opsH; rw [ec]; rfl
    rw [e, hout]
    exact this
  · have hin' := List.mem_range.1 hi
    have ek : (if i < min (mkN n) ms.length then (r i).k else Int.ofNat i) = ms.getD i (Int.ofNat i) := by
      rw [hri]
      split
      · rfl
      · rw [List.getD_eq_getElem?_getD, List.getElem?_eq_none (by omega)]; rfl
    have ew : (if i < min (mkN n) rs.length then (r i).w else 0) = rs.getD i 0 := by
      rw [hri]
      split
      · rfl
      · rw [List.getD_eq_getElem?_getD, List.getElem?_eq_none (by omega)]; rfl
    unfold soHo
    rw [ek, ew]
    have g1 : (r i).k = ms.getD i (Int.ofNat i) ∧ (r i).w = rs.getD i 0 ∧ (r i).pk = pm i ∧ (r i).pw = pw i := by rw [hri]; exact ⟨rfl, rfl, rfl, rfl⟩
    have hread : ∀ {xs : List Int} {p : Addr} {d : Int}, i < xs.length → (∀ c : AHeap, readVar Try.prog (#[o, o2, o3] ++ c) 3 p = some (.int .i64 (xs.getD i 0))) → readVar Try.prog (hpHo o o2 o3 (mkN n) (mkM n zs) (intB out true).cells O' r i).toArray 3 p = some (.int .i64 (xs.getD i d)) := by
      intro xs p d hx h
      have := h ([opsH (mkM n zs) O', iB (intB out true).cells, tcB 3 (mkN n) (mkM n zs)] ++ grHo i r).toArray
      rw [← e3] at this
      have ex : xs.getD i d = xs.getD i 0 := by
        rw [List.getD_eq_getElem?_getD, List.getD_eq_getElem?_getD, List.getElem?_eq_getElem hx]; rfl
      rw [ex]
      exact this
    refine okApp (okApp (okApp ⟨cmp_ok (decide_eq_true hin'), trivial⟩ ?_) ?_) ?_
    · by_cases hlt : i < min (mkN n) ms.length
      · rw [if_pos hlt, g1.1, g1.2.2.1]
        obtain ⟨p1, p2⟩ := hpm i (by omega)
        exact ⟨cmp_ok (decide_eq_true (by omega)), p1, hread (by omega) p2, trivial⟩
      · rw [if_neg hlt]
        exact ⟨cmp_ok (decide_eq_false (by omega)), trivial⟩
    · by_cases hlt : i < min (mkN n) rs.length
      · rw [if_pos hlt, g1.2.1, g1.2.2.2]
        obtain ⟨p1, p2⟩ := hpw i (by omega)
        exact ⟨cmp_ok (decide_eq_true (by omega)), p1, hread (by omega) p2, trivial⟩
      · rw [if_neg hlt]
        exact ⟨cmp_ok (decide_eq_false (by omega)), trivial⟩
    · rw [hri]
      exact ⟨wi4_ok _ (n := 5) (by omega) (by omega), ar_sub _ _, cv_ok _, wi4_ok _ (n := 3) (by omega) (by omega), cv_ok _, ar_quo3 _, wi4_ok _ (n := 3) (by omega) (by omega), cv_ok _, trivial⟩
  · obtain ⟨g1, g2, g3⟩ := grHo_last n1 n2 r
    have hlenH : (hpHo o o2 o3 (mkN n) (mkM n zs) (intB out true).cells O' r (mkN n)).length = 6 + 4 * mkN n := by
      unfold hpHo
      rw [List.length_append, g1]
      show 6 + _ = _
      rfl
    have hat : ∀ k, (hpHo o o2 o3 (mkN n) (mkM n zs) (intB out true).cells O' r (mkN n))[6 + k]? = (grHo (mkN n) r)[k]? := by
      intro k
      unfold hpHo
      rw [List.getElem?_append_right (by simp [hpH])]
      show (grHo (mkN n) r)[6 + k - 6]? = _
      rw [Nat.add_sub_cancel_left]
    have hA := hat (4 * mkN n - 3)
    have hB := hat (4 * mkN n - 1)
    rw [g2, show 6 + (4 * mkN n - 3) = 4 * mkN n + 3 by omega] at hA
    rw [g3, show 6 + (4 * mkN n - 1) = 4 * mkN n + 5 by omega] at hB
    clear hat
    have q3 : (hpHo o o2 o3 (mkN n) (mkM n zs) (intB out true).cells O' r (mkN n))[3]? = some (opB (opsB ops true).cells) := by rw [← eops]; rfl
    have q4 : (hpHo o o2 o3 (mkN n) (mkM n zs) (intB out true).cells O' r (mkN n))[4]? = some (iB (intB out true).cells) := rfl
    have ap : ∀ {H : List (Option ABlk)} {i : Nat} {x : Option ABlk} (c : List (Option ABlk)), H[i]? = some x → (H ++ c)[i]? = some x := by
      intro H i x c h
      rw [List.getElem?_append_left (List.getElem?_eq_some_iff.1 h).1]; exact h
    have atE : ∀ {H : List (Option ABlk)} {i : Nat} {x : Option ABlk} {c : List (Option ABlk)}, i = H.length → (H ++ x :: c)[i]? = some x := by
      intro H i x c h
      subst h
      rw [List.getElem?_append_right (Nat.le_refl _), Nat.sub_self]
      rfl
    have L1 : (hpJ1 o o2 o3 (mkN n) (mkM n zs) (intB out true).cells O' r T).length = s0J (mkN n) + mkN n + 1 := by
      unfold hpJ1
      rw [List.length_append, hlenH, tab_len]
      unfold s0J
      omega
    have L2' : (hpJ1 o o2 o3 (mkN n) (mkM n zs) (intB out true).cells O' r T ++ tabJI (s0J (mkN n) + mkN n + 1) (mkN n) T.RI).length = s0J (mkN n) + 2 * mkN n + 2 := by
      rw [List.length_append, L1, tab_lenI]
      omega
    have L2 : (hpJ2 o o2 o3 (mkN n) (mkM n zs) (intB out true).cells O' r T).length = s0J (mkN n) + 2 * mkN n + 3 := by
      unfold hpJ2
      rw [List.length_append, L2']
      rfl
    have L3' : (hpJ2 o o2 o3 (mkN n) (mkM n zs) (intB out true).cells O' r T ++ [nwPj ((List.range (mkN n)).map T.B)]).length = s0J (mkN n) + 2 * mkN n + 4 := by
      rw [List.length_append, L2]
      rfl
    have L3 : (hpJ3 o o2 o3 (mkN n) (mkM n zs) (intB out true).cells O' r T).length = s0J (mkN n) + 2 * mkN n + 5 := by
      unfold hpJ3
      rw [List.length_append, L2]
      rfl
    have p3 := ap (tabJ (s0J (mkN n)) (mkN n) T.R) q3
    have p4 := ap (tabJ (s0J (mkN n)) (mkN n) T.R) q4
    have pB := ap (tabJ (s0J (mkN n)) (mkN n) T.R) hB
    have r3 : (hpJ2 o o2 o3 (mkN n) (mkM n zs) (intB out true).cells O' r T)[3]? = _ := ap [litB] (ap (tabJI (s0J (mkN n) + mkN n + 1) (mkN n) T.RI) p3)
    have r4 : (hpJ2 o o2 o3 (mkN n) (mkM n zs) (intB out true).cells O' r T)[4]? = _ := ap [litB] (ap (tabJI (s0J (mkN n) + mkN n + 1) (mkN n) T.RI) p4)
    have hr1 : ∀ k, Rt (regDI ops Xs k).1 := fun k => (dI k).v.rs.rt
    have hr8 : ∀ k, Rt (regDI ops X8 k).1 := fun k => (d8 k).v.rs.rt
    have hr8' : ∀ k, Rt (regP ops X8 k) := fun k => by rw [← regDI_fst]; exact hr8 k
    have c1 := jacAny_rn (l := hpHo o o2 o3 (mkN n) (mkM n zs) (intB out true).cells O' r (mkN n)) (xs := xs) (bo := 3) (bu := 4) (bx := 4 * mkN n + 3) (s := s0J (mkN n)) hok (by simp [xs]) hol hou n1 (by omega) hlen (by omega) m1 q3 q4 hA (by decide) (by omega) (by omega) hlenH.symm
    have c2 := jacAnyI_rn (l := hpJ1 o o2 o3 (mkN n) (mkM n zs) (intB out true).cells O' r T) (xs := Xs) (bo := 3) (bu := 4) (bx := 4 * mkN n + 5) (s := s0J (mkN n) + mkN n + 1) hr1 hok (by simp [Xs]) hol hou n1 (by omega) hlen (by omega) m1 p3 p4 pB (by decide) (by omega) (by omega) L1.symm
    have c3 := refEv_rn (l := hpJ2 o o2 o3 (mkN n) (mkM n zs) (intB out true).cells O' r T) (bo := 3) (bu := 4) (bx := s0J (mkN n) + 2 * mkN n + 2) (s := s0J (mkN n) + 2 * mkN n + 3) hlen m1 (by omega) n1 n2 hol hok hou hr8' r3 r4 (by unfold hpJ2; exact atE L2'.symm) (by unfold s0J; omega) (by unfold s0J; omega) L2.symm
    have c4 := refJac_rn (l := hpJ3 o o2 o3 (mkN n) (mkM n zs) (intB out true).cells O' r T) (bo := 3) (bu := 4) (bx := s0J (mkN n) + 2 * mkN n + 4) (s := s0J (mkN n) + 2 * mkN n + 5) hlen m1 m2 n1 n2 hol hok hou hr8 (ap _ r3) (ap _ r4) (by
      unfold hpJ3
      rw [show hpJ2 o o2 o3 (mkN n) (mkM n zs) (intB out true).cells O' r T ++ [nwPj ((List.range (mkN n)).map T.B), litB] = (hpJ2 o o2 o3 (mkN n) (mkM n zs) (intB out true).cells O' r T ++ [nwPj ((List.range (mkN n)).map T.B)]) ++ [litB] by simp]
      exact atE L3'.symm) (by decide) (by unfold s0J; omega) (by unfold s0J; omega) L3.symm
    have eB : evOut (regP ops (List.replicate (mkN n) e8)) out = (List.range (mkN n)).map T.B := by
      rw [tB, hout]
      exact evOut_range _ _ _
    rw [eB] at c3
    rw [← tR] at c1
    rw [← tRI, show s0J (mkN n) + mkN n + 1 + mkN n = s0J (mkN n) + 2 * mkN n + 1 by omega] at c2
    rw [show rwDI ops (List.replicate (mkN n) e8) out = T.A from tA.symm, show s0J (mkN n) + 2 * mkN n + 5 + mkN n = s0J (mkN n) + 3 * mkN n + 5 by omega] at c4
    exact ⟨cmp_ok (decide_eq_false (by omega)), c1, c2, c3, c4, trivial⟩

end Go.Proofs.Ytdlinjijccnaeaa
