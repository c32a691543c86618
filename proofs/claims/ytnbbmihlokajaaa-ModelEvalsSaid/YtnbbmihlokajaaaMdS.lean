/- The document's Eval of Models: its contract. -/
import Derived.Test.YtnbbmihlokajaaaMdR
namespace Go.Proofs.Ytnbbmihlokajaaa
open Go
set_option linter.unusedVariables false
set_option linter.unusedSimpArgs false
set_option maxRecDepth 100000

theorem two_rn {K : Int} (h2 : 2 ≤ K) (h5 : K ≤ 5) (u : Nat → P2) {w : Nat → P2} (hw : AllN w) : (qtO 73 #[.int .i64 K, mW u, mW w] (mW (opMd K u w))).ok Try.prog := by
  have fin : ∀ {K : Int}, TwRun K → (qtO (opFR K) #[mW u, mW w] (mW (opMd K u w))).ok Try.prog → (qtO 73 #[.int .i64 K, mW u, mW w] (mW (opMd K u w))).ok Try.prog := by
    intro K h ho
    obtain ⟨H', r⟩ := tells_of (h u w _) ⟨ho, trivial⟩
    exact r.quiet rfl rfl #[]
  have : K = 2 ∨ K = 3 ∨ K = 4 ∨ K = 5 := by omega
  rcases this with rfl | rfl | rfl | rfl
  · exact fin twRun_2 (addR_runs u w)
  · exact fin twRun_3 (subR_runs u w)
  · exact fin twRun_4 (mulR_runs u w)
  · exact fin twRun_5 (quoR_runs u (hw 0 (by decide)).1 (hw 0 (by decide)).2)
theorem ofR1_rn {l : List (Option ABlk)} {S C : Nat} (h : l[S]? = some (fB1 C)) : (rnO 26 #[.slice (some ⟨S, 0, none⟩) 1 1] l (mW (ofM [C])) []).ok Try.prog := by
  have hh : HandV (froze l.toArray) ([C].map fV) (.slice (some ⟨S, 0, none⟩) 1 1) := .inr ⟨S, _, by simp, rfl, fz_at h, rfl⟩
  obtain ⟨bs, hof⟩ := ofR_at [C] (show (1 : Nat) ≤ 9 by decide)
  have := read_v (ex := []) fV_cl (fun u h => by cases h) hof rfl (froze_all l.toArray) hh
  show Runs _ _ _ _ _ (_ ++ #[])
  rw [Array.append_empty]
  exact this
theorem rdRmB {K : Int} (h2 : 2 ≤ K) (h5 : K ≤ 5) : RdRmB K := by
  have : K = 2 ∨ K = 3 ∨ K = 4 ∨ K = 5 := by omega
  rcases this with rfl | rfl | rfl | rfl
  · exact rdRmB_2
  · exact rdRmB_3
  · exact rdRmB_4
  · exact rdRmB_5
section
variable {b0 b1 b2 : Option ABlk} {N : Nat} {ops : List OpD} {out : List Int} {xs : List (Nat → P2)}
theorem entRm (p0 : PlO b0) (p1 : PlO b1) (p2 : PlO b2) (N M : Nat) (k : Int) (l : List (Nat → P2)) :
    EntOK 3 KRm [0, 1, 2, 3, 4] (outRm b0 b1 b2 N M (.slice (some ⟨2, 0, none⟩) N N) k l) (tmA 81 (LRm (.slice (some ⟨2, 0, none⟩) N N) M k)) (HRm b0 b1 b2 N M l).toArray := by
  refine entOK (H2 := HRm b0 b1 b2 N M l) rfl rfl (by decide) ?_ ?_
  · exact .cons (.slice 2 2 0 none _ _ _ (show (2 : Nat) < 5 by decide) rfl) (.cons (.ptr 3 3 0 none (show (3 : Nat) < 5 by decide) rfl) (.cons (.slice 4 4 0 none _ _ _ (show (4 : Nat) < 5 by decide) rfl) (.cons (.clos rfl) .nil)))
  · exact relBs_pl p0 (relBs_pl p1 (relBs_pl p2 (tbE_rel (show (3 : Nat) ≤ 5 by decide) rfl rfl N M (relBs_own (mB_cl l) .nil))))
theorem reg_okR {A : Int} {k M : Nat} {F : Nat → Nat → P2} (h0 : 0 ≤ A) (h1 : A < k) (hk : k ≤ M) (N : Nat) (c : List (Option ABlk)) : okAll Try.prog (lgMr (HRm b0 b1 b2 N M (rL zM F M k) ++ c) (.slice (some ⟨4, 0, none⟩) M M) A ⟨4, A.toNat * 20, none⟩ (F A.toNat)) := by
  refine ⟨ixM h0 (by omega) rfl, rdM (B := ⟨((rL zM F M k).flatMap mC).toArray, 29, 20, true⟩) (l := rL zM F M k) (k := A.toNat) rfl rfl (rL_get zM F (by omega) (by omega)) rfl, trivial⟩
/-- What is written. -/
theorem wr_ok {k M : Nat} (hk : k < M) (hM : M < 1000000) {F : Nat → Nat → P2} {v : Nat → P2} (hv : F k = v) (b0 b1 b2 : Option ABlk) (N : Nat) (c : List (Option ABlk)) :
    okAll Try.prog (lgRw (HRm b0 b1 b2 N M (rL zM F M k) ++ c) (HRm b0 b1 b2 N M (rL zM F M (k + 1)) ++ c) M (k : Nat) ((k + 1 : Nat) : Int) ⟨4, k * 20, none⟩ v) := by
  refine ⟨ixM (by omega) (by omega) (by simp), ?_, addK k (by omega), trivial⟩
  obtain ⟨i, hi, hz⟩ := sizeB_ex sz_md
  subst hv
  refine (wr_at (f := mC) (n := 20) (fun _ => rfl) hi hz (H := (HRm b0 b1 b2 N M (rL zM F M k) ++ c).toArray) (b := 4) (k := k) (B := ⟨((rL zM F M k).flatMap mC).toArray, 29, 20, true⟩) (l := rL zM F M k) (a := F k) rfl rfl rfl rfl rfl (by rw [rL_len]; exact hk) rfl).trans ?_
  rw [rL_set zM F M k hk]
  congr 1
theorem EvM.roundR (h : EvM b0 b1 b2 N ops out xs) (p0 : PlO b0) (p1 : PlO b1) (p2 : PlO b2) (hr : ∀ k, AllN (regM ops xs k)) {k : Nat} {o : OpD} (ho : ops[k]? = some o) (hM : ops.length < 1000) :
    CodeB Try.prog 3 bodyRm (tmA 81 (LRm (.slice (some ⟨2, 0, none⟩) N N) ops.length (k : Nat))) (HRm b0 b1 b2 N ops.length (rL zM (regM ops xs) ops.length k)).toArray
      (.normal, tmA 81 (LRm (.slice (some ⟨2, 0, none⟩) N N) ops.length ((k + 1 : Nat) : Int)), (HRm b0 b1 b2 N ops.length (rL zM (regM ops xs) ops.length (k + 1))).toArray) := by
  have hk : k < ops.length := (List.getElem?_eq_some_iff.1 ho).1
  have hok := h.ok k o ho
  have hF : regM ops xs k = stepT (fun c => ofM [c]) opMd (fun i => xs.getD i zM) (regM ops xs) o := regT_at ho hok
  unfold stepT at hF
  have hd := h.head ho (H := HRm b0 b1 b2 N ops.length (rL zM (regM ops xs) ops.length k)) rfl
  have hw := fun c => wr_ok hk (by omega) (F := regM ops xs) rfl b0 b1 b2 N c
  rcases hok with c0 | ⟨c1, hA0, hA1⟩ | ⟨c2, c5, a0, a1, q0, q1⟩
  · rw [if_pos c0] at hF
    rw [c0] at hd
    have r := rdRmC b0 b1 b2 N ops.length (.slice (some ⟨2, 0, none⟩) N N) (k : Nat) ((k + 1 : Nat) : Int) (rL zM (regM ops xs) ops.length k) (rL zM (regM ops xs) ops.length (k + 1)) o.A o.B o.C ⟨0, k * 4, none⟩ ⟨4, k * 20, none⟩ (regM ops xs k)
    refine rndB_to r okRm (okApp' (okApp' hd ⟨?_, trivial⟩) (hw _)) (entRm p0 p1 p2 N ops.length _ _)
    rw [hF]
    exact ofR1_rn rfl
  · rw [if_neg (by omega), if_pos c1] at hF
    rw [c1] at hd
    have r := rdRmV b0 b1 b2 N ops.length (.slice (some ⟨2, 0, none⟩) N N) (k : Nat) ((k + 1 : Nat) : Int) (rL zM (regM ops xs) ops.length k) (rL zM (regM ops xs) ops.length (k + 1)) o.A o.B o.C ⟨0, k * 4, none⟩ ⟨2, o.A.toNat * 20, none⟩ ⟨4, k * 20, none⟩ (regM ops xs k)
    refine rndB_to r okRm (okApp' (okApp' hd ?_) (hw _)) (entRm p0 p1 p2 N ops.length _ _)
    rw [hF]
    exact h.var hA0 hA1 rfl
  · rw [if_neg (by omega), if_neg (by omega)] at hF
    have r := rdRmB c2 c5 b0 b1 b2 N ops.length (.slice (some ⟨2, 0, none⟩) N N) (k : Nat) ((k + 1 : Nat) : Int) (rL zM (regM ops xs) ops.length k) (rL zM (regM ops xs) ops.length (k + 1)) o.A o.B o.C ⟨0, k * 4, none⟩ ⟨4, o.A.toNat * 20, none⟩ ⟨4, o.B.toNat * 20, none⟩ ⟨4, k * 20, none⟩ (regM ops xs o.A.toNat) (regM ops xs o.B.toNat) (regM ops xs k)
    refine rndB_to r okRm (okApp' (okApp' (okApp' (okApp' hd (reg_okR a0 a1 (by omega) N [obE o.K o.A o.B o.C])) (reg_okR q0 q1 (by omega) N [obE o.K o.A o.B o.C])) ⟨?_, trivial⟩) (hw _)) (entRm p0 p1 p2 N ops.length _ _)
    rw [hF]
    exact two_rn c2 c5 _ (hr _)
theorem EvM.roundsR (h : EvM b0 b1 b2 N ops out xs) (p0 : PlO b0) (p1 : PlO b1) (p2 : PlO b2) (hr : ∀ k, AllN (regM ops xs k)) (hM : ops.length < 1000) : ∀ (d k : Nat), k + d = ops.length →
    RdsB Try.prog 3 bodyRm (tmA 81 (LRm (.slice (some ⟨2, 0, none⟩) N N) ops.length (k : Nat))) (HRm b0 b1 b2 N ops.length (rL zM (regM ops xs) ops.length k)).toArray
      (.exit 0, tmA 81 (LRm (.slice (some ⟨2, 0, none⟩) N N) ops.length (ops.length : Nat)), (HRm b0 b1 b2 N ops.length (rL zM (regM ops xs) ops.length ops.length)).toArray)
  | 0, k, hk => by
    have e : k = ops.length := by omega
    subst e
    exact .last (rndB_to (rdRmEnd b0 b1 b2 N ops.length (.slice (some ⟨2, 0, none⟩) N N) (ops.length : Nat) _) okRm ⟨cmp_ok (decide_eq_false (by omega)), trivial⟩ (entRm p0 p1 p2 N ops.length _ _)) (by simp)
  | d + 1, k, hk => by
    have hlt : k < ops.length := by omega
    exact .next (h.roundR p0 p1 p2 hr (List.getElem?_eq_getElem hlt) hM) (h.roundsR p0 p1 p2 hr hM d (k + 1) (by omega))
theorem EvM.outsR (h : EvM b0 b1 b2 N ops out xs) (M : Nat) (hM : M = ops.length) : okAll Try.prog (lgRo (HRm b0 b1 b2 N M (rL zM (regM ops xs) M M)) N M
    (fun i => out.getD i 0) (fun i => ⟨4, (out.getD i 0).toNat * 20, none⟩) (fun i => regM ops xs (out.getD i 0).toNat)) := by
  subst hM
  unfold lgRo
  refine okApp' (each_ok _ _ fun i hi => ?_) ⟨cmp_ok (decide_eq_false (by omega)), trivial⟩
  have hi' := List.mem_range.1 hi
  have hio : i < out.length := by rw [h.lo]; exact hi'
  have hg : out[i]? = some (out.getD i 0) := getD_at 0 hio
  obtain ⟨u0, u1⟩ := h.oo _ (List.mem_of_getElem? hg)
  obtain ⟨B, hB, hc⟩ := h.m1
  have hreg := reg_okR (b0 := b0) (b1 := b1) (b2 := b2) (A := out.getD i 0) (k := ops.length) (M := ops.length) (F := regM ops xs) u0 u1 (Nat.le_refl _) N (grM i fun i => regM ops xs (out.getD i 0).toNat)
  refine ⟨cmp_ok (decide_eq_true hi'), rdI (B := B) (l := out) (k := i) ?_ hc hg rfl, hreg.1, hreg.2.1, trivial⟩
  rw [hB]; rfl
theorem finRm (N : Nat) (h1 : 1 ≤ N) (h2 : N ≤ 3) : FinRm N := by
  have : N = 1 ∨ N = 2 ∨ N = 3 := by omega
  rcases this with rfl | rfl | rfl
  · exact finRm_1
  · exact finRm_2
  · exact finRm_3
theorem grM_last {N : Nat} (h1 : 1 ≤ N) (h2 : N ≤ 3) (f : Nat → Nat → P2) : (grM N f)[2 * N - 1]? = some (mB ((List.range N).map f)) := by
  have : N = 1 ∨ N = 2 ∨ N = 3 := by omega
  rcases this with rfl | rfl | rfl <;> rfl
end
theorem zr_md : zeroB Try.prog 29 20 = true := by kernel_rfl
theorem zc_md : zeroC Try.prog 29 = mC zM := by kernel_rfl
/-- A field and Models in a memory of their own: the document's Eval. -/
theorem EvM.evalR {c0 c1 c2 : ABlk} {N : Nat} {ops : List OpD} {out : List Int} {xs : List (Nat → P2)} (h : EvM (some c0) (some c1) (some c2) N ops out xs) (p0 : PlO (some c0)) (p1 : PlO (some c1)) (p2 : PlO (some c2)) (hr : ∀ k, AllN (regM ops xs k))
    (h0 : c0.own = false) (h1 : c1.own = false) (h2 : c2.own = false) (hM : ops.length < 1000) (hN : 1 ≤ N) (hN3 : N ≤ 3) :
    Runs Try.prog 47 #[tpV 0 1 N ops.length, .slice (some ⟨2, 0, none⟩) N N] #[some c0, some c1, some c2] (.slice (some ⟨3, 0, none⟩) N N) (#[some c0, some c1, some c2] ++ #[mB (evOut (regM ops xs) out)]) := by
  have rds := h.roundsR p0 p1 p2 hr hM ops.length 0 (by omega)
  have fin := finRm N hN hN3 (some c0) (some c1) (some c2) ops.length (.slice (some ⟨2, 0, none⟩) N N) (rL zM (regM ops xs) ops.length 0) (rL zM (regM ops xs) ops.length ops.length) (fun i => out.getD i 0) (fun i => ⟨4, (out.getD i 0).toNat * 20, none⟩) (fun i => regM ops xs (out.getD i 0).toNat)
  have mk : makeSliceV Try.prog [some c0, some c1, some c2, tbE N ops.length].toArray 62 (.int .i64 ops.length) (.int .i64 ops.length) = some (.slice (some ⟨4, 0, none⟩) ops.length ops.length, (HRm (some c0) (some c1) (some c2) N ops.length (rL zM (regM ops xs) ops.length 0)).toArray) := by
    refine (mk_sliceT ty_mds zr_md zc_md (M := ops.length) (by omega)).trans ?_
    rw [rL_zero]
    congr 1
  obtain ⟨H', hH, hrun⟩ := askTB_to (g := fun H => H) fin (okApp' ⟨mk, trivial⟩ (h.outsR ops.length rfl)) ⟨⟨_, _, entRm p0 p1 p2 N ops.length 0 _, rds.loop⟩, trivial⟩
  subst hH
  have hf3 : AllFrozen #[some c0, some c1, some c2] := by
    intro b B hB
    match b, hB with
    | 0, hB => simp at hB; subst hB; exact h0
    | 1, hB => simp at hB; subst hB; exact h1
    | 2, hB => simp at hB; subst hB; exact h2
    | n + 3, hB => simp at hB
  have e : (HRm (some c0) (some c1) (some c2) N ops.length (rL zM (regM ops xs) ops.length ops.length) ++ grM N fun i => regM ops xs (out.getD i 0).toNat).toArray = #[some c0, some c1, some c2] ++ ([tbE N ops.length, mB (rL zM (regM ops xs) ops.length ops.length)] ++ grM N fun i => regM ops xs (out.getD i 0).toNat).toArray := by
    apply Array.ext'
    simp [HRm]
  rw [e] at hrun
  have hk : ([tbE N ops.length, mB (rL zM (regM ops xs) ops.length ops.length)] ++ grM N fun i => regM ops xs (out.getD i 0).toNat).toArray[2 * N + 1]? = some (mB (evOut (regM ops xs) out)) := by
    rw [List.getElem?_toArray, List.getElem?_append_right (by simp; omega)]
    have := grM_last hN hN3 fun i => regM ops xs (out.getD i 0).toNat
    rw [evOut_get (regM ops xs) h.lo] at this
    show (grM N _)[2 * N + 1 - 2]? = _
    rw [show 2 * N + 1 - 2 = 2 * N - 1 by omega]
    exact this
  rw [show 4 + 2 * N = (#[some c0, some c1, some c2] : AHeap).size + (2 * N + 1) by simp; omega] at hrun
  exact Runs.keep1 (k := 2 * N + 1) hf3 hrun hk (mB_cl _)

end Go.Proofs.Ytnbbmihlokajaaa
