/- The document's Eval: what it tells is what the operations reckon. -/
import Derived.Test.YtpmdpbljgidllaaTpRfF
import Derived.Test.YtpmdpbljgidllaaTpW
import Derived.Test.YtpmdpbljgidllaaSlices
namespace Go.Proofs.Ytpmdpbljgidllaa
open Go
set_option linter.unusedVariables false
set_option linter.unusedSimpArgs false
set_option maxRecDepth 100000

theorem zt_f : zeroB Try.prog 30 1 = true := by kernel_rfl
theorem zc_f : zeroC Try.prog 30 = fC 0 := by kernel_rfl
theorem fC_clos (l : List Nat) (u : Value) (h : u ∈ l.flatMap fC) : closN 4 u = true := by
  simp only [List.mem_flatMap, fC, List.mem_singleton] at h
  obtain ⟨a, _, rfl⟩ := h
  rfl

section
variable {b0 b1 b2 : Option ABlk} {N : Nat} {ops : List OpD} {out : List Int} {xs : List Nat}

theorem tmRf_back {x : Value} {M k : Nat} {tm' : List Value} (hl : tm'.length = 79) (t1 : getT tm' 1 = x) (t2 : getT tm' 2 = .pointer (some ⟨3, 0, none⟩)) (t4 : getT tm' 4 = .slice none 0 0) (t5 : getT tm' 5 = .slice (some ⟨4, 0, none⟩) M M) (t6 : getT tm' 6 = .int .i64 k) : ∃ j', tm' = tmRf x M k j' := by
  refine ⟨getT tm', (tm_eq hl).trans ?_⟩
  unfold tmRf
  apply List.map_congr_left
  intro i _
  split
  · rename_i h; subst h; exact t1
  split
  · rename_i h; subst h; exact t2
  split
  · rename_i h; subst h; exact t4
  split
  · rename_i h; subst h; exact t5
  split
  · rename_i h; subst h; exact t6
  rfl
theorem reRf {x : Value} {M k : Nat} {rb : Option ABlk} {tm' : List Value} {H' : AHeap} (h : slR tm' H' = outRf b0 b1 b2 x N M k rb) : ∃ g' j', tm' = tmRf x M (k + 1) j' ∧ H' = (hpR b0 b1 b2 N M rb (k + 1) g').toArray := by
  unfold slR outRf at h
  simp only [Prod.mk.injEq, List.cons.injEq, and_true] at h
  obtain ⟨hl, ⟨t1, t2, t4, t5, t6⟩, ht, hn⟩ := h
  obtain ⟨j', hj⟩ := tmRf_back hl t1 t2 t4 t5 t6
  refine ⟨fun i => H'.toList.getD (5 + i) none, j', hj, ?_⟩
  apply Array.ext'
  exact list_parts0 none H'.toList _ 5 (k + 1) ht hn

/-- The registers' block. -/
def rbRf (F : Nat → Nat) (M k : Nat) : ABlk := ⟨((rL 0 F M k).flatMap fC).toArray, 30, 1, true⟩
theorem hpR_4Rf {M k n : Nat} {rb : Option ABlk} {g : Nat → Option ABlk} (c : List (Option ABlk)) : (hpR b0 b1 b2 N M rb k g ++ c).toArray[4]? = some rb := rfl

theorem regRf_ok {A : Int} {k M : Nat} (h0 : 0 ≤ A) (h1 : A < k) (hM : k ≤ M) (F : Nat → Nat) (g : Nat → Option ABlk) (n : Nat) (c : List (Option ABlk)) : okAll Try.prog (lgR (hpR b0 b1 b2 N M (some (rbRf F M k)) n g ++ c) (.slice (some ⟨4, 0, none⟩) M M) A ⟨4, A.toNat, none⟩ (F A.toNat)) :=
  ⟨ixF h0 (by omega) rfl, rdF (B := rbRf F M k) (l := rL 0 F M k) (k := A.toNat) rfl rfl (rL_get _ F (by omega) (by omega)) rfl, trivial⟩
theorem wrRf_ok {k M : Nat} (hk : k < M) (F : Nat → Nat) (g : Nat → Option ABlk) (n : Nat) (c : List (Option ABlk)) {v : Nat} (hv : F k = v) : okAll Try.prog (lgWRf (hpR b0 b1 b2 N M (some (rbRf F M k)) n g ++ c) (hpR b0 b1 b2 N M (some (rbRf F M (k + 1))) n g ++ c) M k ⟨4, k, none⟩ v) := by
  refine ⟨ixF (by omega) (by omega) (by omega), ?_, trivial⟩
  obtain ⟨i, hi, hz⟩ := sizeB_ex sz_f
  subst hv
  refine (wr_at (f := fC) (n := 1) (fun _ => rfl) hi hz (H := (hpR b0 b1 b2 N M (some (rbRf F M k)) n g ++ c).toArray) (b := 4) (k := k) (B := rbRf F M k) (l := rL 0 F M k) (a := F k) rfl rfl rfl rfl rfl (by rw [rL_len]; exact hk) (by omega)).trans ?_
  rw [rL_set _ F M k hk]
  rfl

theorem EvG.roundRf (h : @EvG Nat fC b0 b1 b2 N ops out xs) {k : Nat} {o : OpD} (ho : ops[k]? = some o) (hk : k < 21) (g : Nat → Option ABlk) (j : Nat → Value) :
    ∃ g' j', evR Try.prog (Runs Try.prog) (orcD 12) q1 bodyRf (tmRf (.slice (some ⟨2, 0, none⟩) N N) ops.length k j) (hpR b0 b1 b2 N ops.length (some (rbRf (regF ops xs) ops.length k)) k g).toArray
      (.normal, tmRf (.slice (some ⟨2, 0, none⟩) N N) ops.length (k + 1) j', (hpR b0 b1 b2 N ops.length (some (rbRf (regF ops xs) ops.length (k + 1))) (k + 1) g').toArray) := by
  have hlt : k < ops.length := (List.getElem?_eq_some_iff.1 ho).1
  have hd := h.head ho (H := hpR b0 b1 b2 N ops.length (some (rbRf (regF ops xs) ops.length k)) k g) rfl
  have hok := h.ok k o ho
  have hF : regF ops xs k = stepT (fun c => c) opF (fun i => xs.getD i 0) (regF ops xs) o := regT_at ho hok
  unfold stepT at hF
  have hw := fun (v : Nat) (hv : regF ops xs k = v) => wrRf_ok (b0 := b0) (b1 := b1) (b2 := b2) (N := N) hlt (regF ops xs) g k [obE o.K o.A o.B o.C] hv
  rcases hok with h0 | ⟨h1, hA0, hA1⟩ | ⟨h2, h5, hA0, hA1, hB0, hB1⟩
  · rw [if_pos h0] at hF
    rw [h0] at hd hw
    have r := rdConRf k hk b0 b1 b2 N ops.length o.A o.B o.C (.slice (some ⟨2, 0, none⟩) N N) ⟨0, k * 4, none⟩ ⟨4, k, none⟩ (some (rbRf (regF ops xs) ops.length k)) (some (rbRf (regF ops xs) ops.length (k + 1))) g j
    unfold runRf at r
    obtain ⟨tm', H', hs, hev⟩ := rnd_part r (okApp hd (hw _ hF))
    obtain ⟨g', j', rfl, rfl⟩ := reRf hs
    exact ⟨g', j', hev⟩
  · rw [if_neg (by omega), if_pos h1] at hF
    rw [h1] at hd hw
    have r := rdVarRf k hk b0 b1 b2 N ops.length o.A o.B o.C (xs.getD o.A.toNat 0) (.slice (some ⟨2, 0, none⟩) N N) ⟨0, k * 4, none⟩ ⟨2, o.A.toNat, none⟩ ⟨4, k, none⟩ (some (rbRf (regF ops xs) ops.length k)) (some (rbRf (regF ops xs) ops.length (k + 1))) g j
    unfold runRf at r
    obtain ⟨tm', H', hs, hev⟩ := rnd_part r (okApp (okApp hd (EvH.var h hA0 hA1 rfl)) (hw _ hF))
    obtain ⟨g', j', rfl, rfl⟩ := reRf hs
    exact ⟨g', j', hev⟩
  · rw [if_neg (by omega), if_neg (by omega)] at hF
    have r := rdBinRf k o.K (by omega) hk h2 h5 b0 b1 b2 N ops.length o.A o.B o.C (regF ops xs o.A.toNat) (regF ops xs o.B.toNat) (.slice (some ⟨2, 0, none⟩) N N) ⟨0, k * 4, none⟩ ⟨4, o.A.toNat, none⟩ ⟨4, o.B.toNat, none⟩ ⟨4, k, none⟩ (some (rbRf (regF ops xs) ops.length k)) (some (rbRf (regF ops xs) ops.length (k + 1))) g j
    unfold runRf at r
    obtain ⟨tm', H', hs, hev⟩ := rnd_part r (okApp (okApp (okApp hd (regRf_ok hA0 hA1 (by omega) _ _ _ _)) (regRf_ok hB0 hB1 (by omega) _ _ _ _)) (hw _ hF))
    obtain ⟨g', j', rfl, rfl⟩ := reRf hs
    exact ⟨g', j', hev⟩

theorem EvG.roundsRf (h : @EvG Nat fC b0 b1 b2 N ops out xs) (h2 : 2 ≤ ops.length) (hM : ops.length < 21) : ∀ (d k : Nat), k + d = ops.length → ∀ (g : Nat → Option ABlk) (j : Nat → Value),
    ∃ g' j', Rds (evR Try.prog (Runs Try.prog) (orcD 12) q1 bodyRf) (tmRf (.slice (some ⟨2, 0, none⟩) N N) ops.length k j) (hpR b0 b1 b2 N ops.length (some (rbRf (regF ops xs) ops.length k)) k g).toArray
      (.exit 0, tmRf (.slice (some ⟨2, 0, none⟩) N N) ops.length ops.length j', (hpR b0 b1 b2 N ops.length (some (rbRf (regF ops xs) ops.length ops.length)) ops.length g').toArray)
  | 0, k, hk, g, j => by
    have hk' : k = ops.length := by omega
    subst hk'
    have r := rdEndRf ops.length h2 hM b0 b1 b2 N ops.length (.slice (some ⟨2, 0, none⟩) N N) (some (rbRf (regF ops xs) ops.length ops.length)) g j
    obtain ⟨tm', H', hs, hev⟩ := rnd_part (g := fun tm H => ((tm.length, [getT tm 1, getT tm 2, getT tm 4, getT tm 5, getT tm 6]), H)) r ⟨cmp_ok (decide_eq_false (by omega)), trivial⟩
    simp only [Prod.mk.injEq, List.cons.injEq, and_true] at hs
    obtain ⟨⟨hl, t1, t2, t4, t5, t6⟩, rfl⟩ := hs
    obtain ⟨j', rfl⟩ := tmRf_back hl t1 t2 t4 t5 t6
    exact ⟨g, j', .last hev (by simp)⟩
  | d + 1, k, hk, g, j => by
    have hlt : k < ops.length := by omega
    obtain ⟨g1, j1, h1⟩ := h.roundRf (List.getElem?_eq_getElem hlt) (by omega) g j
    obtain ⟨g2, j2, h3⟩ := h.roundsRf h2 hM d (k + 1) (by omega) g1 j1
    exact ⟨g2, j2, .next h1 h3⟩

theorem EvG.outsRf (h : @EvG Nat fC b0 b1 b2 N ops out xs) (h2 : 2 ≤ ops.length) (g : Nat → Option ABlk) : okAll Try.prog (lgORf (hpR b0 b1 b2 N ops.length (some (rbRf (regF ops xs) ops.length ops.length)) ops.length g) ops.length N
    (fun i => out.getD i 0) (fun i => ⟨4, (out.getD i 0).toNat, none⟩) (fun i => regF ops xs (out.getD i 0).toNat)) := by
  unfold lgORf
  refine okApp ?_ ⟨cmp_ok (decide_eq_false (by omega)), trivial⟩
  have key : ∀ l : List Nat, (∀ i ∈ l, i < N) → okAll Try.prog (l.flatMap fun i => [.cmp .lss 3 (.int .i64 (Int.ofNat i)) (.int .i64 (Int.ofNat N)) true, .ex (readVar Try.prog (hpR b0 b1 b2 N ops.length (some (rbRf (regF ops xs) ops.length ops.length)) ops.length g ++ grRf i (fun i => regF ops xs (out.getD i 0).toNat)).toArray 3 ⟨1, i, none⟩ = some (.int .i64 (out.getD i 0))),
      .ex (indexAddrV Try.prog 35 (.slice (some ⟨4, 0, none⟩) ops.length ops.length) (.int .i64 (out.getD i 0)) = some (.pointer (some ⟨4, (out.getD i 0).toNat, none⟩))), .ex (readVar Try.prog (hpR b0 b1 b2 N ops.length (some (rbRf (regF ops xs) ops.length ops.length)) ops.length g ++ grRf i (fun i => regF ops xs (out.getD i 0).toNat)).toArray 30 ⟨4, (out.getD i 0).toNat, none⟩ = some (.float .f64 (regF ops xs (out.getD i 0).toNat)))]) := by
    intro l hl
    induction l with
    | nil => trivial
    | cons i l ih =>
      rw [List.flatMap_cons]
      refine okApp ?_ (ih fun i hi => hl i (List.mem_cons_of_mem _ hi))
      have hi := hl i (List.mem_cons_self ..)
      have hio : i < out.length := by rw [h.lo]; exact hi
      have hg : out[i]? = some (out.getD i 0) := by
        rw [List.getD_eq_getElem?_getD, List.getElem?_eq_getElem hio]; rfl
      obtain ⟨u0, u1⟩ := h.oo _ (List.mem_of_getElem? hg)
      obtain ⟨B, hB, hc⟩ := h.m1
      have hr := regRf_ok (b0 := b0) (b1 := b1) (b2 := b2) (N := N) (A := out.getD i 0) u0 u1 (Nat.le_refl _) (regF ops xs) g ops.length (grRf i (fun i => regF ops xs (out.getD i 0).toNat))
      refine ⟨cmp_ok (decide_eq_true hi), rdI (B := B) (l := out) (k := i) ?_ hc hg rfl, hr.1, hr.2.1, trivial⟩
      rw [hB]; rfl
  exact key _ fun i hi => List.mem_range.1 hi

theorem grRf_last {N : Nat} (hN : 1 ≤ N) (hN3 : N ≤ 3) (f : Nat → Nat) : (grRf N f).length = 2 * N ∧ (grRf N f)[2 * N - 1]? = some (some ⟨((List.range N).flatMap fun i => fC (f i)).toArray, 30, 1, true⟩) := by
  have : N = 1 ∨ N = 2 ∨ N = 3 := by omega
  rcases this with rfl | rfl | rfl <;> exact ⟨rfl, rfl⟩

theorem EvG.evalsRf {c0 c1 c2 : ABlk} (h : @EvG Nat fC (some c0) (some c1) (some c2) N ops out xs) (h0 : c0.own = false) (h1 : c1.own = false) (h2 : c2.own = false) (hM2 : 2 ≤ ops.length) (hM : ops.length < 21) (hN : 1 ≤ N) (hN3 : N ≤ 3) :
    Runs Try.prog 35 #[tpV 0 1 N ops.length, .slice (some ⟨2, 0, none⟩) N N] #[some c0, some c1, some c2] (.slice (some ⟨3, 0, none⟩) N N) (#[some c0, some c1, some c2] ++ #[nwF (evOut (regF ops xs) out)]) := by
  have hf3 : AllFrozen #[some c0, some c1, some c2] := by
    intro b B hB
    match b, hB with
    | 0, hB => simp at hB; subst hB; exact h0
    | 1, hB => simp at hB; subst hB; exact h1
    | 2, hB => simp at hB; subst hB; exact h2
    | n + 3, hB => simp at hB
  obtain ⟨g, j, hr⟩ := h.roundsRf hM2 hM ops.length 0 (by omega) (fun _ => none) (j0Rf N ops.length)
  have fin := finRf N ops.length hN hN3 hM2 hM (some c0) (some c1) (some c2) (.slice (some ⟨2, 0, none⟩) N N) (some (rbRf (regF ops xs) ops.length 0)) (some (rbRf (regF ops xs) ops.length ops.length)) g j (fun i => out.getD i 0) (fun i => ⟨4, (out.getD i 0).toNat, none⟩) (fun i => regF ops xs (out.getD i 0).toNat)
  have hmk := mk_sliceT (P := Try.prog) (t := 35) (e := 30) (n := 1) ty_fs zt_f (f := fC) (a := 0) zc_f (H := #[some c0, some c1, some c2, tbE N ops.length]) (M := ops.length) (by omega)
  have hmk2 : makeSliceV Try.prog #[some c0, some c1, some c2, tbE N ops.length] 35 (.int .i64 ops.length) (.int .i64 ops.length) = some (.slice (some ⟨4, 0, none⟩) ops.length ops.length, #[some c0, some c1, some c2, tbE N ops.length, some (rbRf (regF ops xs) ops.length 0)]) := by
    rw [hmk]
    unfold rbRf
    rw [rL_zero]
    rfl
  have hruns := askT_runs fin ⟨hmk2, h.outsRf hM2 g⟩ (fun z hz => by
    rw [List.mem_singleton] at hz
    subst hz
    exact hr)
  have e : (hpR (some c0) (some c1) (some c2) N ops.length (some (rbRf (regF ops xs) ops.length ops.length)) ops.length g ++ grRf N (fun i => regF ops xs (out.getD i 0).toNat)).toArray =
      #[some c0, some c1, some c2] ++ ([tbE N ops.length, some (rbRf (regF ops xs) ops.length ops.length)] ++ (List.range ops.length).map g ++ grRf N (fun i => regF ops xs (out.getD i 0).toNat)).toArray := by
    apply Array.ext'
    simp [hpR, List.append_assoc]
  rw [e] at hruns
  obtain ⟨l1, l2⟩ := grRf_last hN hN3 (fun i => regF ops xs (out.getD i 0).toNat)
  have hk : ([tbE N ops.length, some (rbRf (regF ops xs) ops.length ops.length)] ++ (List.range ops.length).map g ++ grRf N (fun i => regF ops xs (out.getD i 0).toNat)).toArray[2 + ops.length + (2 * N - 1)]? = some (nwF (evOut (regF ops xs) out)) := by
    rw [List.getElem?_toArray, List.getElem?_append_right (by simp; omega)]
    have e9 : 2 + ops.length + (2 * N - 1) - ([tbE N ops.length, some (rbRf (regF ops xs) ops.length ops.length)] ++ (List.range ops.length).map g).length = 2 * N - 1 := by simp; omega
    rw [e9, l2]
    unfold nwF evOut
    rw [List.flatMap_map]
    have e8 : ((List.range N).flatMap fun i => fC (regF ops xs (out.getD i 0).toNat)) = ((List.range out.length).map fun i => out.getD i 0).flatMap fun u => fC (regF ops xs u.toNat) := by
      rw [List.flatMap_map, h.lo]
    rw [e8, range_getD]
  have e2 : 5 + ops.length + (2 * N - 1) = (#[some c0, some c1, some c2] : AHeap).size + (2 + ops.length + (2 * N - 1)) := by simp; omega
  rw [e2] at hruns
  refine Runs.keep1 hf3 hruns hk fun i u hu => ?_
  have hu' : u ∈ (evOut (regF ops xs) out).flatMap fC := List.mem_of_getElem? (by simpa using hu)
  exact fC_clos _ _ hu'
end

end Go.Proofs.Ytpmdpbljgidllaa
