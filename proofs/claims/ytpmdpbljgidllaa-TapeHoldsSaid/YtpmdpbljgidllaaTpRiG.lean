/- The document's EvalIv: what it tells is what the operations reckon. -/
import Derived.Test.YtpmdpbljgidllaaTpRiF
import Derived.Test.YtpmdpbljgidllaaTpRfG
namespace Go.Proofs.Ytpmdpbljgidllaa
open Go
set_option linter.unusedVariables false
set_option linter.unusedSimpArgs false
set_option maxRecDepth 100000

theorem zt_iv : zeroB Try.prog 39 2 = true := by kernel_rfl
theorem zc_iv : zeroC Try.prog 39 = pC (0, 0) := by kernel_rfl
noncomputable def askTw (g : FuncId) : Nat := if g == 73 || g == 74 || g == 75 || g == 76 then 1 else 0
theorem two_2 (X Y Z : Nat × Nat) : (askN askTw noC 12 57 #[.int .i64 2, vI X, vI Y] #[] [vAns (vI Z)]).map (fun r => (r.1, r.2.2)) = some (vI Z, [.run 73 #[vI X, vI Y] #[] (vI Z) #[]]) := by kernel_rfl
theorem two_3 (X Y Z : Nat × Nat) : (askN askTw noC 12 57 #[.int .i64 3, vI X, vI Y] #[] [vAns (vI Z)]).map (fun r => (r.1, r.2.2)) = some (vI Z, [.run 74 #[vI X, vI Y] #[] (vI Z) #[]]) := by kernel_rfl
theorem two_4 (X Y Z : Nat × Nat) : (askN askTw noC 12 57 #[.int .i64 4, vI X, vI Y] #[] [vAns (vI Z)]).map (fun r => (r.1, r.2.2)) = some (vI Z, [.run 75 #[vI X, vI Y] #[] (vI Z) #[]]) := by kernel_rfl
theorem two_5 (X Y Z : Nat × Nat) : (askN askTw noC 12 57 #[.int .i64 5, vI X, vI Y] #[] [vAns (vI Z)]).map (fun r => (r.1, r.2.2)) = some (vI Z, [.run 76 #[vI X, vI Y] #[] (vI Z) #[]]) := by kernel_rfl
theorem two_w {K : Int} (h2 : 2 ≤ K) (h5 : K ≤ 5) {X Y : Nat × Nat} (hY : Rt Y) : Runs Try.prog 57 #[.int .i64 K, vI X, vI Y] #[] (vI (opP K X Y)) #[] := by
  have : K = 2 ∨ K = 3 ∨ K = 4 ∨ K = 5 := by omega
  rcases this with rfl | rfl | rfl | rfl
  · obtain ⟨H', h⟩ := tells_of (two_2 X Y (addP X Y)) ⟨(add_w X Y).2, trivial⟩
    exact h.quiet rfl rfl #[]
  · obtain ⟨H', h⟩ := tells_of (two_3 X Y (subP X Y)) ⟨(sub_w X Y).2, trivial⟩
    exact h.quiet rfl rfl #[]
  · obtain ⟨H', h⟩ := tells_of (two_4 X Y (mulP X Y)) ⟨(mul_w X Y).2, trivial⟩
    exact h.quiet rfl rfl #[]
  · obtain ⟨H', h⟩ := tells_of (two_5 X Y (divP X Y)) ⟨(div_w X hY.l hY.h).2, trivial⟩
    exact h.quiet rfl rfl #[]

section
variable {b0 b1 b2 : Option ABlk} {N : Nat} {ops : List OpD} {out : List Int} {xs : List (Nat × Nat)}

theorem tmRi_back {x : Value} {M k : Nat} {tm' : List Value} (hl : tm'.length = 80) (t1 : getT tm' 1 = x) (t2 : getT tm' 2 = .pointer (some ⟨3, 0, none⟩)) (t4 : getT tm' 4 = .slice none 0 0) (t5 : getT tm' 5 = .slice (some ⟨4, 0, none⟩) M M) (t6 : getT tm' 6 = .int .i64 k) : ∃ j', tm' = tmRi x M k j' := by
  refine ⟨getT tm', (tm_eq hl).trans ?_⟩
  unfold tmRi
  apply List.map_congr_left
  intro i _
  split
  · rename_i h; subst h; exact t1
  split
  · rename_i h; subst h; exact t2
  split
  · rename_i h; subst h; exact t4
  split
  · rename_i h; subst h; exact t5
  split
  · rename_i h; subst h; exact t6
  rfl
theorem reRi {x : Value} {M k : Nat} {rb : Option ABlk} {tm' : List Value} {H' : AHeap} (h : slR tm' H' = outRi b0 b1 b2 x N M k rb) : ∃ g' j', tm' = tmRi x M (k + 1) j' ∧ H' = (hpR b0 b1 b2 N M rb (k + 1) g').toArray := by
  unfold slR outRi at h
  simp only [Prod.mk.injEq, List.cons.injEq, and_true] at h
  obtain ⟨hl, ⟨t1, t2, t4, t5, t6⟩, ht, hn⟩ := h
  obtain ⟨j', hj⟩ := tmRi_back hl t1 t2 t4 t5 t6
  refine ⟨fun i => H'.toList.getD (5 + i) none, j', hj, ?_⟩
  apply Array.ext'
  exact list_parts0 none H'.toList _ 5 (k + 1) ht hn

/-- The registers' block. -/
def rbRi (F : Nat → (Nat × Nat)) (M k : Nat) : ABlk := ⟨((rL (0, 0) F M k).flatMap pC).toArray, 39, 2, true⟩
theorem hpR_4Ri {M k n : Nat} {rb : Option ABlk} {g : Nat → Option ABlk} (c : List (Option ABlk)) : (hpR b0 b1 b2 N M rb k g ++ c).toArray[4]? = some rb := rfl

theorem regRi_ok {A : Int} {k M : Nat} (h0 : 0 ≤ A) (h1 : A < k) (hM : k ≤ M) (F : Nat → (Nat × Nat)) (g : Nat → Option ABlk) (n : Nat) (c : List (Option ABlk)) : okAll Try.prog (lgRI (hpR b0 b1 b2 N M (some (rbRi F M k)) n g ++ c) (.slice (some ⟨4, 0, none⟩) M M) A ⟨4, A.toNat * 2, none⟩ (F A.toNat)) :=
  ⟨ixIv h0 (by omega) rfl, rdIv (B := rbRi F M k) (l := rL (0, 0) F M k) (k := A.toNat) rfl rfl (rL_get _ F (by omega) (by omega)) rfl, trivial⟩
theorem wrRi_ok {k M : Nat} (hk : k < M) (F : Nat → (Nat × Nat)) (g : Nat → Option ABlk) (n : Nat) (c : List (Option ABlk)) {v : (Nat × Nat)} (hv : F k = v) : okAll Try.prog (lgWRi (hpR b0 b1 b2 N M (some (rbRi F M k)) n g ++ c) (hpR b0 b1 b2 N M (some (rbRi F M (k + 1))) n g ++ c) M k ⟨4, k * 2, none⟩ v) := by
  refine ⟨ixIv (by omega) (by omega) (by omega), ?_, trivial⟩
  obtain ⟨i, hi, hz⟩ := sizeB_ex sz_iv
  subst hv
  refine (wr_at (f := pC) (n := 2) (fun _ => rfl) hi hz (H := (hpR b0 b1 b2 N M (some (rbRi F M k)) n g ++ c).toArray) (b := 4) (k := k) (B := rbRi F M k) (l := rL (0, 0) F M k) (a := F k) rfl rfl rfl rfl rfl (by rw [rL_len]; exact hk) (by omega)).trans ?_
  rw [rL_set _ F M k hk]
  rfl

theorem EvG.roundRi (h : @EvG (Nat × Nat) pC b0 b1 b2 N ops out xs) (hr : ∀ k, Rt (regP ops xs k)) {k : Nat} {o : OpD} (ho : ops[k]? = some o) (hk : k < 21) (g : Nat → Option ABlk) (j : Nat → Value) :
    ∃ g' j', evR Try.prog (Runs Try.prog) (orcD 12) q1 bodyRi (tmRi (.slice (some ⟨2, 0, none⟩) N N) ops.length k j) (hpR b0 b1 b2 N ops.length (some (rbRi (regP ops xs) ops.length k)) k g).toArray
      (.normal, tmRi (.slice (some ⟨2, 0, none⟩) N N) ops.length (k + 1) j', (hpR b0 b1 b2 N ops.length (some (rbRi (regP ops xs) ops.length (k + 1))) (k + 1) g').toArray) := by
  have hlt : k < ops.length := (List.getElem?_eq_some_iff.1 ho).1
  have hd := h.head ho (H := hpR b0 b1 b2 N ops.length (some (rbRi (regP ops xs) ops.length k)) k g) rfl
  have hok := h.ok k o ho
  have hF : regP ops xs k = stepT (fun c => (c, c)) opP (fun i => xs.getD i (0, 0)) (regP ops xs) o := regT_at ho hok
  unfold stepT at hF
  have hw := fun (v : (Nat × Nat)) (hv : regP ops xs k = v) => wrRi_ok (b0 := b0) (b1 := b1) (b2 := b2) (N := N) hlt (regP ops xs) g k [obE o.K o.A o.B o.C] hv
  rcases hok with h0 | ⟨h1, hA0, hA1⟩ | ⟨h2, h5, hA0, hA1, hB0, hB1⟩
  · rw [if_pos h0] at hF
    rw [h0] at hd hw
    have r := rdConRi k hk b0 b1 b2 N ops.length o.A o.B o.C (.slice (some ⟨2, 0, none⟩) N N) ⟨0, k * 4, none⟩ ⟨4, k * 2, none⟩ (some (rbRi (regP ops xs) ops.length k)) (some (rbRi (regP ops xs) ops.length (k + 1))) g j
    unfold runRi at r
    obtain ⟨tm', H', hs, hev⟩ := rnd_part r (okApp hd (hw _ hF))
    obtain ⟨g', j', rfl, rfl⟩ := reRi hs
    exact ⟨g', j', hev⟩
  · rw [if_neg (by omega), if_pos h1] at hF
    rw [h1] at hd hw
    have r := rdVarRi k hk b0 b1 b2 N ops.length o.A o.B o.C (xs.getD o.A.toNat (0, 0)) (.slice (some ⟨2, 0, none⟩) N N) ⟨0, k * 4, none⟩ ⟨2, o.A.toNat * 2, none⟩ ⟨4, k * 2, none⟩ (some (rbRi (regP ops xs) ops.length k)) (some (rbRi (regP ops xs) ops.length (k + 1))) g j
    unfold runRi at r
    obtain ⟨tm', H', hs, hev⟩ := rnd_part r (okApp (okApp hd (EvI.var h hA0 hA1 rfl)) (hw _ hF))
    obtain ⟨g', j', rfl, rfl⟩ := reRi hs
    exact ⟨g', j', hev⟩
  · rw [if_neg (by omega), if_neg (by omega)] at hF
    have r := rdBinRi k o.K (by omega) hk h2 h5 b0 b1 b2 N ops.length o.A o.B o.C (regP ops xs o.A.toNat) (regP ops xs o.B.toNat) (opP o.K (regP ops xs o.A.toNat) (regP ops xs o.B.toNat)) (.slice (some ⟨2, 0, none⟩) N N) ⟨0, k * 4, none⟩ ⟨4, o.A.toNat * 2, none⟩ ⟨4, o.B.toNat * 2, none⟩ ⟨4, k * 2, none⟩ (some (rbRi (regP ops xs) ops.length k)) (some (rbRi (regP ops xs) ops.length (k + 1))) g j
    unfold runRi at r
    obtain ⟨tm', H', hs, hev⟩ := rnd_part r (okApp (okApp (okApp (okApp hd (regRi_ok hA0 hA1 (by omega) _ _ _ _)) (regRi_ok hB0 hB1 (by omega) _ _ _ _)) ⟨two_w h2 h5 (hr _), trivial⟩) (hw _ hF))
    obtain ⟨g', j', rfl, rfl⟩ := reRi hs
    exact ⟨g', j', hev⟩

theorem EvG.roundsRi (h : @EvG (Nat × Nat) pC b0 b1 b2 N ops out xs) (hr : ∀ k, Rt (regP ops xs k)) (h2 : 2 ≤ ops.length) (hM : ops.length < 21) : ∀ (d k : Nat), k + d = ops.length → ∀ (g : Nat → Option ABlk) (j : Nat → Value),
    ∃ g' j', Rds (evR Try.prog (Runs Try.prog) (orcD 12) q1 bodyRi) (tmRi (.slice (some ⟨2, 0, none⟩) N N) ops.length k j) (hpR b0 b1 b2 N ops.length (some (rbRi (regP ops xs) ops.length k)) k g).toArray
      (.exit 0, tmRi (.slice (some ⟨2, 0, none⟩) N N) ops.length ops.length j', (hpR b0 b1 b2 N ops.length (some (rbRi (regP ops xs) ops.length ops.length)) ops.length g').toArray)
  | 0, k, hk, g, j => by
    have hk' : k = ops.length := by omega
    subst hk'
    have r := rdEndRi ops.length h2 hM b0 b1 b2 N ops.length (.slice (some ⟨2, 0, none⟩) N N) (some (rbRi (regP ops xs) ops.length ops.length)) g j
    obtain ⟨tm', H', hs, hev⟩ := rnd_part (g := fun tm H => ((tm.length, [getT tm 1, getT tm 2, getT tm 4, getT tm 5, getT tm 6]), H)) r ⟨cmp_ok (decide_eq_false (by omega)), trivial⟩
    simp only [Prod.mk.injEq, List.cons.injEq, and_true] at hs
    obtain ⟨⟨hl, t1, t2, t4, t5, t6⟩, rfl⟩ := hs
    obtain ⟨j', rfl⟩ := tmRi_back hl t1 t2 t4 t5 t6
    exact ⟨g, j', .last hev (by simp)⟩
  | d + 1, k, hk, g, j => by
    have hlt : k < ops.length := by omega
    obtain ⟨g1, j1, h1⟩ := h.roundRi hr (List.getElem?_eq_getElem hlt) (by omega) g j
    obtain ⟨g2, j2, h3⟩ := h.roundsRi hr h2 hM d (k + 1) (by omega) g1 j1
    exact ⟨g2, j2, .next h1 h3⟩

theorem EvG.outsRi (h : @EvG (Nat × Nat) pC b0 b1 b2 N ops out xs) (h2 : 2 ≤ ops.length) (g : Nat → Option ABlk) : okAll Try.prog (lgORi (hpR b0 b1 b2 N ops.length (some (rbRi (regP ops xs) ops.length ops.length)) ops.length g) ops.length N
    (fun i => out.getD i 0) (fun i => ⟨4, (out.getD i 0).toNat * 2, none⟩) (fun i => regP ops xs (out.getD i 0).toNat)) := by
  unfold lgORi
  refine okApp ?_ ⟨cmp_ok (decide_eq_false (by omega)), trivial⟩
  have key : ∀ l : List Nat, (∀ i ∈ l, i < N) → okAll Try.prog (l.flatMap fun i => [.cmp .lss 3 (.int .i64 (Int.ofNat i)) (.int .i64 (Int.ofNat N)) true, .ex (readVar Try.prog (hpR b0 b1 b2 N ops.length (some (rbRi (regP ops xs) ops.length ops.length)) ops.length g ++ grRi i (fun i => regP ops xs (out.getD i 0).toNat)).toArray 3 ⟨1, i, none⟩ = some (.int .i64 (out.getD i 0))),
      .ex (indexAddrV Try.prog 37 (.slice (some ⟨4, 0, none⟩) ops.length ops.length) (.int .i64 (out.getD i 0)) = some (.pointer (some ⟨4, (out.getD i 0).toNat * 2, none⟩))), .ex (readVar Try.prog (hpR b0 b1 b2 N ops.length (some (rbRi (regP ops xs) ops.length ops.length)) ops.length g ++ grRi i (fun i => regP ops xs (out.getD i 0).toNat)).toArray 39 ⟨4, (out.getD i 0).toNat * 2, none⟩ = some (vI (regP ops xs (out.getD i 0).toNat)))]) := by
    intro l hl
    induction l with
    | nil => trivial
    | cons i l ih =>
      rw [List.flatMap_cons]
      refine okApp ?_ (ih fun i hi => hl i (List.mem_cons_of_mem _ hi))
      have hi := hl i (List.mem_cons_self ..)
      have hio : i < out.length := by rw [h.lo]; exact hi
      have hg : out[i]? = some (out.getD i 0) := by
        rw [List.getD_eq_getElem?_getD, List.getElem?_eq_getElem hio]; rfl
      obtain ⟨u0, u1⟩ := h.oo _ (List.mem_of_getElem? hg)
      obtain ⟨B, hB, hc⟩ := h.m1
      have hr := regRi_ok (b0 := b0) (b1 := b1) (b2 := b2) (N := N) (A := out.getD i 0) u0 u1 (Nat.le_refl _) (regP ops xs) g ops.length (grRi i (fun i => regP ops xs (out.getD i 0).toNat))
      refine ⟨cmp_ok (decide_eq_true hi), rdI (B := B) (l := out) (k := i) ?_ hc hg rfl, hr.1, hr.2.1, trivial⟩
      rw [hB]; rfl
  exact key _ fun i hi => List.mem_range.1 hi

theorem grRi_last {N : Nat} (hN : 1 ≤ N) (hN3 : N ≤ 3) (f : Nat → (Nat × Nat)) : (grRi N f).length = 2 * N ∧ (grRi N f)[2 * N - 1]? = some (some ⟨((List.range N).flatMap fun i => pC (f i)).toArray, 39, 2, true⟩) := by
  have : N = 1 ∨ N = 2 ∨ N = 3 := by omega
  rcases this with rfl | rfl | rfl <;> exact ⟨rfl, rfl⟩

theorem EvG.evalsRi {c0 c1 c2 : ABlk} (h : @EvG (Nat × Nat) pC (some c0) (some c1) (some c2) N ops out xs) (hr : ∀ k, Rt (regP ops xs k)) (h0 : c0.own = false) (h1 : c1.own = false) (h2 : c2.own = false) (hM2 : 2 ≤ ops.length) (hM : ops.length < 21) (hN : 1 ≤ N) (hN3 : N ≤ 3) :
    Runs Try.prog 38 #[tpV 0 1 N ops.length, .slice (some ⟨2, 0, none⟩) N N] #[some c0, some c1, some c2] (.slice (some ⟨3, 0, none⟩) N N) (#[some c0, some c1, some c2] ++ #[nwP (evOut (regP ops xs) out)]) := by
  have hf3 : AllFrozen #[some c0, some c1, some c2] := by
    intro b B hB
    match b, hB with
    | 0, hB => simp at hB; subst hB; exact h0
    | 1, hB => simp at hB; subst hB; exact h1
    | 2, hB => simp at hB; subst hB; exact h2
    | n + 3, hB => simp at hB
  obtain ⟨g, j, hr⟩ := h.roundsRi hr hM2 hM ops.length 0 (by omega) (fun _ => none) (j0Ri N ops.length)
  have fin := finRi N ops.length hN hN3 hM2 hM (some c0) (some c1) (some c2) (.slice (some ⟨2, 0, none⟩) N N) (some (rbRi (regP ops xs) ops.length 0)) (some (rbRi (regP ops xs) ops.length ops.length)) g j (fun i => out.getD i 0) (fun i => ⟨4, (out.getD i 0).toNat * 2, none⟩) (fun i => regP ops xs (out.getD i 0).toNat)
  have hmk := mk_sliceT (P := Try.prog) (t := 37) (e := 39) (n := 2) ty_ivs zt_iv (f := pC) (a := (0, 0)) zc_iv (H := #[some c0, some c1, some c2, tbE N ops.length]) (M := ops.length) (by omega)
  have hmk2 : makeSliceV Try.prog #[some c0, some c1, some c2, tbE N ops.length] 37 (.int .i64 ops.length) (.int .i64 ops.length) = some (.slice (some ⟨4, 0, none⟩) ops.length ops.length, #[some c0, some c1, some c2, tbE N ops.length, some (rbRi (regP ops xs) ops.length 0)]) := by
    rw [hmk]
    unfold rbRi
    rw [rL_zero]
    rfl
  have hruns := askT_runs fin ⟨hmk2, h.outsRi hM2 g⟩ (fun z hz => by
    rw [List.mem_singleton] at hz
    subst hz
    exact hr)
  have e : (hpR (some c0) (some c1) (some c2) N ops.length (some (rbRi (regP ops xs) ops.length ops.length)) ops.length g ++ grRi N (fun i => regP ops xs (out.getD i 0).toNat)).toArray =
      #[some c0, some c1, some c2] ++ ([tbE N ops.length, some (rbRi (regP ops xs) ops.length ops.length)] ++ (List.range ops.length).map g ++ grRi N (fun i => regP ops xs (out.getD i 0).toNat)).toArray := by
    apply Array.ext'
    simp [hpR, List.append_assoc]
  rw [e] at hruns
  obtain ⟨l1, l2⟩ := grRi_last hN hN3 (fun i => regP ops xs (out.getD i 0).toNat)
  have hk : ([tbE N ops.length, some (rbRi (regP ops xs) ops.length ops.length)] ++ (List.range ops.length).map g ++ grRi N (fun i => regP ops xs (out.getD i 0).toNat)).toArray[2 + ops.length + (2 * N - 1)]? = some (nwP (evOut (regP ops xs) out)) := by
    rw [List.getElem?_toArray, List.getElem?_append_right (by simp; omega)]
    have e9 : 2 + ops.length + (2 * N - 1) - ([tbE N ops.length, some (rbRi (regP ops xs) ops.length ops.length)] ++ (List.range ops.length).map g).length = 2 * N - 1 := by simp; omega
    rw [e9, l2]
    unfold nwP evOut
    rw [List.flatMap_map]
    have e8 : ((List.range N).flatMap fun i => pC (regP ops xs (out.getD i 0).toNat)) = ((List.range out.length).map fun i => out.getD i 0).flatMap fun u => pC (regP ops xs u.toNat) := by
      rw [List.flatMap_map, h.lo]
    rw [e8, range_getD]
  have e2 : 5 + ops.length + (2 * N - 1) = (#[some c0, some c1, some c2] : AHeap).size + (2 + ops.length + (2 * N - 1)) := by simp; omega
  rw [e2] at hruns
  refine Runs.keep1 hf3 hruns hk fun i u hu => ?_
  have hu' : u ∈ (evOut (regP ops xs) out).flatMap pC := List.mem_of_getElem? (by simpa using hu)
  exact pC_clos _ _ hu'
end

end Go.Proofs.Ytpmdpbljgidllaa
