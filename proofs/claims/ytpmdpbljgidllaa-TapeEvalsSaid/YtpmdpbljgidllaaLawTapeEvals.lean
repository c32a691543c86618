/- The law TapeEvals returns true, whatever the numbers. -/
import Derived.Test.YtpmdpbljgidllaaTpEvA
import Derived.Test.YtpmdpbljgidllaaTpQ
namespace Go.Proofs.Ytpmdpbljgidllaa
open Go
set_option linter.unusedVariables false
set_option linter.unusedSimpArgs false
set_option maxRecDepth 100000

def cOf (rs : List Int) (i : Nat) : Nat := if i < rs.length then (if rs.getD i 0 % 5 = 0 then 0 else 1) else 2
theorem evs_run1 (a : Nat) (ha : a ≤ 2) : EvsRun 1 (fun i => [a].getD i 2) := by
  have ga : a = 0 ∨ a = 1 ∨ a = 2 := by omega
  rcases ga with rfl | rfl | rfl
  · exact evsRun_1_0
  · exact evsRun_1_1
  · exact evsRun_1_2
theorem evs_run2 (a b : Nat) (ha : a ≤ 2) (hb : b ≤ 2) (m0 : a = 2 → b = 2) : EvsRun 2 (fun i => [a, b].getD i 2) := by
  have ga : a = 0 ∨ a = 1 ∨ a = 2 := by omega
  have gb : b = 0 ∨ b = 1 ∨ b = 2 := by omega
  rcases ga with rfl | rfl | rfl
  · rcases gb with rfl | rfl | rfl
    · exact evsRun_2_00
    · exact evsRun_2_01
    · exact evsRun_2_02
  · rcases gb with rfl | rfl | rfl
    · exact evsRun_2_10
    · exact evsRun_2_11
    · exact evsRun_2_12
  · rcases gb with rfl | rfl | rfl
    · exact absurd (m0 rfl) (by decide)
    · exact absurd (m0 rfl) (by decide)
    · exact evsRun_2_22
theorem evs_run3 (a b c : Nat) (ha : a ≤ 2) (hb : b ≤ 2) (hc : c ≤ 2) (m0 : a = 2 → b = 2) (m1 : b = 2 → c = 2) : EvsRun 3 (fun i => [a, b, c].getD i 2) := by
  have ga : a = 0 ∨ a = 1 ∨ a = 2 := by omega
  have gb : b = 0 ∨ b = 1 ∨ b = 2 := by omega
  have gc : c = 0 ∨ c = 1 ∨ c = 2 := by omega
  rcases ga with rfl | rfl | rfl
  · rcases gb with rfl | rfl | rfl
    · rcases gc with rfl | rfl | rfl
      · exact evsRun_3_000
      · exact evsRun_3_001
      · exact evsRun_3_002
    · rcases gc with rfl | rfl | rfl
      · exact evsRun_3_010
      · exact evsRun_3_011
      · exact evsRun_3_012
    · rcases gc with rfl | rfl | rfl
      · exact absurd (m1 rfl) (by decide)
      · exact absurd (m1 rfl) (by decide)
      · exact evsRun_3_022
  · rcases gb with rfl | rfl | rfl
    · rcases gc with rfl | rfl | rfl
      · exact evsRun_3_100
      · exact evsRun_3_101
      · exact evsRun_3_102
    · rcases gc with rfl | rfl | rfl
      · exact evsRun_3_110
      · exact evsRun_3_111
      · exact evsRun_3_112
    · rcases gc with rfl | rfl | rfl
      · exact absurd (m1 rfl) (by decide)
      · exact absurd (m1 rfl) (by decide)
      · exact evsRun_3_122
  · rcases gb with rfl | rfl | rfl
    · rcases gc with rfl | rfl | rfl
      · exact absurd (m0 rfl) (by decide)
      · exact absurd (m0 rfl) (by decide)
      · exact absurd (m0 rfl) (by decide)
    · rcases gc with rfl | rfl | rfl
      · exact absurd (m0 rfl) (by decide)
      · exact absurd (m0 rfl) (by decide)
      · exact absurd (m0 rfl) (by decide)
    · rcases gc with rfl | rfl | rfl
      · exact absurd (m1 rfl) (by decide)
      · exact absurd (m1 rfl) (by decide)
      · exact evsRun_3_222
theorem evs_shape (rs : List Int) {N : Nat} (h1 : 1 ≤ N) (h2 : N ≤ 3) : ∃ c : Nat → Nat, (∀ i, i < N → c i = cOf rs i) ∧ EvsRun N c := by
  have hle : ∀ i, cOf rs i ≤ 2 := by
    intro i
    unfold cOf
    split
    · split <;> decide
    · decide
  have hmo : ∀ i, cOf rs i = 2 → cOf rs (i + 1) = 2 := by
    intro i h
    unfold cOf at h ⊢
    split at h
    · split at h <;> cases h
    · rw [if_neg (by omega)]
  have : N = 1 ∨ N = 2 ∨ N = 3 := by omega
  rcases this with rfl | rfl | rfl
  · refine ⟨_, ?_, evs_run1 (cOf rs 0) (hle 0)⟩
    intro i hi
    match i, hi with
    | 0, _ => rfl
  · refine ⟨_, ?_, evs_run2 (cOf rs 0) (cOf rs 1) (hle 0) (hle 1) (hmo 0)⟩
    intro i hi
    match i, hi with
    | 0, _ => rfl
    | 1, _ => rfl
  · refine ⟨_, ?_, evs_run3 (cOf rs 0) (cOf rs 1) (cOf rs 2) (hle 0) (hle 1) (hle 2) (hmo 0) (hmo 1)⟩
    intro i hi
    match i, hi with
    | 0, _ => rfl
    | 1, _ => rfl
    | 2, _ => rfl

set_option maxHeartbeats 4000000 in
theorem tapeEvals_three {o o2 o3 : Option ABlk} {va vb vc : Value} {zs ms rs : List Int} (ha : Handed #[o, o2, o3] zs va) (hb : Handed #[o, o2, o3] ms vb) (hc : Handed #[o, o2, o3] rs vc) (n : Int) (dv : Bool) (m k : Int) :
    Tells 11 #[.int .i64 n, va, .bool dv, vb, vc, .int .i64 m, .int .i64 k] #[o, o2, o3] (.bool true) := by
  obtain ⟨n1, n2⟩ := mkN_le n
  generalize hN : mkN n = N at n1 n2
  obtain ⟨c, hcv, hrun⟩ := evs_shape rs n1 n2
  obtain ⟨ar, cr, rfl⟩ := hc.parts
  have hP : ∀ i, ∃ p : Addr, i < rs.length → indexAddrV Try.prog 23 (.slice ar rs.length cr) (.int .i64 (Int.ofNat i)) = some (.pointer (some p)) ∧ ∀ c : AHeap, readVar Try.prog (#[o, o2, o3] ++ c) 3 p = some (.int .i64 (rs.getD i 0)) := by
    intro i
    by_cases h : i < rs.length
    · obtain ⟨p, h1, h2⟩ := hc.get h
      exact ⟨p, fun _ => ⟨h1, h2⟩⟩
    · exact ⟨⟨0, 0, none⟩, fun h' => absurd h' h⟩
  obtain ⟨p, hp⟩ := Classical.axiomOfChoice hP
  obtain ⟨fr, hfr⟩ := Classical.axiomOfChoice (fun i : Nat => rare_any (rs.getD i 0))
  obtain ⟨fX, hfX⟩ := Classical.axiomOfChoice (fun i : Nat => make2_any (wr (m + Int.ofNat i)) k (if c i = 2 then 3 else rs.getD i 0))
  have r := hrun o o2 o3 n m k dv (mkM n zs) rs.length va vb ar cr (opsB (mkOps n zs dv) true).cells (intB (mkOut n (mkM n zs)) true).cells (fun i => vw8 (Fz (vlI ms i)))
    (evF n zs dv ((List.range N).map fun i => vw8 (Fz (vlI ms i)))) (evF n zs dv ((List.range N).map (xE c (fun i => vw8 (Fz (vlI ms i))) fr N))) fr fX (evP n zs dv ((List.range N).map fX)) p (fun i => rs.getD i 0) (fun i => rs.getD i 0 % 5) (fun i => wr (m + Int.ofNat i))
  have hh := fun (c : List (Option ABlk)) {zs : List Int} {v : Value} (h : Handed [o, o2, o3].toArray zs v) => h.list c
  have hrX : ∀ X ∈ (List.range N).map fX, Rt X := by
    intro X hX
    obtain ⟨i, _, rfl⟩ := List.mem_map.1 hX
    exact (hfX i).2
  have e3 : ∀ rest : List (Option ABlk), (o :: o2 :: o3 :: rest).toArray = #[o, o2, o3] ++ rest.toArray := fun rest => by
    apply Array.ext'
    simp
  refine tells_of r (okApp (okApp ?_ (each_ok _ _ fun i hi => ?_)) ?_)
  · have e1 := evF_rn (l := [o, o2, o3, opB (opsB (mkOps n zs dv) true).cells, iB (intB (mkOut n (mkM n zs)) true).cells, tcB 3 N (mkM n zs), nwF ((List.range N).map fun i => vw8 (Fz (vlI ms i)))]) n zs dv (xs := (List.range N).map fun i => vw8 (Fz (vlI ms i))) (bo := 3) (bu := 4) (bx := 6) (s := 7) hN rfl (by simp) (t := 0) (z := 0) rfl rfl rfl rfl rfl
    have e2 := evF_rn (l := [o, o2, o3, opB (opsB (mkOps n zs dv) true).cells, iB (intB (mkOut n (mkM n zs)) true).cells, tcB 3 N (mkM n zs), nwF ((List.range N).map fun i => vw8 (Fz (vlI ms i))), nwF ((List.range N).map (evF n zs dv ((List.range N).map fun i => vw8 (Fz (vlI ms i)))))]) n zs dv (xs := (List.range N).map fun i => vw8 (Fz (vlI ms i))) (bo := 3) (bu := 4) (bx := 6) (s := 8) hN rfl (by simp) (t := 0) (z := 0) rfl rfl rfl rfl rfl
    exact ⟨tapeKnown0, make_rn n dv (hh [] ha) hN rfl rfl, val_rn n1 (by omega) (hh [_, _, _] hb) rfl, e1.1, e2.2, rows_rn n1 (by omega) (fun i _ => same_refl _) rfl rfl rfl rfl, trivial⟩
  · have hin := List.mem_range.1 hi
    have hci := hcv i hin
    unfold stO
    refine okApp (okApp ⟨cmp_ok (decide_eq_true hin), trivial⟩ ?_) ⟨ar_add _ _, (hfX i).1, trivial⟩
    by_cases h2 : c i = 2
    · rw [if_pos h2]
      have hlt : ¬ i < rs.length := by
        intro h
        rw [hci] at h2
        unfold cOf at h2
        rw [if_pos h] at h2
        split at h2 <;> cases h2
      exact ⟨cmp_ok (decide_eq_false hlt), trivial⟩
    · rw [if_neg h2]
      have hlt : i < rs.length := by
        refine Decidable.byContradiction fun h => h2 ?_
        rw [hci]
        unfold cOf
        rw [if_neg h]
      obtain ⟨p1, p2⟩ := hp i hlt
      have hmem : readVar Try.prog (hpL o o2 o3 N (mkM n zs) (opsB (mkOps n zs dv) true).cells (intB (mkOut n (mkM n zs)) true).cells c (fun i => vw8 (Fz (vlI ms i))) (evF n zs dv ((List.range N).map fun i => vw8 (Fz (vlI ms i)))) fr fX i).toArray 3 (p i) = some (.int .i64 (rs.getD i 0)) := by
        have := p2 ([opB (opsB (mkOps n zs dv) true).cells, iB (intB (mkOut n (mkM n zs)) true).cells, tcB 3 N (mkM n zs), nwF ((List.range N).map (xE c (fun i => vw8 (Fz (vlI ms i))) fr i)), nwF ((List.range N).map (evF n zs dv ((List.range N).map fun i => vw8 (Fz (vlI ms i))))), nwF ((List.range N).map (evF n zs dv ((List.range N).map fun i => vw8 (Fz (vlI ms i)))))] ++ grRi i fX).toArray
        rw [← e3] at this
        exact this
      refine okApp ⟨cmp_ok (decide_eq_true hlt), p1, hmem, wi_ok _ (n := 5) (by omega) (by omega), trivial⟩ ?_
      by_cases h0 : c i = 0
      · rw [if_pos h0]
        have h5 : rs.getD i 0 % 5 = 0 := by
          rw [hci] at h0
          unfold cOf at h0
          rw [if_pos hlt] at h0
          split at h0
          · assumption
          · cases h0
        exact ⟨(cmp_eqlT _ _).trans (congrArg some (decide_eq_true h5)), quiet_rn (hfr i) rfl rfl _, trivial⟩
      · rw [if_neg h0]
        have h5 : ¬ rs.getD i 0 % 5 = 0 := by
          intro h
          apply h0
          rw [hci]
          unfold cOf
          rw [if_pos hlt, if_pos h]
        exact ⟨(cmp_eqlT _ _).trans (congrArg some (decide_eq_false h5)), trivial⟩
  · have hlen : (hpL o o2 o3 N (mkM n zs) (opsB (mkOps n zs dv) true).cells (intB (mkOut n (mkM n zs)) true).cells c (fun i => vw8 (Fz (vlI ms i))) (evF n zs dv ((List.range N).map fun i => vw8 (Fz (vlI ms i)))) fr fX N).length = 9 + 2 * N := by
      unfold hpL
      rw [List.length_append, (grRi_last n1 n2 fX).1]
      rfl
    have hlast : (hpL o o2 o3 N (mkM n zs) (opsB (mkOps n zs dv) true).cells (intB (mkOut n (mkM n zs)) true).cells c (fun i => vw8 (Fz (vlI ms i))) (evF n zs dv ((List.range N).map fun i => vw8 (Fz (vlI ms i)))) fr fX N)[8 + 2 * N]? = some (some ⟨((List.range N).flatMap fun i => pC (fX i)).toArray, 39, 2, true⟩) := by
      unfold hpL
      rw [List.getElem?_append_right (by simp; omega)]
      rw [show 8 + 2 * N - [o, o2, o3, opB (opsB (mkOps n zs dv) true).cells, iB (intB (mkOut n (mkM n zs)) true).cells, tcB 3 N (mkM n zs), nwF ((List.range N).map (xE c (fun i => vw8 (Fz (vlI ms i))) fr N)), nwF ((List.range N).map (evF n zs dv ((List.range N).map fun i => vw8 (Fz (vlI ms i))))), nwF ((List.range N).map (evF n zs dv ((List.range N).map fun i => vw8 (Fz (vlI ms i)))))].length = 2 * N - 1 by simp; omega]
      exact (grRi_last n1 n2 fX).2
    generalize hH : hpL o o2 o3 N (mkM n zs) (opsB (mkOps n zs dv) true).cells (intB (mkOut n (mkM n zs)) true).cells c (fun i => vw8 (Fz (vlI ms i))) (evF n zs dv ((List.range N).map fun i => vw8 (Fz (vlI ms i)))) fr fX N = HH at hlen hlast
    have q3 : HH[3]? = some (opB (opsB (mkOps n zs dv) true).cells) := by rw [← hH]; rfl
    have q4 : HH[4]? = some (iB (intB (mkOut n (mkM n zs)) true).cells) := by rw [← hH]; rfl
    have q6 : HH[6]? = some (nwF ((List.range N).map (xE c (fun i => vw8 (Fz (vlI ms i))) fr N))) := by rw [← hH]; rfl
    have hl : HH.length > 8 := by omega
    have ap : ∀ {i : Nat} {x : Option ABlk} (c : List (Option ABlk)), HH[i]? = some x → (HH ++ c)[i]? = some x := by
      intro i x c h
      rw [List.getElem?_append_left (List.getElem?_eq_some_iff.1 h).1]; exact h
    have nw : ∀ (i : Nat) (c : List (Option ABlk)), (HH ++ c)[9 + 2 * N + i]? = c[i]? := by
      intro i c
      rw [List.getElem?_append_right (by omega), hlen, Nat.add_sub_cancel_left]
    have e1 := evF_rn (l := HH) n zs dv (xs := (List.range N).map (xE c (fun i => vw8 (Fz (vlI ms i))) fr N)) (bo := 3) (bu := 4) (bx := 6) (s := 9 + 2 * N) hN rfl (by simp) (t := 0) (z := 0) q3 q4 q6 rfl hlen.symm
    have e2 := evF_rn (l := HH ++ [nwF ((List.range N).map (evF n zs dv ((List.range N).map (xE c (fun i => vw8 (Fz (vlI ms i))) fr N))))]) n zs dv (xs := (List.range N).map (xE c (fun i => vw8 (Fz (vlI ms i))) fr N)) (bo := 3) (bu := 4) (bx := 6) (s := 10 + 2 * N) hN rfl (by simp) (t := 0) (z := 0) (ap _ q3) (ap _ q4) (ap _ q6) rfl (by simp [hlen]; omega)
    have e3 := evP_rn (l := HH ++ [nwF ((List.range N).map (evF n zs dv ((List.range N).map (xE c (fun i => vw8 (Fz (vlI ms i))) fr N)))), nwF ((List.range N).map (evF n zs dv ((List.range N).map (xE c (fun i => vw8 (Fz (vlI ms i))) fr N))))]) n zs dv (xs := (List.range N).map fX) hrX (bo := 3) (bu := 4) (bx := 8 + 2 * N) (s := 11 + 2 * N) hN rfl (by simp) (t := 0) (z := 0) (ap _ q3) (ap _ q4) (ap _ hlast) (by rw [List.flatMap_map]) (by simp [hlen]; omega)
    have e4 := evP_rn (l := HH ++ [nwF ((List.range N).map (evF n zs dv ((List.range N).map (xE c (fun i => vw8 (Fz (vlI ms i))) fr N)))), nwF ((List.range N).map (evF n zs dv ((List.range N).map (xE c (fun i => vw8 (Fz (vlI ms i))) fr N)))), nwP ((List.range N).map (evP n zs dv ((List.range N).map fX)))]) n zs dv (xs := (List.range N).map fX) hrX (bo := 3) (bu := 4) (bx := 8 + 2 * N) (s := 12 + 2 * N) hN rfl (by simp) (t := 0) (z := 0) (ap _ q3) (ap _ q4) (ap _ hlast) (by rw [List.flatMap_map]) (by simp [hlen]; omega)
    have n0 := nw 0
    have n1' := nw 1
    have n2' := nw 2
    have n3' := nw 3
    rw [show 9 + 2 * N + 1 = 10 + 2 * N by omega] at n1'
    rw [show 9 + 2 * N + 2 = 11 + 2 * N by omega] at n2'
    rw [show 9 + 2 * N + 3 = 12 + 2 * N by omega] at n3'
    exact ⟨cmp_ok (decide_eq_false (by omega)), e1.1, e2.2, rows_rn n1 (by omega) (fun i _ => same_refl _) (n0 _) rfl (n1' _) rfl, e3.1, e4.2, rowsP_rn n1 (by omega) (fun i _ => ivSame_refl _) (n2' _) rfl (n3' _) rfl, trivial⟩

end Go.Proofs.Ytpmdpbljgidllaa
