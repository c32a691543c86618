/- The law JacAll returns true, whatever the numbers. -/
import Derived.Test.YtdlinjijccnaeaaJqA
namespace Go.Proofs.Ytdlinjijccnaeaa
open Go
set_option linter.unusedVariables false
set_option linter.unusedSimpArgs false
set_option maxRecDepth 100000

def cOf (rs : List Int) (i : Nat) : Nat := if i < rs.length then (if rs.getD i 0 % 5 = 0 then 0 else 1) else 2
theorem ja_run1 (a : Nat) (ha : a ≤ 2) : JaRun 1 (fun i => [a].getD i 2) := by
  have ga : a = 0 ∨ a = 1 ∨ a = 2 := by omega
  rcases ga with rfl | rfl | rfl
  · exact jaRun_1_0
  · exact jaRun_1_1
  · exact jaRun_1_2
theorem ja_run2 (a b : Nat) (ha : a ≤ 2) (hb : b ≤ 2) (m0 : a = 2 → b = 2) : JaRun 2 (fun i => [a, b].getD i 2) := by
  have ga : a = 0 ∨ a = 1 ∨ a = 2 := by omega
  have gb : b = 0 ∨ b = 1 ∨ b = 2 := by omega
  rcases ga with rfl | rfl | rfl
  · rcases gb with rfl | rfl | rfl
    · exact jaRun_2_00
    · exact jaRun_2_01
    · exact jaRun_2_02
  · rcases gb with rfl | rfl | rfl
    · exact jaRun_2_10
    · exact jaRun_2_11
    · exact jaRun_2_12
  · rcases gb with rfl | rfl | rfl
    · exact absurd (m0 rfl) (by decide)
    · exact absurd (m0 rfl) (by decide)
    · exact jaRun_2_22
theorem ja_run3 (a b c : Nat) (ha : a ≤ 2) (hb : b ≤ 2) (hc : c ≤ 2) (m0 : a = 2 → b = 2) (m1 : b = 2 → c = 2) : JaRun 3 (fun i => [a, b, c].getD i 2) := by
  have ga : a = 0 ∨ a = 1 ∨ a = 2 := by omega
  have gb : b = 0 ∨ b = 1 ∨ b = 2 := by omega
  have gc : c = 0 ∨ c = 1 ∨ c = 2 := by omega
  rcases ga with rfl | rfl | rfl
  · rcases gb with rfl | rfl | rfl
    · rcases gc with rfl | rfl | rfl
      · exact jaRun_3_000
      · exact jaRun_3_001
      · exact jaRun_3_002
    · rcases gc with rfl | rfl | rfl
      · exact jaRun_3_010
      · exact jaRun_3_011
      · exact jaRun_3_012
    · rcases gc with rfl | rfl | rfl
      · exact absurd (m1 rfl) (by decide)
      · exact absurd (m1 rfl) (by decide)
      · exact jaRun_3_022
  · rcases gb with rfl | rfl | rfl
    · rcases gc with rfl | rfl | rfl
      · exact jaRun_3_100
      · exact jaRun_3_101
      · exact jaRun_3_102
    · rcases gc with rfl | rfl | rfl
      · exact jaRun_3_110
      · exact jaRun_3_111
      · exact jaRun_3_112
    · rcases gc with rfl | rfl | rfl
      · exact absurd (m1 rfl) (by decide)
      · exact absurd (m1 rfl) (by decide)
      · exact jaRun_3_122
  · rcases gb with rfl | rfl | rfl
    · rcases gc with rfl | rfl | rfl
      · exact absurd (m0 rfl) (by decide)
      · exact absurd (m0 rfl) (by decide)
      · exact absurd (m0 rfl) (by decide)
    · rcases gc with rfl | rfl | rfl
      · exact absurd (m0 rfl) (by decide)
      · exact absurd (m0 rfl) (by decide)
      · exact absurd (m0 rfl) (by decide)
    · rcases gc with rfl | rfl | rfl
      · exact absurd (m1 rfl) (by decide)
      · exact absurd (m1 rfl) (by decide)
      · exact jaRun_3_222
theorem ja_shape (rs : List Int) {N : Nat} (h1 : 1 ≤ N) (h2 : N ≤ 3) : ∃ c : Nat → Nat, (∀ i, i < N → c i = cOf rs i) ∧ JaRun N c := by
  have hle : ∀ i, cOf rs i ≤ 2 := by
    intro i
    unfold cOf
    split
    · split <;> decide
    · decide
  have hmo : ∀ i, cOf rs i = 2 → cOf rs (i + 1) = 2 := by
    intro i h
    unfold cOf at h ⊢
    split at h
    · split at h <;> cases h
    · rw [if_neg (by omega)]
  have : N = 1 ∨ N = 2 ∨ N = 3 := by omega
  rcases this with rfl | rfl | rfl
  · refine ⟨_, ?_, ja_run1 (cOf rs 0) (hle 0)⟩
    intro i hi
    match i, hi with
    | 0, _ => rfl
  · refine ⟨_, ?_, ja_run2 (cOf rs 0) (cOf rs 1) (hle 0) (hle 1) (hmo 0)⟩
    intro i hi
    match i, hi with
    | 0, _ => rfl
    | 1, _ => rfl
  · refine ⟨_, ?_, ja_run3 (cOf rs 0) (cOf rs 1) (cOf rs 2) (hle 0) (hle 1) (hle 2) (hmo 0) (hmo 1)⟩
    intro i hi
    match i, hi with
    | 0, _ => rfl
    | 1, _ => rfl
    | 2, _ => rfl

theorem knownJa : Runs Try.prog 12 #[] #[] (.bool true) #[] := by
  have h : (askN noF noC 12 12 #[] #[] []).map (fun r => (r.1, r.2.2)) = some (.bool true, []) := by kernel_rfl
  obtain ⟨H', h⟩ := tells_of h trivial
  exact h.quiet rfl rfl #[]
theorem tb_ok {s : Nat → Nat → Obl} (N : Nat) (h : ∀ i j, (s i j).ok Try.prog) : okAll Try.prog (tbO N s) :=
  okApp' (each_ok _ _ fun i hi => okApp' (okApp' ⟨cmp_ok (decide_eq_true (List.mem_range.1 hi)), trivial⟩ (each_ok _ _ fun j hj => ⟨cmp_ok (decide_eq_true (List.mem_range.1 hj)), h i j, trivial⟩)) ⟨cmp_ok (decide_eq_false (by omega)), trivial⟩) ⟨cmp_ok (decide_eq_false (by omega)), trivial⟩
set_option maxHeartbeats 4000000 in
theorem jacAll_three {o o2 o3 : Option ABlk} {va vb vc : Value} {zs ms rs : List Int} (ha : Handed #[o, o2, o3] zs va) (hb : Handed #[o, o2, o3] ms vb) (hc : Handed #[o, o2, o3] rs vc) (n : Int) (dv : Bool) (m k : Int) :
    Tells 10 #[.int .i64 n, va, .bool dv, vb, vc, .int .i64 m, .int .i64 k] #[o, o2, o3] (.bool true) := by
  obtain ⟨n1, n2⟩ := mkN_le n
  generalize hN : mkN n = N at n1 n2
  obtain ⟨c, hcv, hrun⟩ := ja_shape rs n1 n2
  obtain ⟨ar, cr, rfl⟩ := hc.parts
  have hP : ∀ i, ∃ p : Addr, i < rs.length → indexAddrV Try.prog 22 (.slice ar rs.length cr) (.int .i64 (Int.ofNat i)) = some (.pointer (some p)) ∧ ∀ c : AHeap, readVar Try.prog (#[o, o2, o3] ++ c) 3 p = some (.int .i64 (rs.getD i 0)) := by
    intro i
    by_cases h : i < rs.length
    · obtain ⟨p, h1, h2⟩ := hc.get h
      exact ⟨p, fun _ => ⟨h1, h2⟩⟩
    · exact ⟨⟨0, 0, none⟩, fun h' => absurd h' h⟩
  obtain ⟨p, hp⟩ := Classical.axiomOfChoice hP
  obtain ⟨fr, hfr⟩ := Classical.axiomOfChoice (fun i : Nat => rare_any (rs.getD i 0))
  obtain ⟨fX, hfX⟩ := Classical.axiomOfChoice (fun i : Nat => make2_any (wr (m + Int.ofNat i)) k (if c i = 2 then 3 else rs.getD i 0))
  let fx : Nat → Nat := fun i => vw8 (Fz (vlI ms i))
  let co := (opsB (mkOps n zs dv) true).cells
  let cu := (intB (mkOut n (mkM n zs)) true).cells
  let xs : List Nat := (List.range N).map fx
  let ys : List Nat := (List.range N).map (xEj c fx fr N)
  let Xs : List P2 := (List.range N).map fX
  let R := evD n zs dv xs
  let R2 := evD n zs dv ys
  let RI := evDI n zs dv Xs
  have r := hrun o o2 o3 n m k dv (mkM n zs) rs.length va vb ar cr co cu fx fr R R2 RI fX p (fun i => rs.getD i 0) (fun i => rs.getD i 0 % 5) (fun i => wr (m + Int.ofNat i))
  have hh := fun (c : List (Option ABlk)) {zs : List Int} {v : Value} (h : Handed [o, o2, o3].toArray zs v) => h.list c
  have hrX : ∀ X ∈ Xs, Rt X := by
    intro X hX
    obtain ⟨i, _, rfl⟩ := List.mem_map.1 hX
    exact (hfX i).2
  have lt : ∀ c R, (tabJ c N R).length = N + 1 := fun c R => tab_len c N R
  have ltI : ∀ c R, (tabJI c N R).length = N + 1 := fun c R => tab_lenI c N R
  have e3 : ∀ rest : List (Option ABlk), (o :: o2 :: o3 :: rest).toArray = #[o, o2, o3] ++ rest.toArray := fun rest => by
    apply Array.ext'
    simp
  have hlen : (hpLj o o2 o3 N (mkM n zs) co cu c fx fr R fX N).length = 9 + 4 * N := by
    unfold hpLj
    rw [List.length_append, List.length_append, List.length_append, lt, lt, (grRj_last n1 n2 fX).1]
    show 7 + (N + 1) + (N + 1) + 2 * N = _
    omega
  have hlast : (hpLj o o2 o3 N (mkM n zs) co cu c fx fr R fX N)[8 + 4 * N]? = some (nwPj Xs) := by
    have hl : ([o, o2, o3, opB co, iB cu, tcB 3 N (mkM n zs), nwF ((List.range N).map (xEj c fx fr N))] ++ tabJ 7 N R ++ tabJ (8 + N) N R).length = 9 + 2 * N := by
      rw [List.length_append, List.length_append, lt, lt]
      show 7 + (N + 1) + (N + 1) = _
      omega
    unfold hpLj
    rw [List.getElem?_append_right (by omega), hl, show 8 + 4 * N - (9 + 2 * N) = 2 * N - 1 by omega, (grRj_last n1 n2 fX).2]
    show _ = some (some (⟨(Xs.flatMap pC).toArray, 29, 2, true⟩ : ABlk))
    rw [show Xs = (List.range N).map fX from rfl, List.flatMap_map]
  have q3 : (hpLj o o2 o3 N (mkM n zs) co cu c fx fr R fX N)[3]? = some (opB co) := rfl
  have q4 : (hpLj o o2 o3 N (mkM n zs) co cu c fx fr R fX N)[4]? = some (iB cu) := rfl
  have q6 : (hpLj o o2 o3 N (mkM n zs) co cu c fx fr R fX N)[6]? = some (nwF ys) := rfl
  generalize hHH : hpLj o o2 o3 N (mkM n zs) co cu c fx fr R fX N = HH at hlen hlast q3 q4 q6 r
  have ap : ∀ {i : Nat} {x : Option ABlk} (c : List (Option ABlk)), HH[i]? = some x → (HH ++ c)[i]? = some x := by
    intro i x c h
    rw [List.getElem?_append_left (List.getElem?_eq_some_iff.1 h).1]; exact h
  have ap2 : ∀ {i : Nat} {x : Option ABlk} (c c2 : List (Option ABlk)), HH[i]? = some x → (HH ++ c ++ c2)[i]? = some x := by
    intro i x c c2 h
    rw [List.append_assoc]; exact ap _ h
  have ap3 : ∀ {i : Nat} {x : Option ABlk} (c c2 c3 : List (Option ABlk)), HH[i]? = some x → (HH ++ c ++ c2 ++ c3)[i]? = some x := by
    intro i x c c2 c3 h
    rw [List.append_assoc, List.append_assoc]; exact ap _ h
  refine tells_of r (okApp' (okApp' (okApp' (okApp' (okApp' (okApp' ?_ (tb_ok (s := smF R) N fun _ _ => same_refl _)) (each_ok _ _ fun i hi => ?_)) ?_) (tb_ok (s := smF R2) N fun _ _ => same_refl _)) ?_) (tb_ok (s := smI RI) N fun _ _ => ivSame_refl _))
  · have j1 := jacs_rn (l := [o, o2, o3, opB co, iB cu, tcB 3 N (mkM n zs), nwF xs]) n zs dv (xs := xs) (bo := 3) (bu := 4) (bx := 6) (s := 7) hN rfl (by simp [xs]) rfl rfl rfl (by decide) (by decide) (by decide) rfl
    have j2 := jacs_rn (l := [o, o2, o3, opB co, iB cu, tcB 3 N (mkM n zs), nwF xs] ++ tabJ 7 N R) n zs dv (xs := xs) (bo := 3) (bu := 4) (bx := 6) (s := 8 + N) hN rfl (by simp [xs]) rfl rfl rfl (by decide) (by decide) (by decide) (by rw [List.length_append, lt]; show 8 + N = 7 + (N + 1); omega)
    rw [show 8 + N + N = 8 + 2 * N by omega] at j2
    exact ⟨knownJa, make_rn n dv (hh [] ha) hN rfl rfl, val_rn n1 (by omega) (hh [_, _, _] hb) rfl, j1.1, j2.2, trivial⟩
  · have hin := List.mem_range.1 hi
    have hci := hcv i hin
    unfold stOj
    refine okApp' (okApp' ⟨cmp_ok (decide_eq_true hin), trivial⟩ ?_) ⟨ar_add _ _, (hfX i).1, trivial⟩
    by_cases h2 : c i = 2
    · rw [if_pos h2]
      have hlt : ¬ i < rs.length := by
        intro h
        rw [hci] at h2
        unfold cOf at h2
        rw [if_pos h] at h2
        split at h2 <;> cases h2
      exact ⟨cmp_ok (decide_eq_false hlt), trivial⟩
    · rw [if_neg h2]
      have hlt : i < rs.length := by
        refine Decidable.byContradiction fun h => h2 ?_
        rw [hci]
        unfold cOf
        rw [if_neg h]
      obtain ⟨p1, p2⟩ := hp i hlt
      have hmem : readVar Try.prog (hpLj o o2 o3 N (mkM n zs) co cu c fx fr R fX i).toArray 3 (p i) = some (.int .i64 (rs.getD i 0)) := by
        have := p2 ([opB co, iB cu, tcB 3 N (mkM n zs), nwF ((List.range N).map (xEj c fx fr i))] ++ tabJ 7 N R ++ tabJ (8 + N) N R ++ grRi i fX).toArray
        rw [← e3] at this
        exact this
      refine okApp' ⟨cmp_ok (decide_eq_true hlt), p1, hmem, within4 _ 4 (by decide), trivial⟩ ?_
      by_cases h0 : c i = 0
      · rw [if_pos h0]
        have h5 : rs.getD i 0 % 5 = 0 := by
          rw [hci] at h0
          unfold cOf at h0
          rw [if_pos hlt] at h0
          split at h0
          · assumption
          · cases h0
        exact ⟨(cmp_eqlT _ _).trans (congrArg some (decide_eq_true h5)), quiet_rn (hfr i) rfl rfl _, trivial⟩
      · rw [if_neg h0]
        have h5 : ¬ rs.getD i 0 % 5 = 0 := by
          intro h
          apply h0
          rw [hci]
          unfold cOf
          rw [if_pos hlt, if_pos h]
        exact ⟨(cmp_eqlT _ _).trans (congrArg some (decide_eq_false h5)), trivial⟩
  · refine ⟨cmp_ok (decide_eq_false (by omega)), ?_, ?_, trivial⟩
    · have e1 := (jacs_rn (l := HH) n zs dv (xs := ys) (bo := 3) (bu := 4) (bx := 6) (s := 9 + 4 * N) hN rfl (by simp [ys]) q3 q4 q6 (by decide) (by decide) (by decide) hlen.symm).1
      rw [show 9 + 4 * N + N = 9 + 5 * N by omega] at e1
      exact e1
    · have e2 := (jacs_rn (l := HH ++ tabJ (9 + 4 * N) N R2) n zs dv (xs := ys) (bo := 3) (bu := 4) (bx := 6) (s := 10 + 5 * N) hN rfl (by simp [ys]) (ap _ q3) (ap _ q4) (ap _ q6) (by decide) (by decide) (by decide) (by rw [List.length_append, hlen, lt]; omega)).2
      rw [show 10 + 5 * N + N = 10 + 6 * N by omega] at e2
      exact e2
  · refine ⟨?_, ?_, trivial⟩
    · have e1 := (jacI_rn (l := HH ++ tabJ (9 + 4 * N) N R2 ++ tabJ (10 + 5 * N) N R2) n zs dv (xs := Xs) (mk_rtD n zs dv hrX) (bo := 3) (bu := 4) (bx := 8 + 4 * N) (s := 11 + 6 * N) hN rfl (by simp [Xs]) (ap2 _ _ q3) (ap2 _ _ q4) (ap2 _ _ hlast) (by decide) (by omega) (by omega) (by rw [List.length_append, List.length_append, hlen, lt, lt]; omega)).1
      rw [show 11 + 6 * N + N = 11 + 7 * N by omega] at e1
      exact e1
    · have e2 := (jacI_rn (l := HH ++ tabJ (9 + 4 * N) N R2 ++ tabJ (10 + 5 * N) N R2 ++ tabJI (11 + 6 * N) N RI) n zs dv (xs := Xs) (mk_rtD n zs dv hrX) (bo := 3) (bu := 4) (bx := 8 + 4 * N) (s := 12 + 7 * N) hN rfl (by simp [Xs]) (ap3 _ _ _ q3) (ap3 _ _ _ q4) (ap3 _ _ _ hlast) (by decide) (by omega) (by omega) (by rw [List.length_append, List.length_append, List.length_append, hlen, lt, lt, ltI]; omega)).2
      rw [show 12 + 7 * N + N = 12 + 8 * N by omega] at e2
      exact e2

end Go.Proofs.Ytdlinjijccnaeaa
