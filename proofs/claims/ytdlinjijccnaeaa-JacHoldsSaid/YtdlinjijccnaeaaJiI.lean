/- JiF / JiG / JiH / JiI: several texts in one. -/
import Derived.Test.YtdlinjijccnaeaaJiZ
import Derived.Test.YtdlinjijccnaeaaJcI
/-!  jac's run of from-tos: its rounds in a row. -/
namespace Go.Proofs.Ytdlinjijccnaeaa
open Go
set_option linter.unusedVariables false
set_option linter.unusedSimpArgs false
set_option maxRecDepth 100000

theorem HJ_posI {b0 b1 b2 : Option ABlk} {N M k : Nat} {V : Nat → P2} {S : Nat → Nat → P2} (h : k ≠ 0) : HJI b0 b1 b2 N M k V S = b0 :: b1 :: b2 :: kdBI :: tbE N M :: rgBoI true (rgsI V (fun j => slV (6 + j) N) k) :: (List.range k).map (dJI N S) := by
  unfold HJI
  rw [if_neg h]
  rfl
theorem rgs_succI (V : Nat → P2) (W : Nat → Value) (k : Nat) : rgsI V W (k + 1) = rgsI V W k ++ [(V k, W k)] := by
  unfold rgsI
  rw [List.range_succ, List.map_append]
  rfl
theorem kdB_ownI {z : Nat} {ρ : Nat → Nat} {l : List (Option ABlk)} {l' : List (Option (Option ABlk))} (t : RelBs z ρ l l') : RelBs z ρ (kdBI :: l) (some kdBI :: l') := by
  refine relBs_own (fun i v hv => ?_) t
  match i, hv with
  | 0, hv => injection hv with hv; subst hv; rfl
  | 1, hv => injection hv with hv; subst hv; rfl
  | 2, hv => injection hv with hv; subst hv; rfl
  | 3, hv => injection hv with hv; subst hv; rfl
  | 4, hv => injection hv with hv; subst hv; rfl
  | n + 5, hv => simp [kdI, Value.cells] at hv
def dJbI (N : Nat) (S : Nat → Nat → P2) (j : Nat) : ABlk := ⟨(((List.range N).map (S j)).flatMap pC).toArray, 29, 2, true⟩
theorem dJ_clI (N : Nat) (S : Nat → Nat → P2) (j : Nat) (i : Nat) (v : Value) (h : (dJbI N S j).cells[i]? = some v) : closN 4 v = true := plain_flat pC_cl ((List.range N).map (S j)) 29 2 true i v h
section
variable {b0 b1 b2 : Option ABlk} {N : Nat} {ops : List OpD} {out : List Int} {xs : List P2} {V : Nat → P2} {S : Nat → Nat → P2}
theorem entJI (p0 : PlO b0) (p1 : PlO b1) (p2 : PlO b2) (M k : Nat) (hk : k < 13) (h1 : 1 ≤ N) (h3 : N ≤ 4) :
    EntOK 3 [2, 3, 4, 7, 16, 17, 18] (RJ N k) (outJI b0 b1 b2 N M k V S (V k) (S k)) (tmA 73 (LJ N M (k + 1))) (HJI b0 b1 b2 N M (k + 1) V S).toArray := by
  have hl : (HJI b0 b1 b2 N M (k + 1) V S).length = 7 + k := by
    rw [HJ_posI (by omega)]; simp; omega
  refine entOK (H2 := HJI b0 b1 b2 N M (k + 1) V S) rfl rfl (RJ_nodup k hk N (by omega) h1) ?_ ?_
  · rw [hl]
    refine .cons (.slice 2 2 0 none _ _ _ (by omega) rfl) (.cons (.ptr 3 3 0 none (by omega) rfl) (.cons (.ptr 4 4 0 none (by omega) rfl) (.cons ?_ (.cons (.slice 0 0 0 none _ _ _ (by omega) rfl) (.cons (.clos rfl) (.cons (.clos rfl) .nil))))))
    show RelA _ _ (rvJ 5 (k + 1)) _
    rw [rvJ_pos (by omega)]
    exact .slice 5 _ 0 none _ _ _ (by omega) rfl
  · rw [hl, HJ_posI (by omega)]
    refine relBs_pl p0 (relBs_pl p1 (relBs_pl p2 (kdB_ownI (tbE_relJ (by omega) rfl rfl N M ?_))))
    refine .some (RelK.list ?_) ?_
    · rw [rgs_succI, List.flatMap_append, List.flatMap_append]
      refine relAs_app (relRgsI V _ _ (List.range k) fun j hj => ?_) (.cons (.clos rfl) (.cons (.clos rfl) (.cons ?_ .nil)))
      · have hj := List.mem_range.1 hj
        exact .slice (6 + j) (6 + j) 0 none _ _ _ (by omega) (RJ_old k hk N (by omega) j hj)
      · exact .slice (6 + k) _ 0 none _ _ _ (by omega) (RJ_new k hk N (by omega))
    · rw [List.range_succ, List.map_append]
      exact relBs_app (relBs_map (dJbI N S) (dJ_clI N S) (List.range k)) (relBs_own (dJ_clI N S k) .nil)
theorem entJeI (p0 : PlO b0) (p1 : PlO b1) (p2 : PlO b2) (M k : Nat) (hk : k < 14) :
    EntOK 3 [2, 3, 4, 7, 16, 17, 18] (RJe k) (73, (LJ N M k).map (·.2), (HJI b0 b1 b2 N M k V S).map some) (tmA 73 (LJ N M k)) (HJI b0 b1 b2 N M k V S).toArray := by
  refine entOK (H2 := HJI b0 b1 b2 N M k V S) rfl rfl (RJe_nodup k hk) ?_ ?_
  · by_cases h : k = 0
    · subst h
      have hl : (HJI b0 b1 b2 N M 0 V S).length = 5 := rfl
      rw [hl]
      exact .cons (.slice 2 2 0 none _ _ _ (by omega) rfl) (.cons (.ptr 3 3 0 none (by omega) rfl) (.cons (.ptr 4 4 0 none (by omega) rfl) (.cons (.clos rfl) (.cons (.slice 0 0 0 none _ _ _ (by omega) rfl) (.cons (.clos rfl) (.cons (.clos rfl) .nil))))))
    · have hl : (HJI b0 b1 b2 N M k V S).length = 6 + k := by rw [HJ_posI h]; simp; omega
      rw [hl]
      refine .cons (.slice 2 2 0 none _ _ _ (by omega) rfl) (.cons (.ptr 3 3 0 none (by omega) rfl) (.cons (.ptr 4 4 0 none (by omega) rfl) (.cons ?_ (.cons (.slice 0 0 0 none _ _ _ (by omega) rfl) (.cons (.clos rfl) (.cons (.clos rfl) .nil))))))
      show RelA _ _ (rvJ 5 k) (rvJ 5 k)
      rw [rvJ_pos h]
      refine .slice 5 5 0 none _ _ _ (by omega) ?_
      unfold RJe
      rw [if_neg h]
      rfl
  · by_cases h : k = 0
    · subst h
      exact relBs_pl p0 (relBs_pl p1 (relBs_pl p2 (kdB_ownI (tbE_relJ (show 3 ≤ 5 by decide) rfl rfl N M .nil))))
    · have hl : (HJI b0 b1 b2 N M k V S).length = 6 + k := by rw [HJ_posI h]; simp; omega
      rw [hl, HJ_posI h]
      have e0 : (RJe k).getD 0 0 = 0 := by unfold RJe; rfl
      have e1 : (RJe k).getD 1 0 = 1 := by unfold RJe; rfl
      refine relBs_pl p0 (relBs_pl p1 (relBs_pl p2 (kdB_ownI (tbE_relJ (ρ := fun b => (RJe k).getD b 0) (by omega) e0 e1 N M ?_))))
      refine .some (RelK.list (relRgsI V _ _ (List.range k) fun j hj => ?_)) ?_
      · have hj := List.mem_range.1 hj
        exact .slice (6 + j) (6 + j) 0 none _ _ _ (by omega) (RJe_at k hk (by omega) j hj)
      · have := relBs_map (z := 6 + k) (ρ := fun b => (RJe k).getD b 0) (dJbI N S) (dJ_clI N S) (List.range k)
        rw [List.map_map]
        exact this
theorem HJ_getI {M k j : Nat} (h : j < k) (c : List (Option ABlk)) : (HJI b0 b1 b2 N M k V S ++ c)[6 + j]? = some (dJI N S j) := by
  rw [HJ_posI (by omega), List.getElem?_append_left (by simp; omega)]
  rw [show 6 + j = j + 1 + 1 + 1 + 1 + 1 + 1 by omega]
  simp only [List.getElem?_cons_succ, List.getElem?_map, List.getElem?_range h, Option.map_some]
theorem HJ_rgI {M k : Nat} (h : k ≠ 0) (c : List (Option ABlk)) : (HJI b0 b1 b2 N M k V S ++ c)[5]? = some (rgBoI true (rgsI V (fun j => slV (6 + j) N) k)) := by
  rw [HJ_posI h]
  rfl
theorem roundJI (h : EvG pC b0 b1 b2 N ops out xs) (p0 : PlO b0) (p1 : PlO b1) (p2 : PlO b2) (hb2 : ∃ ow, b2 = some ⟨(xs.flatMap pC).toArray, 29, 2, ow⟩) (hr : ∀ j, Rt (V j)) (hV : ∀ k o, ops[k]? = some o → V k = vStepI xs V o) (hS : ∀ k o, ops[k]? = some o → ∀ i, S k i = sStepI V S (V k) o i)
    {k : Nat} {o : OpD} (ho : ops[k]? = some o) (hk : k < 13) (h1 : 1 ≤ N) (h3 : N ≤ 4) :
    CodeB Try.prog 3 bodyJrI (tmA 73 (LJ N ops.length k)) (HJI b0 b1 b2 N ops.length k V S).toArray (.normal, tmA 73 (LJ N ops.length (k + 1)), (HJI b0 b1 b2 N ops.length (k + 1) V S).toArray) := by
  have hok := h.ok k o ho
  have hd := h.head ho (H := HJI b0 b1 b2 N ops.length k V S) rfl
  obtain ⟨ow, hb2⟩ := hb2
  refine rndB_toL (rdJI h1 h3 hk b0 b1 b2 ops.length ⟨0, k * 4, none⟩ o.K o.A o.B o.C (V k) V S (S k)) okJrI ?_ (entJI p0 p1 p2 ops.length k hk h1 h3)
  have hv : (rnO 76 #[kdI, opV o.K o.A o.B o.C, slV 2 N, rvJ 5 k] (HJI b0 b1 b2 N ops.length k V S ++ [obE o.K o.A o.B o.C]) (vI (V k)) []).ok Try.prog := by
    rw [hV k o ho]
    exact jvalI_rn (W := fun j => slV (6 + j) N) (ow := ow) (ow2 := true) hok (fun j _ => hr j) h.lx (by rw [hb2]; rfl) (fun hk0 => HJ_rgI hk0 _)
  refine okApp' (okApp' ⟨hd.1, hd.2.1, hd.2.2.1, hv, trivial⟩ (each_ok _ _ fun i hi => ?_)) ⟨cmp_ok (decide_eq_false (by omega)), trivial⟩
  have hin := List.mem_range.1 hi
  refine ⟨cmp_ok (decide_eq_true hin), ?_, trivial⟩
  rw [hS k o ho i]
  exact sloI_rn (D := fun j => 6 + j) (S := S) (ow2 := true) (fun j _ => hr j) hok hin (fun hk0 => HJ_rgI hk0 _) (fun j hj => HJ_getI hj _) (fun a b _ _ e => by omega) (fun j _ => by omega)
theorem roundsJI (h : EvG pC b0 b1 b2 N ops out xs) (p0 : PlO b0) (p1 : PlO b1) (p2 : PlO b2) (hb2 : ∃ ow, b2 = some ⟨(xs.flatMap pC).toArray, 29, 2, ow⟩) (hr : ∀ j, Rt (V j)) (hV : ∀ k o, ops[k]? = some o → V k = vStepI xs V o) (hS : ∀ k o, ops[k]? = some o → ∀ i, S k i = sStepI V S (V k) o i)
    (h1 : 1 ≤ N) (h3 : N ≤ 4) (hM : ops.length ≤ 13) (hM2 : 2 ≤ ops.length) : ∀ (d k : Nat), k + d = ops.length →
    RdsB Try.prog 3 bodyJrI (tmA 73 (LJ N ops.length k)) (HJI b0 b1 b2 N ops.length k V S).toArray (.exit 0, tmA 73 (LJ N ops.length ops.length), (HJI b0 b1 b2 N ops.length ops.length V S).toArray)
  | 0, k, hk => by
    have e : k = ops.length := by omega
    rw [e]
    exact .last (rndB_to (rdJeI h1 h3 hM2 (by omega) b0 b1 b2 ops.length V S) okJrI ⟨cmp_ok (decide_eq_false (by omega)), trivial⟩ (entJeI p0 p1 p2 _ _ (by omega))) (by simp)
  | d + 1, k, hk => by
    have hlt : k < ops.length := by omega
    exact .next (roundJI h p0 p1 p2 hb2 hr hV hS (List.getElem?_eq_getElem hlt) (by omega) h1 h3) (roundsJI h p0 p1 p2 hb2 hr hV hS h1 h3 hM hM2 d (k + 1) (by omega))
end

end Go.Proofs.Ytdlinjijccnaeaa

/-!  jac's run of from-tos about its rounds. -/
namespace Go.Proofs.Ytdlinjijccnaeaa
open Go
set_option linter.unusedVariables false
set_option linter.unusedSimpArgs false
set_option maxRecDepth 100000

/-- Rows' slices, the first row at c, as far as i. -/
def otJI (c N i : Nat) : Option ABlk := some ⟨((List.range N).map fun j => if j < i then slV (c + j) N else .slice none 0 0).toArray, 26, 1, true⟩
def rowsJI (N : Nat) (R : Nat → Nat → P2) (i : Nat) : List (Option ABlk) := (List.range i).map fun j => nwPj ((List.range N).map (R j))
noncomputable def lgGI (H : List (Option ABlk)) (N M : Nat) (u : Nat → Int) (p p' : Nat → Addr) (d : Nat → Nat) (R : Nat → Nat → P2) : List Obl :=
  (List.range N).flatMap (fun i => [.cmp .lss 3 (.int .i64 (Int.ofNat i)) (.int .i64 (Int.ofNat N)) true, .ex (readVar Try.prog (H ++ [otJI (7 + M) N i] ++ rowsJI N R i).toArray 3 ⟨1, i, none⟩ = some (.int .i64 (u i))),
    .ex (indexAddrV Try.prog 85 (rvJ 5 M) (.int .i64 (u i)) = some (.pointer (some (p i)))), .ex (fieldAddrV Try.prog 88 (.pointer (some (p i))) 1 = some (.pointer (some (p' i)))), .ex (readVar Try.prog (H ++ [otJI (7 + M) N i] ++ rowsJI N R i).toArray 26 (p' i) = some (slV (d i) N)),
    .ex (appendV Try.prog (H ++ [otJI (7 + M) N i] ++ rowsJI N R i).toArray 26 26 (.slice none 0 0) (slV (d i) N) = some (slV (7 + M + i) N, (H ++ [otJI (7 + M) N i] ++ rowsJI N R (i + 1)).toArray))]) ++
  [.cmp .lss 3 (.int .i64 (Int.ofNat N)) (.int .i64 (Int.ofNat N)) false]
def FinJI (N M : Nat) : Prop := ∀ (b0 b1 b2 : Option ABlk) (V : Nat → P2) (S : Nat → Nat → P2) (u : Nat → Int) (p p' : Nat → Addr) (d : Nat → Nat) (R : Nat → Nat → P2),
  (askTB askJrI lssC 42 #[kdI, tpV 0 1 N M, slV 2 N] #[b0, b1, b2] ((List.range N).flatMap (fun i => [yes true, vAns (.int .i64 (u i)), pAnsT (p i), pAnsT (p' i), vAns (slV (d i) N), mAnsT (slV (7 + M + i) N) (HJI b0 b1 b2 N M M V S ++ [otJI (7 + M) N i] ++ rowsJI N R (i + 1))]) ++ [yes false])
    [some ⟨.exit 0, tmA 73 (LJ N M M), (HJI b0 b1 b2 N M M V S).toArray⟩, none]).map (fun r => (r.1, r.2.1, r.2.2.1, slL [([2, 3, 4, 7, 16, 17, 18], RJe 0)] r.2.2.2)) =
  some (slV (6 + M) N, (HJI b0 b1 b2 N M M V S ++ [otJI (7 + M) N N] ++ rowsJI N R N).toArray, lgGI (HJI b0 b1 b2 N M M V S) N M u p p' d R,
    [(bodyJrI, (73, (LJ N M 0).map (·.2), (HJI b0 b1 b2 N M 0 V S).map some), (.exit 0, tmA 73 (LJ N M M), (HJI b0 b1 b2 N M M V S).toArray))])
theorem finJI_1_2 : FinJI 1 2 := fun _ _ _ _ _ _ _ _ _ _ => by kernel_rfl
theorem finJI_1_3 : FinJI 1 3 := fun _ _ _ _ _ _ _ _ _ _ => by kernel_rfl
theorem finJI_1_4 : FinJI 1 4 := fun _ _ _ _ _ _ _ _ _ _ => by kernel_rfl
theorem finJI_1_5 : FinJI 1 5 := fun _ _ _ _ _ _ _ _ _ _ => by kernel_rfl
theorem finJI_1_6 : FinJI 1 6 := fun _ _ _ _ _ _ _ _ _ _ => by kernel_rfl
theorem finJI_1_7 : FinJI 1 7 := fun _ _ _ _ _ _ _ _ _ _ => by kernel_rfl
theorem finJI_1_8 : FinJI 1 8 := fun _ _ _ _ _ _ _ _ _ _ => by kernel_rfl
theorem finJI_1_9 : FinJI 1 9 := fun _ _ _ _ _ _ _ _ _ _ => by kernel_rfl
theorem finJI_1_10 : FinJI 1 10 := fun _ _ _ _ _ _ _ _ _ _ => by kernel_rfl
theorem finJI_1_11 : FinJI 1 11 := fun _ _ _ _ _ _ _ _ _ _ => by kernel_rfl
theorem finJI_1_12 : FinJI 1 12 := fun _ _ _ _ _ _ _ _ _ _ => by kernel_rfl
theorem finJI_1_13 : FinJI 1 13 := fun _ _ _ _ _ _ _ _ _ _ => by kernel_rfl
theorem finJI_2_2 : FinJI 2 2 := fun _ _ _ _ _ _ _ _ _ _ => by kernel_rfl
theorem finJI_2_3 : FinJI 2 3 := fun _ _ _ _ _ _ _ _ _ _ => by kernel_rfl
theorem finJI_2_4 : FinJI 2 4 := fun _ _ _ _ _ _ _ _ _ _ => by kernel_rfl
theorem finJI_2_5 : FinJI 2 5 := fun _ _ _ _ _ _ _ _ _ _ => by kernel_rfl
theorem finJI_2_6 : FinJI 2 6 := fun _ _ _ _ _ _ _ _ _ _ => by kernel_rfl
theorem finJI_2_7 : FinJI 2 7 := fun _ _ _ _ _ _ _ _ _ _ => by kernel_rfl
theorem finJI_2_8 : FinJI 2 8 := fun _ _ _ _ _ _ _ _ _ _ => by kernel_rfl
theorem finJI_2_9 : FinJI 2 9 := fun _ _ _ _ _ _ _ _ _ _ => by kernel_rfl
theorem finJI_2_10 : FinJI 2 10 := fun _ _ _ _ _ _ _ _ _ _ => by kernel_rfl
theorem finJI_2_11 : FinJI 2 11 := fun _ _ _ _ _ _ _ _ _ _ => by kernel_rfl
theorem finJI_2_12 : FinJI 2 12 := fun _ _ _ _ _ _ _ _ _ _ => by kernel_rfl
theorem finJI_2_13 : FinJI 2 13 := fun _ _ _ _ _ _ _ _ _ _ => by kernel_rfl
theorem finJI_3_2 : FinJI 3 2 := fun _ _ _ _ _ _ _ _ _ _ => by kernel_rfl
theorem finJI_3_3 : FinJI 3 3 := fun _ _ _ _ _ _ _ _ _ _ => by kernel_rfl
theorem finJI_3_4 : FinJI 3 4 := fun _ _ _ _ _ _ _ _ _ _ => by kernel_rfl
theorem finJI_3_5 : FinJI 3 5 := fun _ _ _ _ _ _ _ _ _ _ => by kernel_rfl
theorem finJI_3_6 : FinJI 3 6 := fun _ _ _ _ _ _ _ _ _ _ => by kernel_rfl
theorem finJI_3_7 : FinJI 3 7 := fun _ _ _ _ _ _ _ _ _ _ => by kernel_rfl
theorem finJI_3_8 : FinJI 3 8 := fun _ _ _ _ _ _ _ _ _ _ => by kernel_rfl
theorem finJI_3_9 : FinJI 3 9 := fun _ _ _ _ _ _ _ _ _ _ => by kernel_rfl
theorem finJI_3_10 : FinJI 3 10 := fun _ _ _ _ _ _ _ _ _ _ => by kernel_rfl
theorem finJI_3_11 : FinJI 3 11 := fun _ _ _ _ _ _ _ _ _ _ => by kernel_rfl
theorem finJI_3_12 : FinJI 3 12 := fun _ _ _ _ _ _ _ _ _ _ => by kernel_rfl
theorem finJI_3_13 : FinJI 3 13 := fun _ _ _ _ _ _ _ _ _ _ => by kernel_rfl
theorem finJI_4_2 : FinJI 4 2 := fun _ _ _ _ _ _ _ _ _ _ => by kernel_rfl
theorem finJI_4_3 : FinJI 4 3 := fun _ _ _ _ _ _ _ _ _ _ => by kernel_rfl
theorem finJI_4_4 : FinJI 4 4 := fun _ _ _ _ _ _ _ _ _ _ => by kernel_rfl
theorem finJI_4_5 : FinJI 4 5 := fun _ _ _ _ _ _ _ _ _ _ => by kernel_rfl
theorem finJI_4_6 : FinJI 4 6 := fun _ _ _ _ _ _ _ _ _ _ => by kernel_rfl
theorem finJI_4_7 : FinJI 4 7 := fun _ _ _ _ _ _ _ _ _ _ => by kernel_rfl
theorem finJI_4_8 : FinJI 4 8 := fun _ _ _ _ _ _ _ _ _ _ => by kernel_rfl
theorem finJI_4_9 : FinJI 4 9 := fun _ _ _ _ _ _ _ _ _ _ => by kernel_rfl
theorem finJI_4_10 : FinJI 4 10 := fun _ _ _ _ _ _ _ _ _ _ => by kernel_rfl
theorem finJI_4_11 : FinJI 4 11 := fun _ _ _ _ _ _ _ _ _ _ => by kernel_rfl
theorem finJI_4_12 : FinJI 4 12 := fun _ _ _ _ _ _ _ _ _ _ => by kernel_rfl
theorem finJI_4_13 : FinJI 4 13 := fun _ _ _ _ _ _ _ _ _ _ => by kernel_rfl
theorem finJI_1 : ∀ M, 2 ≤ M → M < 14 → FinJI 1 M
  | 0, h, _ => absurd h (by omega)
  | 1, h, _ => absurd h (by omega)
  | 2, _, _ => finJI_1_2
  | 3, _, _ => finJI_1_3
  | 4, _, _ => finJI_1_4
  | 5, _, _ => finJI_1_5
  | 6, _, _ => finJI_1_6
  | 7, _, _ => finJI_1_7
  | 8, _, _ => finJI_1_8
  | 9, _, _ => finJI_1_9
  | 10, _, _ => finJI_1_10
  | 11, _, _ => finJI_1_11
  | 12, _, _ => finJI_1_12
  | 13, _, _ => finJI_1_13
  | n + 14, _, h => absurd h (by omega)
theorem finJI_2 : ∀ M, 2 ≤ M → M < 14 → FinJI 2 M
  | 0, h, _ => absurd h (by omega)
  | 1, h, _ => absurd h (by omega)
  | 2, _, _ => finJI_2_2
  | 3, _, _ => finJI_2_3
  | 4, _, _ => finJI_2_4
  | 5, _, _ => finJI_2_5
  | 6, _, _ => finJI_2_6
  | 7, _, _ => finJI_2_7
  | 8, _, _ => finJI_2_8
  | 9, _, _ => finJI_2_9
  | 10, _, _ => finJI_2_10
  | 11, _, _ => finJI_2_11
  | 12, _, _ => finJI_2_12
  | 13, _, _ => finJI_2_13
  | n + 14, _, h => absurd h (by omega)
theorem finJI_3 : ∀ M, 2 ≤ M → M < 14 → FinJI 3 M
  | 0, h, _ => absurd h (by omega)
  | 1, h, _ => absurd h (by omega)
  | 2, _, _ => finJI_3_2
  | 3, _, _ => finJI_3_3
  | 4, _, _ => finJI_3_4
  | 5, _, _ => finJI_3_5
  | 6, _, _ => finJI_3_6
  | 7, _, _ => finJI_3_7
  | 8, _, _ => finJI_3_8
  | 9, _, _ => finJI_3_9
  | 10, _, _ => finJI_3_10
  | 11, _, _ => finJI_3_11
  | 12, _, _ => finJI_3_12
  | 13, _, _ => finJI_3_13
  | n + 14, _, h => absurd h (by omega)
theorem finJI_4 : ∀ M, 2 ≤ M → M < 14 → FinJI 4 M
  | 0, h, _ => absurd h (by omega)
  | 1, h, _ => absurd h (by omega)
  | 2, _, _ => finJI_4_2
  | 3, _, _ => finJI_4_3
  | 4, _, _ => finJI_4_4
  | 5, _, _ => finJI_4_5
  | 6, _, _ => finJI_4_6
  | 7, _, _ => finJI_4_7
  | 8, _, _ => finJI_4_8
  | 9, _, _ => finJI_4_9
  | 10, _, _ => finJI_4_10
  | 11, _, _ => finJI_4_11
  | 12, _, _ => finJI_4_12
  | 13, _, _ => finJI_4_13
  | n + 14, _, h => absurd h (by omega)
theorem finJI {N M : Nat} (h1 : 1 ≤ N) (h2 : N ≤ 4) (h3 : 2 ≤ M) (h4 : M < 14) : FinJI N M := by
  have : N = 1 ∨ N = 2 ∨ N = 3 ∨ N = 4 := by omega
  rcases this with rfl | rfl | rfl | rfl
  · exact finJI_1 M h3 h4
  · exact finJI_2 M h3 h4
  · exact finJI_3 M h3 h4
  · exact finJI_4 M h3 h4

end Go.Proofs.Ytdlinjijccnaeaa

/-!  Tables of from-tos in memory; what is reckoned of from-tos. -/
namespace Go.Proofs.Ytdlinjijccnaeaa
open Go
set_option linter.unusedVariables false
set_option linter.unusedSimpArgs false
set_option maxRecDepth 100000

/-! what is reckoned -/
def stDI (K : Int) (a b : P2 × (Nat → P2)) : P2 × (Nat → P2) := (opP K a.1 b.1, fun j => slP K a.1 b.1 (opP K a.1 b.1) (a.2 j) (b.2 j))
def vrDI (xs : List P2) (i : Nat) : P2 × (Nat → P2) := (xs.getD i (0, 0), fun j => if i = j then (4607182418800017408, 4607182418800017408) else (0, 0))
def regDI (ops : List OpD) (xs : List P2) : Nat → P2 × (Nat → P2) := regT ((0, 0), fun _ => (0, 0)) (fun c => ((c, c), fun _ => (0, 0))) stDI (vrDI xs) ops
theorem regD_vI {ops : List OpD} {xs : List P2} {k N : Nat} {o : OpD} (h : ops[k]? = some o) (ho : opOkD k N o) : (regDI ops xs k).1 = vStepI xs (fun j => (regDI ops xs j).1) o := by
  have e : regDI ops xs k = stepT (fun c => ((c, c), fun _ => (0, 0))) stDI (vrDI xs) (regDI ops xs) o := regT_at h ho
  rw [e]
  unfold vStepI stepT
  split
  · rfl
  split
  · rfl
  · rfl
theorem regD_sI {ops : List OpD} {xs : List P2} {k N : Nat} {o : OpD} (h : ops[k]? = some o) (ho : opOkD k N o) (i : Nat) : (regDI ops xs k).2 i = sStepI (fun j => (regDI ops xs j).1) (fun j => (regDI ops xs j).2) ((regDI ops xs k).1) o i := by
  have e : regDI ops xs k = stepT (fun c => ((c, c), fun _ => (0, 0))) stDI (vrDI xs) (regDI ops xs) o := regT_at h ho
  rw [e]
  unfold sStepI stepT
  split
  · rfl
  split
  · rename_i h1
    have hA : 0 ≤ o.A := by
      rcases ho with h | h | h
      · omega
      · exact h.2.1
      · omega
    show (if o.A.toNat = i then (4607182418800017408, 4607182418800017408) else (0, 0)) = _
    by_cases e : o.A = (i : Int)
    · rw [if_pos e, if_pos (by omega)]
    · rw [if_neg e, if_neg (by omega)]
  · rfl

/-! tables in memory -/
def rowJbI (N : Nat) (R : Nat → P2) : ABlk := ⟨(((List.range N).map R).flatMap pC).toArray, 29, 2, true⟩
def otJbI (c N : Nat) : ABlk := ⟨((List.range N).map fun j => if j < N then slV (c + j) N else .slice none 0 0).toArray, 26, 1, true⟩
def tabJI (c N : Nat) (R : Nat → Nat → P2) : List (Option ABlk) := rowsJI N R N ++ [otJI c N N]
theorem tab_lenI (c N : Nat) (R : Nat → Nat → P2) : (tabJI c N R).length = N + 1 := by simp [tabJI, rowsJI]
theorem tab_rowI {c N : Nat} {R : Nat → Nat → P2} {j : Nat} (h : j < N) : (tabJI c N R)[j]? = some (some (rowJbI N (R j))) := by
  unfold tabJI rowsJI
  rw [List.getElem?_append_left (by simp; exact h), List.getElem?_map, List.getElem?_range h]
  rfl
theorem tab_otI (c N : Nat) (R : Nat → Nat → P2) : (tabJI c N R)[N]? = some (some (otJbI c N)) := by
  unfold tabJI rowsJI
  rw [List.getElem?_append_right (by simp)]
  simp
  rfl
theorem tab_casesI {c N : Nat} {R : Nat → Nat → P2} {j : Nat} {B : ABlk} (h : (tabJI c N R)[j]? = some (some B)) : (j < N ∧ B = rowJbI N (R j)) ∨ (j = N ∧ B = otJbI c N) := by
  have hl := (List.getElem?_eq_some_iff.1 h).1
  rw [tab_lenI] at hl
  by_cases hj : j < N
  · rw [tab_rowI hj] at h
    injection h with h; injection h with h
    exact .inl ⟨hj, h.symm⟩
  · have : j = N := by omega
    subst this
    rw [tab_otI] at h
    injection h with h; injection h with h
    exact .inr ⟨rfl, h.symm⟩
theorem row_relKI {z : Nat} {ρ : Nat → Nat} (N : Nat) (R : Nat → P2) : RelK z ρ (rowJbI N R) (rowJbI N R) := RelK.plain (plain_flat pC_cl _ _ _ _)
theorem ot_relKI {z : Nat} {ρ : Nat → Nat} {c1 c2 N : Nat} (h : ∀ j, j < N → c1 + j < z ∧ ρ (c1 + j) = c2 + j) : RelK z ρ (otJbI c1 N) (otJbI c2 N) := by
  refine RelK.list ?_
  have key : ∀ l : List Nat, (∀ j ∈ l, j < N) → RelAs z ρ (l.map fun j => if j < N then slV (c1 + j) N else .slice none 0 0) (l.map fun j => if j < N then slV (c2 + j) N else .slice none 0 0) := by
    intro l
    induction l with
    | nil => intro _; exact .nil
    | cons j l ih =>
      intro hl
      have hj := hl j (List.mem_cons_self ..)
      refine .cons ?_ (ih fun i hi => hl i (List.mem_cons_of_mem _ hi))
      show RelA z ρ (if j < N then slV (c1 + j) N else .slice none 0 0) (if j < N then slV (c2 + j) N else .slice none 0 0)
      rw [if_pos hj, if_pos hj]
      exact .slice (c1 + j) (c2 + j) 0 none _ _ _ (h j hj).1 (h j hj).2
  exact key _ fun j hj => List.mem_range.1 hj
section
variable {P : Program}
/-- A table that was made: its numbers. -/
theorem Runs.tabI {f : FuncId} {args : Array Value} {b0 b1 b2 : Option ABlk} {N c e : Nat} {R : Nat → Nat → P2} {H1 : AHeap} (h : Runs P f args #[b0, b1, b2] (slV e N) H1) (p0 : PlO b0) (p1 : PlO b1) (p2 : PlO b2)
    (q0 : H1[0]? = some b0) (q1 : H1[1]? = some b1) (q2 : H1[2]? = some b2) (hr : ∀ j, j < N → H1[c + j]? = some (some (rowJbI N (R j)))) (he : H1[e]? = some (some (otJbI c N))) (hc : 3 ≤ c) (he3 : 3 ≤ e) (hne : ∀ j, j < N → e ≠ c + j) :
    Runs P f args #[b0, b1, b2] (slV (3 + N) N) (#[b0, b1, b2] ++ (tabJI 3 N R).toArray) := by
  let ρ : Nat → Nat := fun b => if b < 3 then b else if b < 3 + N then b - 3 + c else e
  have hs : (#[b0, b1, b2] ++ (tabJI 3 N R).toArray : AHeap).size = 4 + N := by
    have h1 : (tabJI 3 N R).toArray.size = N + 1 := by rw [List.size_toArray, tab_lenI]
    rw [Array.size_append, h1]
    show 3 + (N + 1) = 4 + N
    omega
  have r0 : ∀ b, b < 3 → ρ b = b := fun b hb => if_pos hb
  have r1 : ∀ j, j < N → ρ (3 + j) = c + j := fun j hj => by show (if _ then _ else _) = _; rw [if_neg (by omega), if_pos (by omega)]; omega
  have r2 : ρ (3 + N) = e := by show (if _ then _ else _) = _; rw [if_neg (by omega), if_neg (by omega)]
  have sp : ∀ (b : Nat) (B : ABlk), (#[b0, b1, b2] ++ (tabJI 3 N R).toArray : AHeap)[b]? = some (some B) → (b < 3 ∧ (#[b0, b1, b2] : AHeap)[b]? = some (some B)) ∨ (∃ j, j < N ∧ b = 3 + j ∧ B = rowJbI N (R j)) ∨ (b = 3 + N ∧ B = otJbI 3 N) := fun b B hB => by
    by_cases hb : b < 3
    · rw [Array.getElem?_append_left (by simp; omega)] at hB
      exact .inl ⟨hb, hB⟩
    · rw [Array.getElem?_append_right (by simp; omega), List.getElem?_toArray] at hB
      rcases tab_casesI hB with ⟨g1, g2⟩ | ⟨g1, g2⟩
      · exact .inr (.inl ⟨_, g1, by simp; omega, g2⟩)
      · exact .inr (.inr ⟨by simp at g1; omega, g2⟩)
  refine Runs.ren (ρ := ρ) h ⟨fun b hb => ⟨by rw [hs]; simp at hb; omega, r0 b (by simpa using hb)⟩, rfl, ?_, ?_, ?_⟩
  · intro i v2 v1 h2 h1
    match i, h2, h1 with
    | 0, h2, h1 =>
      injection h2 with h2; injection h1 with h1
      subst h2 h1
      rw [hs]
      exact .slice (3 + N) e 0 none _ _ _ (by omega) r2
    | n + 1, h2, _ => simp at h2
  · intro b B hB
    rw [hs]
    rcases sp b B hB with ⟨hb, g⟩ | ⟨j, hj, rfl, rfl⟩ | ⟨rfl, rfl⟩
    · rw [r0 b hb]
      match b, g with
      | 0, g => exact ⟨B, q0.trans (by simpa using g), RelK.plain fun i v hv => p0 B (by simpa using g) i v hv⟩
      | 1, g => exact ⟨B, q1.trans (by simpa using g), RelK.plain fun i v hv => p1 B (by simpa using g) i v hv⟩
      | 2, g => exact ⟨B, q2.trans (by simpa using g), RelK.plain fun i v hv => p2 B (by simpa using g) i v hv⟩
      | n + 3, g => simp at g
    · rw [r1 j hj]
      exact ⟨_, hr j hj, row_relKI _ _⟩
    · rw [r2]
      exact ⟨_, he, ot_relKI fun j hj => ⟨by omega, r1 j hj⟩⟩
  · intro b b' B B' hB hB' heq
    rcases sp b B hB with ⟨hb, _⟩ | ⟨j, hj, rfl, _⟩ | ⟨rfl, _⟩ <;> rcases sp b' B' hB' with ⟨hb', _⟩ | ⟨j', hj', rfl, _⟩ | ⟨rfl, _⟩
    · rw [r0 b hb, r0 b' hb'] at heq; exact heq
    · rw [r0 b hb, r1 j' hj'] at heq; omega
    · rw [r0 b hb, r2] at heq; omega
    · rw [r1 j hj, r0 b' hb'] at heq; omega
    · rw [r1 j hj, r1 j' hj'] at heq; omega
    · rw [r1 j hj, r2] at heq; exact absurd heq.symm (hne j hj)
    · rw [r2, r0 b' hb'] at heq; omega
    · rw [r2, r1 j' hj'] at heq; exact absurd heq (hne j' hj')
    · rfl
/-- A table that is made, in any memory. -/
theorem Runs.tabAtI {f : FuncId} {args2 args1 : Array Value} {c0 c1 c2 B0 B1 B2 : ABlk} {N : Nat} {R : Nat → Nat → P2} {H : AHeap} {bo bu bx : Nat} (h : Runs P f args2 #[some c0, some c1, some c2] (slV (3 + N) N) (#[some c0, some c1, some c2] ++ (tabJI 3 N R).toArray))
    (o0 : c0.own = false) (o1 : c1.own = false) (o2 : c2.own = false) (p0 : PlainB c0) (p1 : PlainB c1) (p2 : PlainB c2) (hH : AllFrozen H) (h0 : H[bo]? = some (some c0)) (h1 : H[bu]? = some (some c1)) (h2 : H[bx]? = some (some c2)) (n1 : bo ≠ bu) (n2 : bo ≠ bx) (n3 : bu ≠ bx)
    (ha : RelAs 3 (fun b => if b = 0 then bo else if b = 1 then bu else bx) args2.toList args1.toList) : Runs P f args1 H (slV (H.size + N) N) (H ++ (tabJI H.size N R).toArray) := by
  obtain ⟨g1, g2⟩ := relAs_at ha
  have rs : RelS 0 (fun b => if b = 0 then bo else if b = 1 then bu else bx) args2.toList #[some c0, some c1, some c2] args1.toList H := by
    refine rel2 g1 g2 (fun b B h => ?_) (fun b b' B B' h h' he => ?_)
    · match b, h with
      | 0, h => injection h with h; injection h with h; subst h; exact ⟨_, h0, RelK.plain p0⟩
      | 1, h => injection h with h; injection h with h; subst h; exact ⟨_, h1, RelK.plain p1⟩
      | 2, h => injection h with h; injection h with h; subst h; exact ⟨_, h2, RelK.plain p2⟩
      | n + 3, h => simp at h
    · match b, b', h, h' with
      | 0, 0, _, _ => rfl
      | 1, 1, _, _ => rfl
      | 2, 2, _, _ => rfl
      | 0, 1, _, _ => exact absurd he n1
      | 0, 2, _, _ => exact absurd he n2
      | 1, 0, _, _ => exact absurd he.symm n1
      | 1, 2, _, _ => exact absurd he n3
      | 2, 0, _, _ => exact absurd he.symm n2
      | 2, 1, _, _ => exact absurd he.symm n3
      | n + 3, _, h, _ => simp at h
      | 0, n + 3, _, h => simp at h
      | 1, n + 3, _, h => simp at h
      | 2, n + 3, _, h => simp at h
  have hl1 : (tabJI H.size N R).toArray.size = N + 1 := by rw [List.size_toArray, tab_lenI]
  have hl2 : (tabJI 3 N R).toArray.size = N + 1 := by rw [List.size_toArray, tab_lenI]
  have s3 : (#[some c0, some c1, some c2] : AHeap).size = 3 := rfl
  have rh : ∀ j, rhoN H.size 3 (3 + (N + 1)) (H.size + j) = 3 + j := fun j => by unfold rhoN; rw [if_neg (by omega)]; omega
  have hf3 : AllFrozen #[some c0, some c1, some c2] := by
    intro b B hB
    match b, hB with
    | 0, hB => injection hB with hB; injection hB with hB; subst hB; exact o0
    | 1, hB => injection hB with hB; injection hB with hB; subst hB; exact o1
    | 2, hB => injection hB with hB; injection hB with hB; subst hB; exact o2
    | n + 3, hB => simp at hB
  refine Runs.viewN h hf3 hH rs ?_ ⟨by rw [hl1, hl2], fun j B1 hj => ?_⟩
  · rw [hl1, hl2, s3]
    exact .slice (H.size + N) (3 + N) 0 none _ _ _ (by omega) (rh N)
  · rw [hl1, hl2, s3]
    rw [List.getElem?_toArray] at hj
    rcases tab_casesI hj with ⟨g, rfl⟩ | ⟨rfl, rfl⟩
    · exact ⟨_, by rw [List.getElem?_toArray]; exact tab_rowI g, row_relKI _ _⟩
    · exact ⟨_, by rw [List.getElem?_toArray]; exact tab_otI 3 _ R, ot_relKI fun i hi => ⟨by omega, rh i⟩⟩
end

end Go.Proofs.Ytdlinjijccnaeaa

/-!  jac.JacIv: its contract at a field and from-tos. -/
namespace Go.Proofs.Ytdlinjijccnaeaa
open Go
set_option linter.unusedVariables false
set_option linter.unusedSimpArgs false
set_option maxRecDepth 100000

theorem fa_rg1I (b o : Nat) : fieldAddrV Try.prog 88 (.pointer (some ⟨b, o, none⟩)) 1 = some (.pointer (some ⟨b, o + 2, none⟩)) := by kernel_rfl
theorem ty_fsPI : isPlainB Try.prog 26 = true := by kernel_rfl
theorem rg_get1I : ∀ (l : List (P2 × Value)) (k : Nat) (a : P2 × Value), l[k]? = some a → (l.flatMap rgCI)[k * 3 + 2]? = some a.2
  | [], k, a, h => by simp at h
  | x :: l, 0, a, h => by
    simp only [List.getElem?_cons_zero, Option.some.injEq] at h
    subst h
    rfl
  | x :: l, k + 1, a, h => by
    rw [List.getElem?_cons_succ] at h
    rw [List.flatMap_cons, List.getElem?_append_right (by simp [rgCI]; omega)]
    rw [show (k + 1) * 3 + 2 - (rgCI x).length = k * 3 + 2 by simp [rgCI]; omega]
    exact rg_get1I l k a h
theorem rdRdI {H : AHeap} {b k : Nat} {B : ABlk} {l : List (P2 × Value)} {a : P2 × Value} (hb : H[b]? = some (some B)) (hc : B.cells = (l.flatMap rgCI).toArray) (hk : l[k]? = some a) {o : Nat} (ho : o = k * 3 + 2) : readVar Try.prog H 26 ⟨b, o, none⟩ = some a.2 :=
  rd_one (g := fun x : Value => x) (isPlainB_ex ty_fsPI) hb (by rw [flatIdR, hc]) (rg_get1I l k a hk) ho
theorem gr_fsI : growOk Try.prog 26 29 2 = true := by kernel_rfl

section
variable {c0 c1 c2 : ABlk} {N : Nat} {ops : List OpD} {out : List Int} {xs : List P2}
def rwDI (ops : List OpD) (xs : List P2) (out : List Int) (i : Nat) : Nat → P2 := (regDI ops xs (out.getD i 0).toNat).2
theorem jac_runI (h : EvG pC (some c0) (some c1) (some c2) N ops out xs) (o0 : c0.own = false) (o1 : c1.own = false) (p0 : PlainB c0) (p1 : PlainB c1) (p2 : PlainB c2) (hb2 : c2 = ⟨(xs.flatMap pC).toArray, 29, 2, false⟩) (hr : ∀ k, Rt (regDI ops xs k).1) (h1 : 1 ≤ N) (h3 : N ≤ 4) (hM : ops.length ≤ 13) (hM2 : 2 ≤ ops.length) :
    Runs Try.prog 42 #[kdI, tpV 0 1 N ops.length, slV 2 N] #[some c0, some c1, some c2] (slV (3 + N) N) (#[some c0, some c1, some c2] ++ (tabJI 3 N (rwDI ops xs out)).toArray) := by
  let V : Nat → P2 := fun k => (regDI ops xs k).1
  let S : Nat → Nat → P2 := fun k => (regDI ops xs k).2
  let M := ops.length
  have rds := roundsJI (V := V) (S := S) h (plO_of p0) (plO_of p1) (plO_of p2) ⟨false, by rw [hb2]⟩ hr (fun k o ho => regD_vI ho (h.ok k o ho)) (fun k o ho i => regD_sI ho (h.ok k o ho) i) h1 h3 hM hM2 ops.length 0 (by omega)
  let u : Nat → Int := fun i => out.getD i 0
  have hu : ∀ i, i < N → out[i]? = some (u i) ∧ 0 ≤ u i ∧ u i < ops.length := fun i hi => by
    have hg : out[i]? = some (out.getD i 0) := getD_at 0 (by rw [h.lo]; exact hi)
    exact ⟨hg, h.oo _ (List.mem_of_getElem? hg)⟩
  have fin := finJI h1 h3 hM2 (show ops.length < 14 by omega) (some c0) (some c1) (some c2) V S u (fun i => ⟨5, (u i).toNat * 3, none⟩) (fun i => ⟨5, (u i).toNat * 3 + 2, none⟩) (fun i => 6 + (u i).toNat) (rwDI ops xs out)
  have hob : okAll Try.prog (lgGI (HJI (some c0) (some c1) (some c2) N ops.length ops.length V S) N ops.length u (fun i => ⟨5, (u i).toNat * 3, none⟩) (fun i => ⟨5, (u i).toNat * 3 + 2, none⟩) (fun i => 6 + (u i).toNat) (rwDI ops xs out)) := by
    unfold lgGI
    refine okApp' (each_ok _ _ fun i hi => ?_) ⟨cmp_ok (decide_eq_false (by omega)), trivial⟩
    have hin := List.mem_range.1 hi
    obtain ⟨e0, e1, e2⟩ := hu i hin
    obtain ⟨B1, hB1, hc1⟩ := h.m1
    have hlt : (u i).toNat < ops.length := by omega
    have hrow : (HJI (some c0) (some c1) (some c2) N ops.length ops.length V S ++ [otJI (7 + ops.length) N i] ++ rowsJI N (rwDI ops xs out) i).toArray[6 + (u i).toNat]? = some (dJI N S (u i).toNat) := by
      rw [List.getElem?_toArray, List.append_assoc]
      exact HJ_getI hlt _
    have hrg : (HJI (some c0) (some c1) (some c2) N ops.length ops.length V S ++ [otJI (7 + ops.length) N i] ++ rowsJI N (rwDI ops xs out) i).toArray[5]? = some (rgBoI true (rgsI V (fun j => slV (6 + j) N) ops.length)) := by
      rw [List.getElem?_toArray, List.append_assoc]
      exact HJ_rgI (by omega) _
    have hsz : (HJI (some c0) (some c1) (some c2) N ops.length ops.length V S ++ [otJI (7 + ops.length) N i] ++ rowsJI N (rwDI ops xs out) i).toArray.size = 7 + ops.length + i := by
      rw [HJ_posI (by omega)]
      simp [rowsJI]
      omega
    refine ⟨cmp_ok (decide_eq_true hin), rdI (B := B1) (l := out) (k := i) (by rw [← hB1]; rfl) hc1 e0 rfl, ?_, fa_rg1I _ _, rdRdI (l := rgsI V (fun j => slV (6 + j) N) ops.length) (k := (u i).toNat) hrg rfl (rgsI_get V (fun j => slV (6 + j) N) hlt) rfl, ?_, trivial⟩
    · rw [rvJ_pos (by omega)]
      exact ixRI e1 e2 rfl
    · refine (app_nilL (f := pC) (n := 2) (fun _ => rfl) (fun _ => rfl) gr_fsI (l := (List.range N).map (S (u i).toNat)) hrow rfl (by simp) h1 (by omega)).trans ?_
      rw [hsz]
      congr 2
      apply Array.ext'
      simp only [Array.toList_push]
      unfold rowsJI
      rw [List.range_succ, List.map_append, ← List.append_assoc]
      rfl
  obtain ⟨H', hH, hrun⟩ := askTB_to (g := fun H => H) fin hob ⟨⟨_, _, entJeI (plO_of p0) (plO_of p1) (plO_of p2) ops.length 0 (by decide), rds.loop⟩, trivial⟩
  subst hH
  have hl : (HJI (some c0) (some c1) (some c2) N ops.length ops.length V S).length = 6 + ops.length := by rw [HJ_posI (by omega)]; simp; omega
  refine Runs.tabI (c := 7 + ops.length) (e := 6 + ops.length) hrun (plO_of p0) (plO_of p1) (plO_of p2) rfl rfl rfl (fun j hj => ?_) ?_ (by omega) (by omega) (fun j _ => by omega)
  · rw [List.getElem?_toArray, List.getElem?_append_right (by rw [List.length_append, hl]; simp; omega), List.length_append, hl]
    simp only [List.length_cons, List.length_nil]
    rw [show 7 + ops.length + j - (6 + ops.length + (0 + 1)) = j by omega]
    unfold rowsJI
    rw [List.getElem?_map, List.getElem?_range hj]
    rfl
  · rw [List.getElem?_toArray, List.append_assoc, List.getElem?_append_right (by omega), hl, Nat.sub_self]
    rfl

/-! jac.Jac -/
noncomputable def askJ1I (g : FuncId) : Nat := if g == 42 then 1 else 0
def JacRunI (N : Nat) : Prop := ∀ (b0 b1 b2 : Option ABlk) (M : Nat) (R : Nat → Nat → P2), (askTB askJ1I noC 20 #[tpV 0 1 N M, slV 2 N] #[b0, b1, b2] [cAns (fun s => slV (s + N) N) (tabJI 4 N R)] []).map (fun r => (r.1, r.2.1, r.2.2.1, slL [] r.2.2.2)) =
  some (slV (4 + N) N, ([b0, b1, b2, tbE N M] ++ tabJI 4 N R).toArray, [rnO 42 #[kdI, tpV 0 1 N M, slV 2 N] [b0, b1, b2, tbE N M] (slV (4 + N) N) (tabJI 4 N R)], [])
theorem jacRun_1I : JacRunI 1 := fun _ _ _ _ _ => by kernel_rfl
theorem jacRun_2I : JacRunI 2 := fun _ _ _ _ _ => by kernel_rfl
theorem jacRun_3I : JacRunI 3 := fun _ _ _ _ _ => by kernel_rfl
theorem jacRun_4I : JacRunI 4 := fun _ _ _ _ _ => by kernel_rfl
theorem jacRunI (h1 : 1 ≤ N) (h3 : N ≤ 4) : JacRunI N := by
  have : N = 1 ∨ N = 2 ∨ N = 3 ∨ N = 4 := by omega
  rcases this with rfl | rfl | rfl | rfl
  · exact jacRun_1I
  · exact jacRun_2I
  · exact jacRun_3I
  · exact jacRun_4I
theorem jac_JacI (h : EvG pC (some c0) (some c1) (some c2) N ops out xs) (o0 : c0.own = false) (o1 : c1.own = false) (p0 : PlainB c0) (p1 : PlainB c1) (p2 : PlainB c2) (hb2 : c2 = ⟨(xs.flatMap pC).toArray, 29, 2, false⟩) (hr : ∀ k, Rt (regDI ops xs k).1) (h1 : 1 ≤ N) (h3 : N ≤ 4) (hM : ops.length ≤ 13) (hM2 : 2 ≤ ops.length) :
    Runs Try.prog 20 #[tpV 0 1 N ops.length, slV 2 N] #[some c0, some c1, some c2] (slV (3 + N) N) (#[some c0, some c1, some c2] ++ (tabJI 3 N (rwDI ops xs out)).toArray) := by
  have r := jac_runI h o0 o1 p0 p1 p2 hb2 hr h1 h3 hM hM2
  have o2 : c2.own = false := by rw [hb2]
  have fz : ∀ c : ABlk, c.own = false → ({ c with own := false } : ABlk) = c := fun c hc => by cases c; simp at hc; subst hc; rfl
  have e0 : (froze [some c0, some c1, some c2, tbE N ops.length].toArray)[0]? = some (some c0) := (fz_at (l := [some c0, some c1, some c2, tbE N ops.length]) (i := 0) (B := c0) rfl).trans (by rw [fz c0 o0])
  have e1 : (froze [some c0, some c1, some c2, tbE N ops.length].toArray)[1]? = some (some c1) := (fz_at (l := [some c0, some c1, some c2, tbE N ops.length]) (i := 1) (B := c1) rfl).trans (by rw [fz c1 o1])
  have e2 : (froze [some c0, some c1, some c2, tbE N ops.length].toArray)[2]? = some (some c2) := (fz_at (l := [some c0, some c1, some c2, tbE N ops.length]) (i := 2) (B := c2) rfl).trans (by rw [fz c2 o2])
  have r4 := Runs.tabAtI (args1 := #[kdI, tpV 0 1 N ops.length, slV 2 N]) (bo := 0) (bu := 1) (bx := 2) (B0 := c0) (B1 := c1) (B2 := c2) r o0 o1 o2 p0 p1 p2 (froze_all [some c0, some c1, some c2, tbE N ops.length].toArray) e0 e1 e2 (by decide) (by decide) (by decide)
    (.cons (.clos kdI_cl) (.cons (tp_rel 0 1 N _ (by decide) rfl rfl) (.cons (.slice 2 2 0 none _ _ _ (by decide) rfl) .nil)))
  rw [fz_size] at r4
  obtain ⟨H', hH, hrun⟩ := askTB_to (g := fun H => H) (jacRunI h1 h3 (some c0) (some c1) (some c2) ops.length (rwDI ops xs out)) ⟨r4, trivial⟩ trivial
  subst hH
  refine Runs.tabI (c := 4) (e := 4 + N) hrun (plO_of p0) (plO_of p1) (plO_of p2) rfl rfl rfl (fun j hj => ?_) ?_ (by omega) (by omega) (fun j hj => by omega)
  · rw [List.getElem?_toArray, List.getElem?_append_right (by simp), show 4 + j - [some c0, some c1, some c2, tbE N ops.length].length = j by simp]
    exact tab_rowI hj
  · rw [List.getElem?_toArray, List.getElem?_append_right (by simp), show 4 + N - [some c0, some c1, some c2, tbE N ops.length].length = N by simp]
    exact tab_otI _ _ _
end

end Go.Proofs.Ytdlinjijccnaeaa
