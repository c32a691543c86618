/- jac's run of numbers: its rounds in a row. -/
import Derived.Test.YtdlinjijccnaeaaJcR
namespace Go.Proofs.Ytdlinjijccnaeaa
open Go
set_option linter.unusedVariables false
set_option linter.unusedSimpArgs false
set_option maxRecDepth 100000

theorem rndB_toL {n0 : Nat} {ask : FuncId → Nat} {askC : BinOp → Value → Value → Bool} {c : Code} {tm tm2 : List Value} {H H2 : AHeap} {s : List Ans} {ls : List (Option LpA)} {e : AExit} {l : List Obl} {K R : List Nat} {sl : Nat × List Value × List (Option (Option ABlk))}
    (h : (rndB ask askC c tm H s ls).map (fun r => (r.1, slG K R r.2.1 r.2.2.1, r.2.2.2)) = some (e, sl, l, [])) (hc : codeOk q1 c = true) (hl : okAll Try.prog l) (hE : EntOK n0 K R sl tm2 H2) : CodeB Try.prog n0 c tm H (e, tm2, H2) := by
  obtain ⟨tm1, H1, h1, h2⟩ := rndB_B (n0 := n0) (g := slG K R) h hc hl (fun y h => by cases h)
  obtain ⟨ρ, hρ⟩ := hE tm1 H1 h1
  exact h2.ren hρ
theorem relBs_app {z : Nat} {ρ : Nat → Nat} {a : List (Option ABlk)} {a' : List (Option (Option ABlk))} {b : List (Option ABlk)} {b' : List (Option (Option ABlk))} (h : RelBs z ρ a a') (t : RelBs z ρ b b') : RelBs z ρ (a ++ b) (a' ++ b') := by
  induction h with
  | nil => exact t
  | none x _ ih => exact .none x ih
  | some h _ ih => exact .some h ih
theorem relAs_app {z : Nat} {ρ : Nat → Nat} {a a' b b' : List Value} (h : RelAs z ρ a a') (t : RelAs z ρ b b') : RelAs z ρ (a ++ b) (a' ++ b') := by
  induction h with
  | nil => exact t
  | cons h _ ih => exact .cons h ih
theorem relBs_map {z : Nat} {ρ : Nat → Nat} (f : Nat → ABlk) (hf : ∀ j (i : Nat) (v : Value), (f j).cells[i]? = some v → closN 4 v = true) : ∀ l : List Nat, RelBs z ρ (l.map fun j => some (f j)) (l.map fun j => some (some (f j)))
  | [] => .nil
  | j :: l => relBs_own (hf j) (relBs_map f hf l)
theorem rvJ_pos {br k : Nat} (h : k ≠ 0) : rvJ br k = .slice (some ⟨br, 0, none⟩) k k := if_neg h
theorem HJ_pos {b0 b1 b2 : Option ABlk} {N M k : Nat} {V : Nat → Nat} {S : Nat → Nat → Nat} (h : k ≠ 0) : HJ b0 b1 b2 N M k V S = b0 :: b1 :: b2 :: kdB :: tbE N M :: rgBo true (rgs V (fun j => slV (6 + j) N) k) :: (List.range k).map (dJ N S) := by
  unfold HJ
  rw [if_neg h]
  rfl
theorem rgs_succ (V : Nat → Nat) (W : Nat → Value) (k : Nat) : rgs V W (k + 1) = rgs V W k ++ [(V k, W k)] := by
  unfold rgs
  rw [List.range_succ, List.map_append]
  rfl
theorem RJ_nodup : ∀ k, k < 12 → ∀ N, N < 4 → 1 ≤ N → (RJ N k).Nodup := by decide +kernel
theorem RJ_old : ∀ k, k < 12 → ∀ N, N < 4 → ∀ j, j < k → (RJ N k).getD (6 + j) 0 = 6 + j := by decide +kernel
theorem RJ_new : ∀ k, k < 12 → ∀ N, N < 4 → (RJ N k).getD (6 + k) 0 = baseJ k + 1 + 2 * N := by decide +kernel
theorem RJe_nodup : ∀ k, k < 13 → (RJe k).Nodup := by decide +kernel
theorem RJe_at : ∀ k, k < 13 → 0 < k → ∀ j, j < k → (RJe k).getD (6 + j) 0 = 6 + j := by decide +kernel
theorem kdB_own {z : Nat} {ρ : Nat → Nat} {l : List (Option ABlk)} {l' : List (Option (Option ABlk))} (t : RelBs z ρ l l') : RelBs z ρ (kdB :: l) (some kdB :: l') := by
  refine relBs_own (fun i v hv => ?_) t
  match i, hv with
  | 0, hv => injection hv with hv; subst hv; rfl
  | 1, hv => injection hv with hv; subst hv; rfl
  | 2, hv => injection hv with hv; subst hv; rfl
  | 3, hv => injection hv with hv; subst hv; rfl
  | 4, hv => injection hv with hv; subst hv; rfl
  | n + 5, hv => simp [kdF, Value.cells] at hv
theorem tbE_relJ {z : Nat} (hz : 3 ≤ z) {ρ : Nat → Nat} (h0 : ρ 0 = 0) (h1 : ρ 1 = 1) (N M : Nat) {l : List (Option ABlk)} {l' : List (Option (Option ABlk))} (t : RelBs z ρ l l') : RelBs z ρ (tbE N M :: l) (some (tbE N M) :: l') := by
  refine .some (RelK.list (.cons (.clos rfl) (.cons (.slice 0 0 0 none _ _ _ (by omega) h0) (.cons (.slice 1 1 0 none _ _ _ (by omega) h1) .nil)))) t
def dJb (N : Nat) (S : Nat → Nat → Nat) (j : Nat) : ABlk := ⟨(((List.range N).map (S j)).flatMap fC).toArray, 27, 1, true⟩
theorem dJ_cl (N : Nat) (S : Nat → Nat → Nat) (j : Nat) (i : Nat) (v : Value) (h : (dJb N S j).cells[i]? = some v) : closN 4 v = true := plain_flat fC_cl ((List.range N).map (S j)) 27 1 true i v h
section
variable {b0 b1 b2 : Option ABlk} {N : Nat} {ops : List OpD} {out : List Int} {xs : List Nat} {V : Nat → Nat} {S : Nat → Nat → Nat}
theorem entJ (p0 : PlO b0) (p1 : PlO b1) (p2 : PlO b2) (M k : Nat) (hk : k < 12) (h1 : 1 ≤ N) (h3 : N ≤ 3) :
    EntOK 3 [2, 3, 4, 7, 16, 17, 18] (RJ N k) (outJ b0 b1 b2 N M k V S (V k) (S k)) (tmA 73 (LJ N M (k + 1))) (HJ b0 b1 b2 N M (k + 1) V S).toArray := by
  have hl : (HJ b0 b1 b2 N M (k + 1) V S).length = 7 + k := by
    rw [HJ_pos (by omega)]; simp; omega
  refine entOK (H2 := HJ b0 b1 b2 N M (k + 1) V S) rfl rfl (RJ_nodup k hk N (by omega) h1) ?_ ?_
  · rw [hl]
    refine .cons (.slice 2 2 0 none _ _ _ (by omega) rfl) (.cons (.ptr 3 3 0 none (by omega) rfl) (.cons (.ptr 4 4 0 none (by omega) rfl) (.cons ?_ (.cons (.slice 0 0 0 none _ _ _ (by omega) rfl) (.cons (.clos rfl) (.cons (.clos rfl) .nil))))))
    show RelA _ _ (rvJ 5 (k + 1)) _
    rw [rvJ_pos (by omega)]
    exact .slice 5 _ 0 none _ _ _ (by omega) rfl
  · rw [hl, HJ_pos (by omega)]
    refine relBs_pl p0 (relBs_pl p1 (relBs_pl p2 (kdB_own (tbE_relJ (by omega) rfl rfl N M ?_))))
    refine .some (RelK.list ?_) ?_
    · rw [rgs_succ, List.flatMap_append, List.flatMap_append]
      refine relAs_app (relRgs V _ _ (List.range k) fun j hj => ?_) (.cons (.clos rfl) (.cons ?_ .nil))
      · have hj := List.mem_range.1 hj
        exact .slice (6 + j) (6 + j) 0 none _ _ _ (by omega) (RJ_old k hk N (by omega) j hj)
      · exact .slice (6 + k) _ 0 none _ _ _ (by omega) (RJ_new k hk N (by omega))
    · rw [List.range_succ, List.map_append]
      exact relBs_app (relBs_map (dJb N S) (dJ_cl N S) (List.range k)) (relBs_own (dJ_cl N S k) .nil)
theorem entJe (p0 : PlO b0) (p1 : PlO b1) (p2 : PlO b2) (M k : Nat) (hk : k < 13) :
    EntOK 3 [2, 3, 4, 7, 16, 17, 18] (RJe k) (73, (LJ N M k).map (·.2), (HJ b0 b1 b2 N M k V S).map some) (tmA 73 (LJ N M k)) (HJ b0 b1 b2 N M k V S).toArray := by
  refine entOK (H2 := HJ b0 b1 b2 N M k V S) rfl rfl (RJe_nodup k hk) ?_ ?_
  · by_cases h : k = 0
    · subst h
      have hl : (HJ b0 b1 b2 N M 0 V S).length = 5 := rfl
      rw [hl]
      exact .cons (.slice 2 2 0 none _ _ _ (by omega) rfl) (.cons (.ptr 3 3 0 none (by omega) rfl) (.cons (.ptr 4 4 0 none (by omega) rfl) (.cons (.clos rfl) (.cons (.slice 0 0 0 none _ _ _ (by omega) rfl) (.cons (.clos rfl) (.cons (.clos rfl) .nil))))))
    · have hl : (HJ b0 b1 b2 N M k V S).length = 6 + k := by rw [HJ_pos h]; simp; omega
      rw [hl]
      refine .cons (.slice 2 2 0 none _ _ _ (by omega) rfl) (.cons (.ptr 3 3 0 none (by omega) rfl) (.cons (.ptr 4 4 0 none (by omega) rfl) (.cons ?_ (.cons (.slice 0 0 0 none _ _ _ (by omega) rfl) (.cons (.clos rfl) (.cons (.clos rfl) .nil))))))
      show RelA _ _ (rvJ 5 k) (rvJ 5 k)
      rw [rvJ_pos h]
      refine .slice 5 5 0 none _ _ _ (by omega) ?_
      unfold RJe
      rw [if_neg h]
      rfl
  · by_cases h : k = 0
    · subst h
      exact relBs_pl p0 (relBs_pl p1 (relBs_pl p2 (kdB_own (tbE_relJ (show 3 ≤ 5 by decide) rfl rfl N M .nil))))
    · have hl : (HJ b0 b1 b2 N M k V S).length = 6 + k := by rw [HJ_pos h]; simp; omega
      rw [hl, HJ_pos h]
      have e0 : (RJe k).getD 0 0 = 0 := by unfold RJe; rfl
      have e1 : (RJe k).getD 1 0 = 1 := by unfold RJe; rfl
      refine relBs_pl p0 (relBs_pl p1 (relBs_pl p2 (kdB_own (tbE_relJ (ρ := fun b => (RJe k).getD b 0) (by omega) e0 e1 N M ?_))))
      refine .some (RelK.list (relRgs V _ _ (List.range k) fun j hj => ?_)) ?_
      · have hj := List.mem_range.1 hj
        exact .slice (6 + j) (6 + j) 0 none _ _ _ (by omega) (RJe_at k hk (by omega) j hj)
      · have := relBs_map (z := 6 + k) (ρ := fun b => (RJe k).getD b 0) (dJb N S) (dJ_cl N S) (List.range k)
        rw [List.map_map]
        exact this
theorem HJ_get {M k j : Nat} (h : j < k) (c : List (Option ABlk)) : (HJ b0 b1 b2 N M k V S ++ c)[6 + j]? = some (dJ N S j) := by
  rw [HJ_pos (by omega), List.getElem?_append_left (by simp; omega)]
  rw [show 6 + j = j + 1 + 1 + 1 + 1 + 1 + 1 by omega]
  simp only [List.getElem?_cons_succ, List.getElem?_map, List.getElem?_range h, Option.map_some]
theorem HJ_rg {M k : Nat} (h : k ≠ 0) (c : List (Option ABlk)) : (HJ b0 b1 b2 N M k V S ++ c)[5]? = some (rgBo true (rgs V (fun j => slV (6 + j) N) k)) := by
  rw [HJ_pos h]
  rfl
theorem roundJ (h : EvG fC b0 b1 b2 N ops out xs) (p0 : PlO b0) (p1 : PlO b1) (p2 : PlO b2) (hb2 : ∃ ow, b2 = some ⟨(xs.flatMap fC).toArray, 27, 1, ow⟩) (hV : ∀ k o, ops[k]? = some o → V k = vStep xs V o) (hS : ∀ k o, ops[k]? = some o → ∀ i, S k i = sStep V S (V k) o i)
    {k : Nat} {o : OpD} (ho : ops[k]? = some o) (hk : k < 12) (h1 : 1 ≤ N) (h3 : N ≤ 3) :
    CodeB Try.prog 3 bodyJr (tmA 73 (LJ N ops.length k)) (HJ b0 b1 b2 N ops.length k V S).toArray (.normal, tmA 73 (LJ N ops.length (k + 1)), (HJ b0 b1 b2 N ops.length (k + 1) V S).toArray) := by
  have hok := h.ok k o ho
  have hd := h.head ho (H := HJ b0 b1 b2 N ops.length k V S) rfl
  obtain ⟨ow, hb2⟩ := hb2
  refine rndB_toL (rdJ h1 h3 hk b0 b1 b2 ops.length ⟨0, k * 4, none⟩ o.K o.A o.B o.C (V k) V S (S k)) okJr ?_ (entJ p0 p1 p2 ops.length k hk h1 h3)
  have hv : (rnO 69 #[kdF, opV o.K o.A o.B o.C, slV 2 N, rvJ 5 k] (HJ b0 b1 b2 N ops.length k V S ++ [obE o.K o.A o.B o.C]) (.float .f64 (V k)) []).ok Try.prog := by
    rw [hV k o ho]
    exact jval_rn (W := fun j => slV (6 + j) N) (ow := ow) (ow2 := true) hok h.lx (by rw [hb2]; rfl) (fun hk0 => HJ_rg hk0 _)
  refine okApp' (okApp' ⟨hd.1, hd.2.1, hd.2.2.1, hv, trivial⟩ (each_ok _ _ fun i hi => ?_)) ⟨cmp_ok (decide_eq_false (by omega)), trivial⟩
  have hin := List.mem_range.1 hi
  refine ⟨cmp_ok (decide_eq_true hin), ?_, trivial⟩
  rw [hS k o ho i]
  exact slo_rn (D := fun j => 6 + j) (S := S) (ow2 := true) hok hin (fun hk0 => HJ_rg hk0 _) (fun j hj => HJ_get hj _) (fun a b _ _ e => by omega) (fun j _ => by omega)
theorem roundsJ (h : EvG fC b0 b1 b2 N ops out xs) (p0 : PlO b0) (p1 : PlO b1) (p2 : PlO b2) (hb2 : ∃ ow, b2 = some ⟨(xs.flatMap fC).toArray, 27, 1, ow⟩) (hV : ∀ k o, ops[k]? = some o → V k = vStep xs V o) (hS : ∀ k o, ops[k]? = some o → ∀ i, S k i = sStep V S (V k) o i)
    (h1 : 1 ≤ N) (h3 : N ≤ 3) (hM : ops.length ≤ 12) (hM2 : 2 ≤ ops.length) : ∀ (d k : Nat), k + d = ops.length →
    RdsB Try.prog 3 bodyJr (tmA 73 (LJ N ops.length k)) (HJ b0 b1 b2 N ops.length k V S).toArray (.exit 0, tmA 73 (LJ N ops.length ops.length), (HJ b0 b1 b2 N ops.length ops.length V S).toArray)
  | 0, k, hk => by
    have e : k = ops.length := by omega
    rw [e]
    exact .last (rndB_to (rdJe h1 h3 hM2 (by omega) b0 b1 b2 ops.length V S) okJr ⟨cmp_ok (decide_eq_false (by omega)), trivial⟩ (entJe p0 p1 p2 _ _ (by omega))) (by simp)
  | d + 1, k, hk => by
    have hlt : k < ops.length := by omega
    exact .next (roundJ h p0 p1 p2 hb2 hV hS (List.getElem?_eq_getElem hlt) (by omega) h1 h3) (roundsJ h p0 p1 p2 hb2 hV hS h1 h3 hM hM2 d (k + 1) (by omega))
end

end Go.Proofs.Ytdlinjijccnaeaa
