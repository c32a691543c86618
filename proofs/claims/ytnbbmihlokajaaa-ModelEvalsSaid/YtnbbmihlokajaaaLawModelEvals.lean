/- The law ModelEvals returns true, whatever it is handed. -/
import Derived.Test.YtnbbmihlokajaaaMdL
namespace Go.Proofs.Ytnbbmihlokajaaa
open Go
set_option linter.unusedVariables false
set_option linter.unusedSimpArgs false
set_option maxRecDepth 100000

theorem modelEvals_three {o o2 o3 : Option ABlk} {va vb vc : Value} {zs ms ks : List Int} (ha : Handed #[o, o2, o3] zs va) (hb : Handed #[o, o2, o3] ms vb) (hc : Handed #[o, o2, o3] ks vc) (n : Int) (dv : Bool) (rest : Int) :
    Tells 13 #[.int .i64 n, va, .bool dv, vb, vc, .int .i64 rest] #[o, o2, o3] (.bool true) := by
  obtain ⟨n1, n2⟩ := mkN_le n
  generalize hN : mkN n = N at n1 n2
  let f : Nat → Nat → P2 := fun i => cOf2 (if i % 2 = 1 then ks else ms) (wr (rest + Int.ofNat i))
  have hf : ∀ i, AllN (f i) := fun i => cOf_n _ _
  have r := mvRun N n1 n2 o o2 o3 n rest dv (mkM n zs) va vb vc (opsB (mkOps n zs dv) true).cells (intB (mkOut n (mkM n zs)) true).cells f (evMd n zs dv ((List.range N).map f)) (fun i => wr (rest + Int.ofNat i))
  have hh := fun (c : List (Option ABlk)) {zs : List Int} {v : Value} (h : Handed [o, o2, o3].toArray zs v) => h.list c
  have hX : ∀ X ∈ (List.range N).map f, AllN X := by
    intro X hX
    obtain ⟨i, _, rfl⟩ := List.mem_map.1 hX
    exact hf i
  refine tells_of r (okApp' (okApp' ?_ (each_ok _ _ fun i hi => ?_)) ?_)
  · exact ⟨known5, make_rn n dv (hh [] ha) hN rfl rfl, trivial⟩
  · have hin := List.mem_range.1 hi
    have hm : (rnO 16 #[if i % 2 = 1 then vc else vb, .int .i64 (wr (rest + Int.ofNat i))] (hpMv o o2 o3 N (mkM n zs) (opsB (mkOps n zs dv) true).cells (intB (mkOut n (mkM n zs)) true).cells f i) (mW (f i)) []).ok Try.prog := by
      have e : hpMv o o2 o3 N (mkM n zs) (opsB (mkOps n zs dv) true).cells (intB (mkOut n (mkM n zs)) true).cells f i = [o, o2, o3] ++ ([opB (opsB (mkOps n zs dv) true).cells, iB (intB (mkOut n (mkM n zs)) true).cells, tcB 3 N (mkM n zs)] ++ grM i f) := rfl
      rw [e]
      by_cases h : i % 2 = 1
      · have hfi : f i = cOf2 ks (wr (rest + Int.ofNat i)) := by show cOf2 (if i % 2 = 1 then ks else ms) _ = _; rw [if_pos h]
        rw [if_pos h, hfi]
        exact make5_rn (hh _ hc) _
      · have hfi : f i = cOf2 ms (wr (rest + Int.ofNat i)) := by show cOf2 (if i % 2 = 1 then ks else ms) _ = _; rw [if_neg h]
        rw [if_neg h, hfi]
        exact make5_rn (hh _ hb) _
    refine ⟨cmp_ok (decide_eq_true hin), (cmp_eqlT _ _).trans (congrArg some ?_), ar_add _ _, hm, trivial⟩
    have : i = 0 ∨ i = 1 ∨ i = 2 := by omega
    rcases this with rfl | rfl | rfl <;> rfl
  · have hlen : (hpMv o o2 o3 N (mkM n zs) (opsB (mkOps n zs dv) true).cells (intB (mkOut n (mkM n zs)) true).cells f N).length = 6 + 2 * N := by
      have : N = 1 ∨ N = 2 ∨ N = 3 := by omega
      rcases this with h | h | h <;> subst h <;> rfl
    have hlast : (hpMv o o2 o3 N (mkM n zs) (opsB (mkOps n zs dv) true).cells (intB (mkOut n (mkM n zs)) true).cells f N)[5 + 2 * N]? = some (mB ((List.range N).map f)) := by
      unfold hpMv
      rw [List.getElem?_append_right (by simp; omega)]
      rw [show 5 + 2 * N - [o, o2, o3, opB (opsB (mkOps n zs dv) true).cells, iB (intB (mkOut n (mkM n zs)) true).cells, tcB 3 N (mkM n zs)].length = 2 * N - 1 by simp; omega]
      exact grM_last n1 n2 f
    generalize hH : hpMv o o2 o3 N (mkM n zs) (opsB (mkOps n zs dv) true).cells (intB (mkOut n (mkM n zs)) true).cells f N = HH at hlen hlast ⊢
    have q3 : HH[3]? = some (opB (opsB (mkOps n zs dv) true).cells) := by rw [← hH]; rfl
    have q4 : HH[4]? = some (iB (intB (mkOut n (mkM n zs)) true).cells) := by rw [← hH]; rfl
    have ap : ∀ {i : Nat} {x : Option ABlk} (c : List (Option ABlk)), HH[i]? = some x → (HH ++ c)[i]? = some x := by
      intro i x c h
      rw [List.getElem?_append_left (List.getElem?_eq_some_iff.1 h).1]; exact h
    have nw : ∀ (i : Nat) (c : List (Option ABlk)), (HH ++ c)[6 + 2 * N + i]? = c[i]? := by
      intro i c
      rw [List.getElem?_append_right (by omega), hlen, Nat.add_sub_cancel_left]
    have e1 := evM_rn (l := HH) n zs dv hX (bo := 3) (bu := 4) (bx := 5 + 2 * N) (s := 6 + 2 * N) hN rfl (by simp) q3 q4 hlast rfl hlen.symm
    have e2 := evM_rn (l := HH ++ [mB ((List.range N).map (evMd n zs dv ((List.range N).map f)))]) n zs dv hX (bo := 3) (bu := 4) (bx := 5 + 2 * N) (s := 7 + 2 * N) hN rfl (by simp) (ap _ q3) (ap _ q4) (ap _ hlast) rfl (by simp [hlen]; omega)
    have n0 := nw 0
    have n1' := nw 1
    rw [show 6 + 2 * N + 1 = 7 + 2 * N by omega] at n1'
    refine ⟨cmp_ok (decide_eq_false (by omega)), e1.1, e2.2, rowsM_rn n1 n2 (fun i _ => same5_runs (mkM_n n zs dv hX _)) (n0 _) rfl (n1' _) rfl, trivial⟩

end Go.Proofs.Ytnbbmihlokajaaa
