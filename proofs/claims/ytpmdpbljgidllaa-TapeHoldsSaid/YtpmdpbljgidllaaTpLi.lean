/- tape.EvalIv, the document's, on fields that Make makes, in any memory. -/
import Derived.Test.YtpmdpbljgidllaaTpLz
import Derived.Test.YtpmdpbljgidllaaTpEiH
import Derived.Test.YtpmdpbljgidllaaTpRiG
namespace Go.Proofs.Ytpmdpbljgidllaa
open Go
set_option linter.unusedVariables false
set_option linter.unusedSimpArgs false
set_option maxRecDepth 100000

theorem opP_rt (K : Int) (X Y : Nat × Nat) : Rt (opP K X Y) := by
  unfold opP
  split
  · exact addP_rt X Y
  split
  · exact subP_rt X Y
  split
  · exact mulP_rt X Y
  · exact divP_rt X Y
theorem rt_zero : Rt (0, 0) := ⟨fi_zero.1.nn, fi_zero.1.nn, Int.le_refl _⟩
theorem rt_pt {x : Nat} (h : NN x) : Rt (x, x) := ⟨h, h, Int.le_refl _⟩
theorem mk_rt (n : Int) (zs : List Int) (dv : Bool) {xs : List (Nat × Nat)} (hx : ∀ X ∈ xs, Rt X) (k : Nat) : Rt (regP (mkOps n zs dv) xs k) := by
  refine regT_all rt_zero (fun i => ?_) opP_rt (fun o ho h0 => ?_) k
  · rw [List.getD_eq_getElem?_getD]
    cases h : xs[i]? with
    | none => exact rt_zero
    | some a => exact hx a (List.mem_of_getElem? h)
  · obtain ⟨j, hj⟩ := List.getElem?_of_mem ho
    obtain ⟨N, _, hd⟩ := mk_const n zs dv hj h0
    exact rt_pt hd.fi.nn
section
variable (n : Int) (zs : List Int) (dv : Bool) {H : AHeap} {bo bu bx : Nat} {B0 B1 B2 : ABlk}
theorem evalI_in {xs : List (Nat × Nat)} (hr : ∀ k, Rt (regP (mkOps n zs dv) xs k)) (hx : xs.length = mkN n) (h0 : H[bo]? = some (some B0)) (e0 : B0.cells = (opsB (mkOps n zs dv) true).cells) (h1 : H[bu]? = some (some B1)) (e1 : B1.cells = (intB (mkOut n (mkM n zs)) true).cells) (h2 : H[bx]? = some (some B2)) (e2 : B2.cells = (xs.flatMap pC).toArray) :
    Runs Try.prog 20 #[tpV bo bu (mkN n) (mkM n zs), .slice (some ⟨bx, 0, none⟩) (mkN n) (mkN n)] H (.slice (some ⟨H.size, 0, none⟩) (mkN n) (mkN n)) (H ++ #[nwP (evOut (regP (mkOps n zs dv) xs) (mkOut n (mkM n zs)))]) ∧
    Runs Try.prog 38 #[tpV bo bu (mkN n) (mkM n zs), .slice (some ⟨bx, 0, none⟩) (mkN n) (mkN n)] H (.slice (some ⟨H.size, 0, none⟩) (mkN n) (mkN n)) (H ++ #[nwP (evOut (regP (mkOps n zs dv) xs) (mkOut n (mkM n zs)))]) := by
  obtain ⟨n1, n2⟩ := mkN_le n
  obtain ⟨m1, m2⟩ := mkM_le n zs
  have hG := mk_evG (f := pC) n zs dv hx 39 2
  have r1 := EvI.eval hG hr rfl rfl rfl (by rw [mkOps_len]; omega) (by rw [mkOps_len]; omega) n1 n2
  have r2 := EvG.evalsRi hG hr rfl rfl rfl (by rw [mkOps_len]; omega) (by rw [mkOps_len]; omega) n1 n2
  rw [mkOps_len] at r1 r2
  exact ⟨ev_move r1 rfl rfl rfl rfl (opsB_plain _ _) (intB_plain _ _) (plain_flat pC_cl _ _ _ _) (plain_flat pC_cl _ _ _ _) h0 e0 h1 e1 h2 e2, ev_move r2 rfl rfl rfl rfl (opsB_plain _ _) (intB_plain _ _) (plain_flat pC_cl _ _ _ _) (plain_flat pC_cl _ _ _ _) h0 e0 h1 e1 h2 e2⟩
end

end Go.Proofs.Ytpmdpbljgidllaa
