/- TpL / TpKf: several texts in one. -/
import Derived.Test.YtclphdmaedpipaaTpLz
import Derived.Test.YtclphdmaedpipaaTpE
import Derived.Test.YtclphdmaedpipaaTpRf
import Derived.Test.YtclphdmaedpipaaTpK
/-!  tape.Eval, the document's, on fields that Make makes, in any memory. -/
namespace Go.Proofs.Ytclphdmaedpipaa
open Go
set_option linter.unusedVariables false
set_option linter.unusedSimpArgs false
set_option maxRecDepth 100000

section
variable (n : Int) (zs : List Int) (dv : Bool) {H : AHeap} {bo bu bx : Nat} {B0 B1 B2 : ABlk}
theorem evalF_in {xs : List Nat} (hx : xs.length = mkN n) (h0 : H[bo]? = some (some B0)) (e0 : B0.cells = (opsB (mkOps n zs dv) true).cells) (h1 : H[bu]? = some (some B1)) (e1 : B1.cells = (intB (mkOut n (mkM n zs)) true).cells) (h2 : H[bx]? = some (some B2)) (e2 : B2.cells = (xs.flatMap fC).toArray) :
    Runs Try.prog 47 #[tpV bo bu (mkN n) (mkM n zs), .slice (some ⟨bx, 0, none⟩) (mkN n) (mkN n)] H (.slice (some ⟨H.size, 0, none⟩) (mkN n) (mkN n)) (H ++ #[nwF (evOut (regF (mkOps n zs dv) xs) (mkOut n (mkM n zs)))]) ∧
    Runs Try.prog 30 #[tpV bo bu (mkN n) (mkM n zs), .slice (some ⟨bx, 0, none⟩) (mkN n) (mkN n)] H (.slice (some ⟨H.size, 0, none⟩) (mkN n) (mkN n)) (H ++ #[nwF (evOut (regF (mkOps n zs dv) xs) (mkOut n (mkM n zs)))]) := by
  obtain ⟨n1, n2⟩ := mkN_le n
  obtain ⟨m1, m2⟩ := mkM_le n zs
  have hG := mk_evG (f := fC) n zs dv hx 28 1
  have r1 := EvH.eval hG rfl rfl rfl (by rw [mkOps_len]; omega) (by rw [mkOps_len]; omega) n1 n2
  have r2 := EvG.evalsRf hG rfl rfl rfl (by rw [mkOps_len]; omega) (by rw [mkOps_len]; omega) n1 n2
  rw [mkOps_len] at r1 r2
  exact ⟨ev_move r1 rfl rfl rfl rfl (opsB_plain _ _) (intB_plain _ _) (plain_flat fC_cl _ _ _ _) (plain_flat fC_cl _ _ _ _) h0 e0 h1 e1 h2 e2, ev_move r2 rfl rfl rfl rfl (opsB_plain _ _) (intB_plain _ _) (plain_flat fC_cl _ _ _ _) (plain_flat fC_cl _ _ _ _) h0 e0 h1 e1 h2 e2⟩
end

end Go.Proofs.Ytclphdmaedpipaa

/-!  What laws of tape.Eval have in common. -/
namespace Go.Proofs.Ytclphdmaedpipaa
open Go
set_option linter.unusedVariables false
set_option linter.unusedSimpArgs false
set_option maxRecDepth 100000

/-- What a field tells of numbers. -/
def evF (n : Int) (zs : List Int) (dv : Bool) (xs : List Nat) (i : Nat) : Nat := regF (mkOps n zs dv) xs (mkU n (mkM n zs) i).toNat
section
variable {l : List (Option ABlk)}
theorem evF_rn (n : Int) (zs : List Int) (dv : Bool) {xs : List Nat} {N M bo bu bx s : Nat} (hN : mkN n = N) (hM : mkM n zs = M) (hx : xs.length = N) {t : TypeId} {z : Nat} {B : ABlk}
    (h0 : l[bo]? = some (opB (opsB (mkOps n zs dv) true).cells)) (h1 : l[bu]? = some (iB (intB (mkOut n (mkM n zs)) true).cells)) (h2 : l[bx]? = some (some B)) (e2 : B.cells = (xs.flatMap fC).toArray) (hs : s = l.length) :
    (rnO 47 #[tpV bo bu N M, slV bx N] l (slV s N) [nwF ((List.range N).map (evF n zs dv xs))]).ok Try.prog ∧
    (rnO 30 #[tpV bo bu N M, slV bx N] l (slV s N) [nwF ((List.range N).map (evF n zs dv xs))]).ok Try.prog := by
  subst hN hM hs
  have := evalF_in n zs dv (H := froze l.toArray) hx (fz_at h0) rfl (fz_at h1) rfl (fz_at h2) e2
  rw [evOut_map, fz_size] at this
  exact this
end

end Go.Proofs.Ytclphdmaedpipaa
