/- What laws of tape.Eval have in common. -/
import Derived.Test.YtpmdpbljgidllaaTpK
import Derived.Test.YtpmdpbljgidllaaTpL
namespace Go.Proofs.Ytpmdpbljgidllaa
open Go
set_option linter.unusedVariables false
set_option linter.unusedSimpArgs false
set_option maxRecDepth 100000

/-- What a field tells of numbers. -/
def evF (n : Int) (zs : List Int) (dv : Bool) (xs : List Nat) (i : Nat) : Nat := regF (mkOps n zs dv) xs (mkU n (mkM n zs) i).toNat
section
variable {l : List (Option ABlk)}
theorem evF_rn (n : Int) (zs : List Int) (dv : Bool) {xs : List Nat} {N M bo bu bx s : Nat} (hN : mkN n = N) (hM : mkM n zs = M) (hx : xs.length = N) {t : TypeId} {z : Nat} {B : ABlk}
    (h0 : l[bo]? = some (opB (opsB (mkOps n zs dv) true).cells)) (h1 : l[bu]? = some (iB (intB (mkOut n (mkM n zs)) true).cells)) (h2 : l[bx]? = some (some B)) (e2 : B.cells = (xs.flatMap fC).toArray) (hs : s = l.length) :
    (rnO 25 #[tpV bo bu N M, slV bx N] l (slV s N) [nwF ((List.range N).map (evF n zs dv xs))]).ok Try.prog ∧
    (rnO 35 #[tpV bo bu N M, slV bx N] l (slV s N) [nwF ((List.range N).map (evF n zs dv xs))]).ok Try.prog := by
  subst hN hM hs
  have := evalF_in n zs dv (H := froze l.toArray) hx (fz_at h0) rfl (fz_at h1) rfl (fz_at h2) e2
  rw [evOut_map, fz_size] at this
  exact this
end

end Go.Proofs.Ytpmdpbljgidllaa
