/- The law JacNorm: some of its ways. -/
import Derived.Test.YtdlinjijccnaeaaJacNormL
namespace Go.Proofs.Ytdlinjijccnaeaa
open Go
set_option linter.unusedVariables false
set_option linter.unusedSimpArgs false
set_option maxRecDepth 100000
theorem jn1_0 : JnAt 1 [] := jn_short (fun size x => by kernel_rfl)
theorem jn1_1 (z0 : Int) : JnAt 1 [z0] := jn_short (fun size x => by kernel_rfl)
theorem jn1_t (z0 z1 : Int) (tail : List Int) : JnAt 1 (z0 :: z1 :: tail) := jn_long 2 (by simp only [List.length_cons]; omega) (fun size x => by kernel_rfl)

end Go.Proofs.Ytdlinjijccnaeaa
