/- The law JacNorm: some of its ways. -/
import Derived.Test.YtdlinjijccnaeaaJacNormL
namespace Go.Proofs.Ytdlinjijccnaeaa
open Go
set_option linter.unusedVariables false
set_option linter.unusedSimpArgs false
set_option maxRecDepth 100000
theorem jn2_0 : JnAt 2 [] := jn_short (fun size x => by kernel_rfl)
theorem jn2_1 (z0 : Int) : JnAt 2 [z0] := jn_short (fun size x => by kernel_rfl)
theorem jn2_2 (z0 z1 : Int) : JnAt 2 [z0, z1] := jn_short (fun size x => by kernel_rfl)
theorem jn2_3 (z0 z1 z2 : Int) : JnAt 2 [z0, z1, z2] := jn_short (fun size x => by kernel_rfl)
theorem jn2_t (z0 z1 z2 z3 : Int) (tail : List Int) : JnAt 2 (z0 :: z1 :: z2 :: z3 :: tail) := jn_long 4 (by simp only [List.length_cons]; omega) (fun size x => by kernel_rfl)

end Go.Proofs.Ytdlinjijccnaeaa
