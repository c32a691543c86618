/- The law JacNorm: some of its ways. -/
import Derived.Test.YtdlinjijccnaeaaJacNormL
namespace Go.Proofs.Ytdlinjijccnaeaa
open Go
set_option linter.unusedVariables false
set_option linter.unusedSimpArgs false
set_option maxRecDepth 100000
theorem jn4_0 : JnAt 4 [] := jn_short (fun size x => by kernel_rfl)
theorem jn4_1 (z0 : Int) : JnAt 4 [z0] := jn_short (fun size x => by kernel_rfl)
theorem jn4_2 (z0 z1 : Int) : JnAt 4 [z0, z1] := jn_short (fun size x => by kernel_rfl)
theorem jn4_3 (z0 z1 z2 : Int) : JnAt 4 [z0, z1, z2] := jn_short (fun size x => by kernel_rfl)
theorem jn4_4 (z0 z1 z2 z3 : Int) : JnAt 4 [z0, z1, z2, z3] := jn_short (fun size x => by kernel_rfl)
theorem jn4_5 (z0 z1 z2 z3 z4 : Int) : JnAt 4 [z0, z1, z2, z3, z4] := jn_short (fun size x => by kernel_rfl)

end Go.Proofs.Ytdlinjijccnaeaa
