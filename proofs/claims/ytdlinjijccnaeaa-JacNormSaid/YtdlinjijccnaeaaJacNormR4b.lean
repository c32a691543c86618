/- The law JacNorm: some of its ways. -/
import Derived.Test.YtdlinjijccnaeaaJacNormL
namespace Go.Proofs.Ytdlinjijccnaeaa
open Go
set_option linter.unusedVariables false
set_option linter.unusedSimpArgs false
set_option maxRecDepth 100000
theorem jn4_6 (z0 z1 z2 z3 z4 z5 : Int) : JnAt 4 [z0, z1, z2, z3, z4, z5] := jn_short (fun size x => by kernel_rfl)
theorem jn4_7 (z0 z1 z2 z3 z4 z5 z6 : Int) : JnAt 4 [z0, z1, z2, z3, z4, z5, z6] := jn_short (fun size x => by kernel_rfl)
theorem jn4_8 (z0 z1 z2 z3 z4 z5 z6 z7 : Int) : JnAt 4 [z0, z1, z2, z3, z4, z5, z6, z7] := jn_short (fun size x => by kernel_rfl)
theorem jn4_9 (z0 z1 z2 z3 z4 z5 z6 z7 z8 : Int) : JnAt 4 [z0, z1, z2, z3, z4, z5, z6, z7, z8] := jn_short (fun size x => by kernel_rfl)
theorem jn4_10 (z0 z1 z2 z3 z4 z5 z6 z7 z8 z9 : Int) : JnAt 4 [z0, z1, z2, z3, z4, z5, z6, z7, z8, z9] := jn_short (fun size x => by kernel_rfl)
theorem jn4_11 (z0 z1 z2 z3 z4 z5 z6 z7 z8 z9 z10 : Int) : JnAt 4 [z0, z1, z2, z3, z4, z5, z6, z7, z8, z9, z10] := jn_short (fun size x => by kernel_rfl)

end Go.Proofs.Ytdlinjijccnaeaa
