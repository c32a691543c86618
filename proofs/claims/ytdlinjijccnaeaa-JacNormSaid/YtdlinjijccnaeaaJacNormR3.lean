/- The law JacNorm: some of its ways. -/
import Derived.Test.YtdlinjijccnaeaaJacNormL
namespace Go.Proofs.Ytdlinjijccnaeaa
open Go
set_option linter.unusedVariables false
set_option linter.unusedSimpArgs false
set_option maxRecDepth 100000
theorem jn3_0 : JnAt 3 [] := jn_short (fun size x => by kernel_rfl)
theorem jn3_1 (z0 : Int) : JnAt 3 [z0] := jn_short (fun size x => by kernel_rfl)
theorem jn3_2 (z0 z1 : Int) : JnAt 3 [z0, z1] := jn_short (fun size x => by kernel_rfl)
theorem jn3_3 (z0 z1 z2 : Int) : JnAt 3 [z0, z1, z2] := jn_short (fun size x => by kernel_rfl)
theorem jn3_4 (z0 z1 z2 z3 : Int) : JnAt 3 [z0, z1, z2, z3] := jn_short (fun size x => by kernel_rfl)
theorem jn3_5 (z0 z1 z2 z3 z4 : Int) : JnAt 3 [z0, z1, z2, z3, z4] := jn_short (fun size x => by kernel_rfl)
theorem jn3_6 (z0 z1 z2 z3 z4 z5 : Int) : JnAt 3 [z0, z1, z2, z3, z4, z5] := jn_short (fun size x => by kernel_rfl)
theorem jn3_7 (z0 z1 z2 z3 z4 z5 z6 : Int) : JnAt 3 [z0, z1, z2, z3, z4, z5, z6] := jn_short (fun size x => by kernel_rfl)
theorem jn3_8 (z0 z1 z2 z3 z4 z5 z6 z7 : Int) : JnAt 3 [z0, z1, z2, z3, z4, z5, z6, z7] := jn_short (fun size x => by kernel_rfl)
theorem jn3_t (z0 z1 z2 z3 z4 z5 z6 z7 z8 : Int) (tail : List Int) : JnAt 3 (z0 :: z1 :: z2 :: z3 :: z4 :: z5 :: z6 :: z7 :: z8 :: tail) := jn_long 9 (by simp only [List.length_cons]; omega) (fun size x => by kernel_rfl)

end Go.Proofs.Ytdlinjijccnaeaa
