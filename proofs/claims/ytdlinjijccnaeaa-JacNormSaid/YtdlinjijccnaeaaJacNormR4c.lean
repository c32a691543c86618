/- The law JacNorm: some of its ways. -/
import Derived.Test.YtdlinjijccnaeaaJacNormL
namespace Go.Proofs.Ytdlinjijccnaeaa
open Go
set_option linter.unusedVariables false
set_option linter.unusedSimpArgs false
set_option maxRecDepth 100000
theorem jn4_12 (z0 z1 z2 z3 z4 z5 z6 z7 z8 z9 z10 z11 : Int) : JnAt 4 [z0, z1, z2, z3, z4, z5, z6, z7, z8, z9, z10, z11] := jn_short (fun size x => by kernel_rfl)
theorem jn4_13 (z0 z1 z2 z3 z4 z5 z6 z7 z8 z9 z10 z11 z12 : Int) : JnAt 4 [z0, z1, z2, z3, z4, z5, z6, z7, z8, z9, z10, z11, z12] := jn_short (fun size x => by kernel_rfl)
theorem jn4_14 (z0 z1 z2 z3 z4 z5 z6 z7 z8 z9 z10 z11 z12 z13 : Int) : JnAt 4 [z0, z1, z2, z3, z4, z5, z6, z7, z8, z9, z10, z11, z12, z13] := jn_short (fun size x => by kernel_rfl)
theorem jn4_15 (z0 z1 z2 z3 z4 z5 z6 z7 z8 z9 z10 z11 z12 z13 z14 : Int) : JnAt 4 [z0, z1, z2, z3, z4, z5, z6, z7, z8, z9, z10, z11, z12, z13, z14] := jn_short (fun size x => by kernel_rfl)
theorem jn4_t (z0 z1 z2 z3 z4 z5 z6 z7 z8 z9 z10 z11 z12 z13 z14 z15 : Int) (tail : List Int) : JnAt 4 (z0 :: z1 :: z2 :: z3 :: z4 :: z5 :: z6 :: z7 :: z8 :: z9 :: z10 :: z11 :: z12 :: z13 :: z14 :: z15 :: tail) := jn_long 16 (by simp only [List.length_cons]; omega) (fun size x => by kernel_rfl)

end Go.Proofs.Ytdlinjijccnaeaa
