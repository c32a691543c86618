/- The law JacNorms: some of its ways. -/
import Derived.Test.YtdlinjijccnaeaaJacNormsL
namespace Go.Proofs.Ytdlinjijccnaeaa
open Go
set_option linter.unusedVariables false
set_option linter.unusedSimpArgs false
set_option maxRecDepth 100000
theorem ns4_12 (z0 z1 z2 z3 z4 z5 z6 z7 z8 z9 z10 z11 : Int) : NsAt 4 [z0, z1, z2, z3, z4, z5, z6, z7, z8, z9, z10, z11] := ns_short (fun m k rare M x y r1 r2 t => by cases t <;> kernel_rfl)
theorem ns4_13 (z0 z1 z2 z3 z4 z5 z6 z7 z8 z9 z10 z11 z12 : Int) : NsAt 4 [z0, z1, z2, z3, z4, z5, z6, z7, z8, z9, z10, z11, z12] := ns_short (fun m k rare M x y r1 r2 t => by cases t <;> kernel_rfl)
theorem ns4_14 (z0 z1 z2 z3 z4 z5 z6 z7 z8 z9 z10 z11 z12 z13 : Int) : NsAt 4 [z0, z1, z2, z3, z4, z5, z6, z7, z8, z9, z10, z11, z12, z13] := ns_short (fun m k rare M x y r1 r2 t => by cases t <;> kernel_rfl)
theorem ns4_15 (z0 z1 z2 z3 z4 z5 z6 z7 z8 z9 z10 z11 z12 z13 z14 : Int) : NsAt 4 [z0, z1, z2, z3, z4, z5, z6, z7, z8, z9, z10, z11, z12, z13, z14] := ns_short (fun m k rare M x y r1 r2 t => by cases t <;> kernel_rfl)
theorem ns4_t (z0 z1 z2 z3 z4 z5 z6 z7 z8 z9 z10 z11 z12 z13 z14 z15 : Int) (tail : List Int) : NsAt 4 (z0 :: z1 :: z2 :: z3 :: z4 :: z5 :: z6 :: z7 :: z8 :: z9 :: z10 :: z11 :: z12 :: z13 :: z14 :: z15 :: tail) := ns_long 16 (by simp only [List.length_cons]; omega) (fun m k rare M x y r1 r2 t => by cases t <;> kernel_rfl)

end Go.Proofs.Ytdlinjijccnaeaa
