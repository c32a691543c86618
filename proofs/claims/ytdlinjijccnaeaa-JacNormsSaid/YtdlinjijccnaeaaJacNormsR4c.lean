/- The law JacNorms: some of its ways. -/
import Derived.Test.YtdlinjijccnaeaaJacNormsL
namespace Go.Proofs.Ytdlinjijccnaeaa
open Go
set_option linter.unusedVariables false
set_option linter.unusedSimpArgs false
set_option maxRecDepth 100000
theorem ns4_8 (z0 z1 z2 z3 z4 z5 z6 z7 : Int) : NsAt 4 [z0, z1, z2, z3, z4, z5, z6, z7] := ns_short (fun m k rare M x y r1 r2 t => by cases t <;> kernel_rfl)
theorem ns4_9 (z0 z1 z2 z3 z4 z5 z6 z7 z8 : Int) : NsAt 4 [z0, z1, z2, z3, z4, z5, z6, z7, z8] := ns_short (fun m k rare M x y r1 r2 t => by cases t <;> kernel_rfl)
theorem ns4_10 (z0 z1 z2 z3 z4 z5 z6 z7 z8 z9 : Int) : NsAt 4 [z0, z1, z2, z3, z4, z5, z6, z7, z8, z9] := ns_short (fun m k rare M x y r1 r2 t => by cases t <;> kernel_rfl)
theorem ns4_11 (z0 z1 z2 z3 z4 z5 z6 z7 z8 z9 z10 : Int) : NsAt 4 [z0, z1, z2, z3, z4, z5, z6, z7, z8, z9, z10] := ns_short (fun m k rare M x y r1 r2 t => by cases t <;> kernel_rfl)

end Go.Proofs.Ytdlinjijccnaeaa
