/- The law JacNorms: some of its ways. -/
import Derived.Test.YtdlinjijccnaeaaJacNormsL
namespace Go.Proofs.Ytdlinjijccnaeaa
open Go
set_option linter.unusedVariables false
set_option linter.unusedSimpArgs false
set_option maxRecDepth 100000
theorem ns4_4 (z0 z1 z2 z3 : Int) : NsAt 4 [z0, z1, z2, z3] := ns_short (fun m k rare M x y r1 r2 t => by cases t <;> kernel_rfl)
theorem ns4_5 (z0 z1 z2 z3 z4 : Int) : NsAt 4 [z0, z1, z2, z3, z4] := ns_short (fun m k rare M x y r1 r2 t => by cases t <;> kernel_rfl)
theorem ns4_6 (z0 z1 z2 z3 z4 z5 : Int) : NsAt 4 [z0, z1, z2, z3, z4, z5] := ns_short (fun m k rare M x y r1 r2 t => by cases t <;> kernel_rfl)
theorem ns4_7 (z0 z1 z2 z3 z4 z5 z6 : Int) : NsAt 4 [z0, z1, z2, z3, z4, z5, z6] := ns_short (fun m k rare M x y r1 r2 t => by cases t <;> kernel_rfl)

end Go.Proofs.Ytdlinjijccnaeaa
