/- The law JacNorms: some of its ways. -/
import Derived.Test.YtdlinjijccnaeaaJacNormsL
namespace Go.Proofs.Ytdlinjijccnaeaa
open Go
set_option linter.unusedVariables false
set_option linter.unusedSimpArgs false
set_option maxRecDepth 100000
theorem ns4_0 : NsAt 4 [] := ns_short (fun m k rare M x y r1 r2 t => by cases t <;> kernel_rfl)
theorem ns4_1 (z0 : Int) : NsAt 4 [z0] := ns_short (fun m k rare M x y r1 r2 t => by cases t <;> kernel_rfl)
theorem ns4_2 (z0 z1 : Int) : NsAt 4 [z0, z1] := ns_short (fun m k rare M x y r1 r2 t => by cases t <;> kernel_rfl)
theorem ns4_3 (z0 z1 z2 : Int) : NsAt 4 [z0, z1, z2] := ns_short (fun m k rare M x y r1 r2 t => by cases t <;> kernel_rfl)

end Go.Proofs.Ytdlinjijccnaeaa
