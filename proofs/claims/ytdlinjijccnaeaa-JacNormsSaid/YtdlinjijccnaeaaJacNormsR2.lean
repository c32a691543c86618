/- The law JacNorms: some of its ways. -/
import Derived.Test.YtdlinjijccnaeaaJacNormsL
namespace Go.Proofs.Ytdlinjijccnaeaa
open Go
set_option linter.unusedVariables false
set_option linter.unusedSimpArgs false
set_option maxRecDepth 100000
theorem ns2_0 : NsAt 2 [] := ns_short (fun m k rare M x y r1 r2 t => by cases t <;> kernel_rfl)
theorem ns2_1 (z0 : Int) : NsAt 2 [z0] := ns_short (fun m k rare M x y r1 r2 t => by cases t <;> kernel_rfl)
theorem ns2_2 (z0 z1 : Int) : NsAt 2 [z0, z1] := ns_short (fun m k rare M x y r1 r2 t => by cases t <;> kernel_rfl)
theorem ns2_3 (z0 z1 z2 : Int) : NsAt 2 [z0, z1, z2] := ns_short (fun m k rare M x y r1 r2 t => by cases t <;> kernel_rfl)
theorem ns2_t (z0 z1 z2 z3 : Int) (tail : List Int) : NsAt 2 (z0 :: z1 :: z2 :: z3 :: tail) := ns_long 4 (by simp only [List.length_cons]; omega) (fun m k rare M x y r1 r2 t => by cases t <;> kernel_rfl)

end Go.Proofs.Ytdlinjijccnaeaa
