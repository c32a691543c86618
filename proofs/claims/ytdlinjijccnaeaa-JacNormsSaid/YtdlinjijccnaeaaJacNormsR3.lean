/- The law JacNorms: some of its ways. -/
import Derived.Test.YtdlinjijccnaeaaJacNormsL
namespace Go.Proofs.Ytdlinjijccnaeaa
open Go
set_option linter.unusedVariables false
set_option linter.unusedSimpArgs false
set_option maxRecDepth 100000
theorem ns3_0 : NsAt 3 [] := ns_short (fun m k rare M x y r1 r2 t => by cases t <;> kernel_rfl)
theorem ns3_1 (z0 : Int) : NsAt 3 [z0] := ns_short (fun m k rare M x y r1 r2 t => by cases t <;> kernel_rfl)
theorem ns3_2 (z0 z1 : Int) : NsAt 3 [z0, z1] := ns_short (fun m k rare M x y r1 r2 t => by cases t <;> kernel_rfl)
theorem ns3_3 (z0 z1 z2 : Int) : NsAt 3 [z0, z1, z2] := ns_short (fun m k rare M x y r1 r2 t => by cases t <;> kernel_rfl)
theorem ns3_4 (z0 z1 z2 z3 : Int) : NsAt 3 [z0, z1, z2, z3] := ns_short (fun m k rare M x y r1 r2 t => by cases t <;> kernel_rfl)
theorem ns3_5 (z0 z1 z2 z3 z4 : Int) : NsAt 3 [z0, z1, z2, z3, z4] := ns_short (fun m k rare M x y r1 r2 t => by cases t <;> kernel_rfl)
theorem ns3_6 (z0 z1 z2 z3 z4 z5 : Int) : NsAt 3 [z0, z1, z2, z3, z4, z5] := ns_short (fun m k rare M x y r1 r2 t => by cases t <;> kernel_rfl)
theorem ns3_7 (z0 z1 z2 z3 z4 z5 z6 : Int) : NsAt 3 [z0, z1, z2, z3, z4, z5, z6] := ns_short (fun m k rare M x y r1 r2 t => by cases t <;> kernel_rfl)
theorem ns3_8 (z0 z1 z2 z3 z4 z5 z6 z7 : Int) : NsAt 3 [z0, z1, z2, z3, z4, z5, z6, z7] := ns_short (fun m k rare M x y r1 r2 t => by cases t <;> kernel_rfl)
theorem ns3_t (z0 z1 z2 z3 z4 z5 z6 z7 z8 : Int) (tail : List Int) : NsAt 3 (z0 :: z1 :: z2 :: z3 :: z4 :: z5 :: z6 :: z7 :: z8 :: tail) := ns_long 9 (by simp only [List.length_cons]; omega) (fun m k rare M x y r1 r2 t => by cases t <;> kernel_rfl)

end Go.Proofs.Ytdlinjijccnaeaa
