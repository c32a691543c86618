/- JacTurns' runs. -/
import Derived.Test.YtdlinjijccnaeaaJtB
namespace Go.Proofs.Ytdlinjijccnaeaa
open Go
set_option linter.unusedVariables false
set_option linter.unusedSimpArgs false
set_option maxRecDepth 100000

theorem jt4_12 (z0 z1 z2 z3 z4 z5 z6 z7 z8 z9 z10 z11 : Int) : JtAt 4 [z0, z1, z2, z3, z4, z5, z6, z7, z8, z9, z10, z11] := jt_short (fun size u v p q V x x' => by kernel_rfl)
theorem jt4_13 (z0 z1 z2 z3 z4 z5 z6 z7 z8 z9 z10 z11 z12 : Int) : JtAt 4 [z0, z1, z2, z3, z4, z5, z6, z7, z8, z9, z10, z11, z12] := jt_short (fun size u v p q V x x' => by kernel_rfl)
theorem jt4_14 (z0 z1 z2 z3 z4 z5 z6 z7 z8 z9 z10 z11 z12 z13 : Int) : JtAt 4 [z0, z1, z2, z3, z4, z5, z6, z7, z8, z9, z10, z11, z12, z13] := jt_short (fun size u v p q V x x' => by kernel_rfl)
theorem jt4_15 (z0 z1 z2 z3 z4 z5 z6 z7 z8 z9 z10 z11 z12 z13 z14 : Int) : JtAt 4 [z0, z1, z2, z3, z4, z5, z6, z7, z8, z9, z10, z11, z12, z13, z14] := jt_short (fun size u v p q V x x' => by kernel_rfl)
theorem jt4_t (z0 z1 z2 z3 z4 z5 z6 z7 z8 z9 z10 z11 z12 z13 z14 z15 : Int) (tail : List Int) : JtAt 4 (z0 :: z1 :: z2 :: z3 :: z4 :: z5 :: z6 :: z7 :: z8 :: z9 :: z10 :: z11 :: z12 :: z13 :: z14 :: z15 :: tail) := jt_long 16 (by simp only [List.length_cons]; omega) (fun size u v p q V x x' => by kernel_rfl)

end Go.Proofs.Ytdlinjijccnaeaa
