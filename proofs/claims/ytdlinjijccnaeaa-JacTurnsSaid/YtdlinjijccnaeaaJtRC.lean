/- JacTurns' runs. -/
import Derived.Test.YtdlinjijccnaeaaJtB
namespace Go.Proofs.Ytdlinjijccnaeaa
open Go
set_option linter.unusedVariables false
set_option linter.unusedSimpArgs false
set_option maxRecDepth 100000

theorem jt4_6 (z0 z1 z2 z3 z4 z5 : Int) : JtAt 4 [z0, z1, z2, z3, z4, z5] := jt_short (fun size u v p q V x x' => by kernel_rfl)
theorem jt4_7 (z0 z1 z2 z3 z4 z5 z6 : Int) : JtAt 4 [z0, z1, z2, z3, z4, z5, z6] := jt_short (fun size u v p q V x x' => by kernel_rfl)
theorem jt4_8 (z0 z1 z2 z3 z4 z5 z6 z7 : Int) : JtAt 4 [z0, z1, z2, z3, z4, z5, z6, z7] := jt_short (fun size u v p q V x x' => by kernel_rfl)
theorem jt4_9 (z0 z1 z2 z3 z4 z5 z6 z7 z8 : Int) : JtAt 4 [z0, z1, z2, z3, z4, z5, z6, z7, z8] := jt_short (fun size u v p q V x x' => by kernel_rfl)
theorem jt4_10 (z0 z1 z2 z3 z4 z5 z6 z7 z8 z9 : Int) : JtAt 4 [z0, z1, z2, z3, z4, z5, z6, z7, z8, z9] := jt_short (fun size u v p q V x x' => by kernel_rfl)
theorem jt4_11 (z0 z1 z2 z3 z4 z5 z6 z7 z8 z9 z10 : Int) : JtAt 4 [z0, z1, z2, z3, z4, z5, z6, z7, z8, z9, z10] := jt_short (fun size u v p q V x x' => by kernel_rfl)

end Go.Proofs.Ytdlinjijccnaeaa
