/- JacTurns' runs. -/
import Derived.Test.YtdlinjijccnaeaaJtB
namespace Go.Proofs.Ytdlinjijccnaeaa
open Go
set_option linter.unusedVariables false
set_option linter.unusedSimpArgs false
set_option maxRecDepth 100000

theorem jt4_0 : JtAt 4 [] := jt_short (fun size u v p q V x x' => by kernel_rfl)
theorem jt4_1 (z0 : Int) : JtAt 4 [z0] := jt_short (fun size u v p q V x x' => by kernel_rfl)
theorem jt4_2 (z0 z1 : Int) : JtAt 4 [z0, z1] := jt_short (fun size u v p q V x x' => by kernel_rfl)
theorem jt4_3 (z0 z1 z2 : Int) : JtAt 4 [z0, z1, z2] := jt_short (fun size u v p q V x x' => by kernel_rfl)
theorem jt4_4 (z0 z1 z2 z3 : Int) : JtAt 4 [z0, z1, z2, z3] := jt_short (fun size u v p q V x x' => by kernel_rfl)
theorem jt4_5 (z0 z1 z2 z3 z4 : Int) : JtAt 4 [z0, z1, z2, z3, z4] := jt_short (fun size u v p q V x x' => by kernel_rfl)

end Go.Proofs.Ytdlinjijccnaeaa
