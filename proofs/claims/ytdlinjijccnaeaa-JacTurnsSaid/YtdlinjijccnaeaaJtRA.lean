/- JacTurns' runs. -/
import Derived.Test.YtdlinjijccnaeaaJtB
namespace Go.Proofs.Ytdlinjijccnaeaa
open Go
set_option linter.unusedVariables false
set_option linter.unusedSimpArgs false
set_option maxRecDepth 100000

theorem jt2_0 : JtAt 2 [] := jt_short (fun size u v p q V x x' => by kernel_rfl)
theorem jt2_1 (z0 : Int) : JtAt 2 [z0] := jt_short (fun size u v p q V x x' => by kernel_rfl)
theorem jt2_2 (z0 z1 : Int) : JtAt 2 [z0, z1] := jt_short (fun size u v p q V x x' => by kernel_rfl)
theorem jt2_3 (z0 z1 z2 : Int) : JtAt 2 [z0, z1, z2] := jt_short (fun size u v p q V x x' => by kernel_rfl)
theorem jt2_t (z0 z1 z2 z3 : Int) (tail : List Int) : JtAt 2 (z0 :: z1 :: z2 :: z3 :: tail) := jt_long 4 (by simp only [List.length_cons]; omega) (fun size u v p q V x x' => by kernel_rfl)
theorem jt3_0 : JtAt 3 [] := jt_short (fun size u v p q V x x' => by kernel_rfl)
theorem jt3_1 (z0 : Int) : JtAt 3 [z0] := jt_short (fun size u v p q V x x' => by kernel_rfl)
theorem jt3_2 (z0 z1 : Int) : JtAt 3 [z0, z1] := jt_short (fun size u v p q V x x' => by kernel_rfl)
theorem jt3_3 (z0 z1 z2 : Int) : JtAt 3 [z0, z1, z2] := jt_short (fun size u v p q V x x' => by kernel_rfl)
theorem jt3_4 (z0 z1 z2 z3 : Int) : JtAt 3 [z0, z1, z2, z3] := jt_short (fun size u v p q V x x' => by kernel_rfl)
theorem jt3_5 (z0 z1 z2 z3 z4 : Int) : JtAt 3 [z0, z1, z2, z3, z4] := jt_short (fun size u v p q V x x' => by kernel_rfl)
theorem jt3_6 (z0 z1 z2 z3 z4 z5 : Int) : JtAt 3 [z0, z1, z2, z3, z4, z5] := jt_short (fun size u v p q V x x' => by kernel_rfl)
theorem jt3_7 (z0 z1 z2 z3 z4 z5 z6 : Int) : JtAt 3 [z0, z1, z2, z3, z4, z5, z6] := jt_short (fun size u v p q V x x' => by kernel_rfl)
theorem jt3_8 (z0 z1 z2 z3 z4 z5 z6 z7 : Int) : JtAt 3 [z0, z1, z2, z3, z4, z5, z6, z7] := jt_short (fun size u v p q V x x' => by kernel_rfl)
theorem jt3_t (z0 z1 z2 z3 z4 z5 z6 z7 z8 : Int) (tail : List Int) : JtAt 3 (z0 :: z1 :: z2 :: z3 :: z4 :: z5 :: z6 :: z7 :: z8 :: tail) := jt_long 9 (by simp only [List.length_cons]; omega) (fun size u v p q V x x' => by kernel_rfl)

end Go.Proofs.Ytdlinjijccnaeaa
