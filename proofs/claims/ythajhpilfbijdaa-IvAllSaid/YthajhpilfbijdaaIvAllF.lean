/- The law IvAll: one way through it. -/
import Derived.Test.YthajhpilfbijdaaIvAllQ
namespace Go.Proofs.Ythajhpilfbijdaa
open Go
set_option linter.unusedVariables false
set_option linter.unusedSimpArgs false
set_option maxRecDepth 100000

theorem ivAll_cameF (T : Tab) (a b : Nat) (m k w n j v : Int) (X0 X1 X2 P : Pt) (x y z : Nat) (t : Bool) :
    (askN askA allC 12 12 #[.float .f64 a, .float .f64 b, .int .i64 m, .int .i64 k, .int .i64 w, .int .i64 n, .int .i64 j, .int .i64 v] #[] (headA X0 X1 X2 P x y z t ++ rowsA T (five X0 X1 X2 false) (five X0 X1 X2 false))).map (fun r => (r.1, r.2.2)) =
      some (.bool true, headQ a b m k w n j v X0 X1 X2 P x y z t ++ rowsQ T a (five X0 X1 X2 false) (five X0 X1 X2 false)) := by
  kernel_rfl

end Go.Proofs.Ythajhpilfbijdaa
