/- The law NordOwn: what its run is. -/
import Derived.Test.YtclphdmaedpipaaNordScaleL
namespace Go.Proofs.Ytclphdmaedpipaa
open Go
set_option linter.unusedVariables false
set_option linter.unusedSimpArgs false
set_option maxRecDepth 100000

noncomputable def askOwN (f : FuncId) : Nat := if [13, 15, 14, 45, 31].contains f then 1 else if f == 44 then 4 else if [24, 41, 25, 17].contains f then 2 else if f == 1000083 then 7 else 0
def ansFl (x : Nat) : Ans := ⟨fun _ => .float .f64 x, []⟩
noncomputable def cvN (c : Int) (f : Nat) : Obl := .ex (convV Try.prog 3 28 (.int .i64 c) = some (.float .f64 f))
def OwnRunN (q k : Nat) : Prop := ∀ (o : Option ABlk) (order n by_ : Int) (va : Value) (X Y : Nat → Nat → Nat) (fb : Nat),
  (askN askOwN noC 12 8 #[.int .i64 order, .int .i64 n, va, .int .i64 by_] #[o]
    ([yes true, isI (Int.ofNat (q - 1)), ⟨fun _ => zV2 1 q k, rowsX q k 1 X⟩, ⟨fun _ => zV2 (3 + q) q k, rowsX q k (3 + q) X⟩] ++ rsA k Y (q + 1) 0 ++ List.replicate (3 * (q + 1) * k) (ansFl fb) ++ yesK ((q + 1) * k))).map (fun r => (r.1, r.2.2)) =
  some (.bool true, [kObl, wObl order 5 (Int.ofNat (q - 1)), mkO q k 1 n va #[o] X, mkO q k (3 + q) n va (G #[o] (rowsX q k 1 X)) X] ++ rsO k X Y 0 (q + 1) 0 ++ List.replicate (3 * (q + 1) * k) (cvN by_ fb) ++ tbO k X X (q + 1) 0)

end Go.Proofs.Ytclphdmaedpipaa
