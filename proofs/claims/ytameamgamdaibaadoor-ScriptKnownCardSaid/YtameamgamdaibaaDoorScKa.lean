/- ScriptKnown: one of its texts. -/
import Derived.Test.YtameamgamdaibaaDoorScK
namespace Go.Proofs.YtameamgamdaibaaDoor
open Go
set_option linter.unusedVariables false
set_option maxRecDepth 100000

noncomputable def knAsk (f : FuncId) : Nat := bif f == 6 || f == 7 then 1 else 0
def KnRun (k : Int) : Prop := ∀ a : Int, (askL knAsk noC 12 3 #[.int .i64 a] #[] [yes true, isI k]).map (fun r => (r.1, r.2.2)) = some (.bool true, [.run 6 #[] #[] (.bool true) #[], .run 7 #[.int .i64 a, .int .i64 (Int.ofNat 22)] #[] (.int .i64 k) #[]])
theorem kn_at {k : Int} (h : KnRun k) (a : Int) (hk : a % Int.ofNat (21 + 1) = k) : Tells 3 #[.int .i64 a] #[] (.bool true) :=
  tells_ofL (h a) ⟨known13, by subst hk; exact within13 a 21 (by decide), trivial⟩

end Go.Proofs.YtameamgamdaibaaDoor
