/- The sum and the difference of two from-tos, and whether a number is within, by what is told of the ends. -/
import Derived.Test.YthajhpilfbijdaaIvAdd
namespace Go.Proofs.Ythajhpilfbijdaa
open Go
set_option linter.unusedVariables false
set_option maxRecDepth 100000

noncomputable def askI (f : FuncId) : Nat := if f == 67 || f == 68 then 1 else if f == 56 || f == 53 then 0 else 2
theorem quiet_of {ask : FuncId → Nat} {f : FuncId} {args : Array Value} {s : List Ans} {v : Value} {l : List Obl} (h : (askN ask fltC 12 f args #[] s).map (fun r => (r.1, r.2.2)) = some (v, l)) (hl : okAll Try.prog l) (ha : closA args = true) (hv : closN 4 v = true) : Runs Try.prog f args #[] v #[] := by
  obtain ⟨H', h⟩ := tells_of h hl
  exact h.quiet ha hv #[]
def isF (n : Nat) : Ans := ⟨fun _ => .float .f64 n, []⟩
def ivV (a b : Nat) : Value := .agg #[.float .f64 a, .float .f64 b]
def downO (x d : Nat) : Obl := .run 67 #[.float .f64 x] #[] (.float .f64 d) #[]
def upO (x d : Nat) : Obl := .run 68 #[.float .f64 x] #[] (.float .f64 d) #[]
def cmpO (op : BinOp) (x y : Nat) (c : Bool) : Obl := .cmp op 24 (.float .f64 x) (.float .f64 y) c

theorem add_runs {a b c e d u : Nat} (hd : Runs Try.prog 67 #[.float .f64 (fop .add .f64 a c)] #[] (.float .f64 d) #[]) (hu : Runs Try.prog 68 #[.float .f64 (fop .add .f64 b e)] #[] (.float .f64 u) #[])
    (hle : fcmp .leq .f64 d u = some true) : Runs Try.prog 19 #[ivV a b, ivV c e] #[] (ivV d u) #[] :=
  quiet_of (ask := askI) (s := [isF d, isF u, yes true]) (l := [downO (fop .add .f64 a c) d, upO (fop .add .f64 b e) u, cmpO .leq d u true]) (by kernel_rfl) ⟨hd, hu, (fc _ rfl _ _).trans hle, trivial⟩ rfl rfl

theorem sub_runs {a b c e d u : Nat} (hd : Runs Try.prog 67 #[.float .f64 (fop .sub .f64 a e)] #[] (.float .f64 d) #[]) (hu : Runs Try.prog 68 #[.float .f64 (fop .sub .f64 b c)] #[] (.float .f64 u) #[])
    (hle : fcmp .leq .f64 d u = some true) : Runs Try.prog 20 #[ivV a b, ivV c e] #[] (ivV d u) #[] :=
  quiet_of (ask := askI) (s := [isF d, isF u, yes true]) (l := [downO (fop .sub .f64 a e) d, upO (fop .sub .f64 b c) u, cmpO .leq d u true]) (by kernel_rfl) ⟨hd, hu, (fc _ rfl _ _).trans hle, trivial⟩ rfl rfl

theorem in_runs {x a b : Nat} (h1 : fcmp .leq .f64 a x = some true) (h2 : fcmp .leq .f64 x b = some true) : Runs Try.prog 18 #[.float .f64 x, ivV a b] #[] (.bool true) #[] :=
  quiet_of (ask := askI) (s := [yes true, yes true]) (l := [cmpO .leq a x true, cmpO .leq x b true]) (by kernel_rfl) ⟨(fc _ rfl _ _).trans h1, (fc _ rfl _ _).trans h2, trivial⟩ rfl rfl

theorem leq_key {x y : Nat} (hx : Fin x) (hy : Fin y) (h : key x ≤ key y) : fcmp .leq .f64 x y = some true := by
  have o : FloatKind.f64.format.order x y = some (compare (key x) (key y)) := order_key hx hy
  simp only [fcmp, o]
  simp only [compare, compareOfLessAndEq]
  by_cases hl : key x < key y
  · simp [hl]
  · have : key x = key y := by omega
    simp [this]

end Go.Proofs.Ythajhpilfbijdaa
