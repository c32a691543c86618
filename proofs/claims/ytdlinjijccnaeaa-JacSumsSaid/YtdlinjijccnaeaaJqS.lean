/- The law JacSums: what its run is. -/
import Derived.Test.YtdlinjijccnaeaaJqK
namespace Go.Proofs.Ytdlinjijccnaeaa
open Go
set_option linter.unusedVariables false
set_option linter.unusedSimpArgs false
set_option maxRecDepth 100000

noncomputable def askJs5 (g : FuncId) : Nat := if [12, 17, 18, 16, 19].contains g then 1 else if g == 1000042 || g == 1000043 || g == 1000103 || g == 1000104 then 7 else 0
def cellO (k a b : Nat → Int) (c : Nat → Nat) (i : Nat) : List Value := [.int .i64 (k i), .int .i64 (a i), .int .i64 (b i), .float .f64 (c i)]
def coM (M : Nat) (k a b : Nat → Int) (c : Nat → Nat) : Array Value := ((List.range M).flatMap (cellO k a b c)).toArray
def coU (M : Nat) (k a b : Nat → Int) (c : Nat → Nat) (K A B : Int) : Array Value := ((List.range M).flatMap (cellO k a b c) ++ ([.int .i64 K, .int .i64 A, .int .i64 B, .float .f64 0] : List Value)).toArray
def cuM (N : Nat) (u : Nat → Int) : Array Value := ((List.range N).flatMap fun i => [.int .i64 (u i)]).toArray
def kSu (minus : Bool) : Int := if minus then 3 else 2
def tcS (N M : Nat) : Option ABlk := some ⟨#[.int .i64 (Int.ofNat N), slV 9 (M + 1), slV (9 + 2 * N) N], 36, 0, true⟩
def grS (N M : Nat) : List (Option ABlk) := (List.range N).flatMap fun i => [iB #[.int .i64 (Int.ofNat M)], if i + 1 = N then iB (cuM N fun _ => Int.ofNat M) else none]
def hpS (b1 b2 : Option ABlk) (N M : Nat) (minus : Bool) (k a b : Nat → Int) (c : Nat → Nat) (u : Nat → Int) : List (Option ABlk) :=
  [b1, b2, opB (coM M k a b c), iB (cuM N u), tcB 2 N M, none, none, tcS N M, opB #[.int .i64 (kSu minus), .int .i64 (u 0), .int .i64 (u (N - 1)), .float .f64 0], opB (coU M k a b c (kSu minus) (u 0) (u (N - 1)))] ++ grS N M
noncomputable def ciO (f : Nat) (z : Int) : Obl := .ex (convV Try.prog 27 3 (.float .f64 f) = some (.int .i64 z))
def wantS (minus : Bool) (x y : Nat) : Nat := if minus then fop .sub .f64 x y else fop .add .f64 x y
def SuRun (N M : Nat) (minus : Bool) : Prop := ∀ (b1 b2 : Option ABlk) (n : Int) (va vb : Value) (k a b : Nat → Int) (c c' : Nat → Nat) (u : Nat → Int) (fx fx' : Nat → Nat) (z zx : Nat → Int) (R RU : Nat → Nat → Nat),
  (askN askJs5 noC 12 5 #[.int .i64 n, va, vb, .bool minus] #[b1, b2]
    ([yes true, tpA N M (coM M k a b c) (cuM N u)] ++ (List.range M).flatMap (fun i => [isI (z i), vAns (.float .f64 (c' i))]) ++ [rwA N fx] ++ (List.range N).flatMap (fun i => [isI (zx i), vAns (.float .f64 (fx' i))]) ++ [tabAl N R (11 + 2 * N), tabAl N RU (12 + 3 * N)] ++ (List.range N).map (fun _ => yes true))).map (fun r => (r.1, r.2.2)) =
  some (.bool true, [qtO 12 #[] (.bool true), rnO 17 #[.int .i64 n, va, .bool false] [b1, b2] (tpV 2 3 N M) [opB (coM M k a b c), iB (cuM N u)]] ++
    (List.range M).flatMap (fun i => [ciO (c i) (z i), cvO (z i) (c' i)]) ++
    [rnO 18 #[.int .i64 (Int.ofNat N), vb] (hpS b1 b2 N M minus k a b c' u) (slV (10 + 2 * N) N) [nwF ((List.range N).map fx)]] ++
    (List.range N).flatMap (fun i => [ciO (fx i) (zx i), cvO (zx i) (fx' i)]) ++
    [rnO 16 #[tpV 2 3 N M, slV (10 + 2 * N) N] (hpS b1 b2 N M minus k a b c' u ++ [nwF ((List.range N).map fx')]) (slV (11 + 2 * N + N) N) (tabJ (11 + 2 * N) N R),
      rnO 16 #[tpV 9 (9 + 2 * N) N (M + 1), slV (10 + 2 * N) N] (hpS b1 b2 N M minus k a b c' u ++ [nwF ((List.range N).map fx')] ++ tabJ (11 + 2 * N) N R) (slV (12 + 3 * N + N) N) (tabJ (12 + 3 * N) N RU)] ++
    (List.range N).map (fun i => qtO 19 #[.float .f64 (RU 0 i), .float .f64 (wantS minus (R 0 i) (R (N - 1) i))] (.bool true)))

end Go.Proofs.Ytdlinjijccnaeaa
