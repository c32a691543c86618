/- The law NordStarts: what its run is. -/
import Derived.Test.YtclphdmaedpipaaTpKf
namespace Go.Proofs.Ytclphdmaedpipaa
open Go
set_option linter.unusedVariables false
set_option linter.unusedSimpArgs false
set_option maxRecDepth 100000

noncomputable def askSt (g : FuncId) : Nat := if [13, 27, 28, 15, 47, 30, 17, 31].contains g then 1 else if g == 29 then 2 else 0
def iAnsS (z : Int) : Ans := cAns (fun _ => .int .i64 z) []
def hW (w : Nat) : Nat := (993 + w) * 4503599627370496
def ndB (a b c e : Int) (v : Value) : Option ABlk := some ⟨#[.int .i64 a, .int .i64 b, .int .i64 c, .int .i64 e, v], 58, 0, true⟩
def hpSa (b1 b2 : Option ABlk) (N M : Nat) (co cu : Array Value) (fx : Nat → Nat) : List (Option ABlk) := [b1, b2, opB co, iB cu, tcB 2 N M, nwF ((List.range N).map fx), tcB 2 N M, ndB 0 0 0 0 (.slice none 0 0), some ⟨#[], 28, 1, true⟩]
def hpSb (b1 b2 : Option ABlk) (N M w : Nat) (co cu : Array Value) (fx fy : Nat → Nat) : List (Option ABlk) :=
  [b1, b2, opB co, iB cu, tcB 2 N M, nwF ((List.range N).map fx), tcB 2 N M, ndB 0 (Int.ofNat (2 ^ w)) 1 0 (.slice (some ⟨12 + 2 * N, 0, none⟩) 2 2), none, nwF ((List.range N).map fy)] ++ grRf N (fun i => fop .mul .f64 (hW w) (fy i)) ++
  [nwF ((List.range N).map fx), nwF ((List.range N).map fun i => fop .mul .f64 (hW w) (fy i)), some ⟨#[slV (10 + 2 * N) N, slV (11 + 2 * N) N], 30, 1, true⟩, ndB 0 (Int.ofNat (2 ^ w)) 1 0 (.slice (some ⟨12 + 2 * N, 0, none⟩) 2 2)]
def StRun (N w : Nat) : Prop := ∀ (b1 b2 : Option ABlk) (n z : Int) (M : Nat) (va vb : Value) (co cu : Array Value) (fx fy : Nat → Nat),
  (askN askSt lssC 12 11 #[.int .i64 n, va, vb, .int .i64 z] #[b1, b2]
    ([yes true, tpA N M co cu, rwA N fx, iAnsS (Int.ofNat w), rwA N fy] ++ (List.range N).map (fun _ => yes true) ++ [yes false, rwA N fy, yes true] ++ (List.range N).flatMap (fun _ => [yes true, yes true]) ++ [yes false])).map (fun r => (r.1, r.2.2)) =
  some (.bool true, [qtO 13 #[] (.bool true), rnO 27 #[.int .i64 n, va, .bool false] [b1, b2] (tpV 2 3 N M) [opB co, iB cu],
      rnO 28 #[.int .i64 (Int.ofNat N), vb] [b1, b2, opB co, iB cu, tcB 2 N M] (slV 5 N) [nwF ((List.range N).map fx)],
      qtO 15 #[.int .i64 z, .int .i64 (Int.ofNat 33)] (.int .i64 (Int.ofNat w)),
      rnO 47 #[tpV 2 3 N M, slV 5 N] (hpSa (fz b1) (fz b2) N M co cu fx) (slV 9 N) [nwF ((List.range N).map fy)]] ++
    (List.range N).map (fun i => cpO .lss (Int.ofNat i) (Int.ofNat N) true) ++
    [cpO .lss (Int.ofNat N) (Int.ofNat N) false,
      rnO 30 #[tpV 2 3 N M, slV 5 N] (hpSb b1 b2 N M w co cu fx fy) (slV (14 + 2 * N) N) [nwF ((List.range N).map fy)],
      rnO 17 #[slV (10 + 2 * N) N, slV 5 N] (hpSb b1 b2 N M w co cu fx fy ++ [nwF ((List.range N).map fy)]) (.bool true) []] ++
    (List.range N).flatMap (fun i => [cpO .lss (Int.ofNat i) (Int.ofNat N) true, qtO 31 #[.float .f64 (fop .mul .f64 (hW w) (fy i)), .float .f64 (fop .mul .f64 (hW w) (fy i))] (.bool true)]) ++ [cpO .lss (Int.ofNat N) (Int.ofNat N) false])

end Go.Proofs.Ytclphdmaedpipaa
