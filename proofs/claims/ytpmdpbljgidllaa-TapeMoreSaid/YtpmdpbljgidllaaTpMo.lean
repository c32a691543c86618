/- The law TapeMore: what its run is. -/
import Derived.Test.YtpmdpbljgidllaaTpKf
namespace Go.Proofs.Ytpmdpbljgidllaa
open Go
set_option linter.unusedVariables false
set_option linter.unusedSimpArgs false
set_option maxRecDepth 100000

noncomputable def askMo (g : FuncId) : Nat := if [12, 14, 19, 17, 15, 25, 24, 30].contains g then 1 else 0
def cellO (k a b : Nat → Int) (c : Nat → Nat) (i : Nat) : List Value := [.int .i64 (k i), .int .i64 (a i), .int .i64 (b i), .float .f64 (c i)]
def cellX (A B : Nat → Int) (i : Nat) : List Value := [.int .i64 4, .int .i64 (A i), .int .i64 (B i), .float .f64 0]
def coX (M w : Nat) (k a b : Nat → Int) (c : Nat → Nat) (A B : Nat → Int) : Array Value := ((List.range M).flatMap (cellO k a b c) ++ (List.range w).flatMap (cellX A B)).toArray
def coM (M : Nat) (k a b : Nat → Int) (c : Nat → Nat) : Array Value := ((List.range M).flatMap (cellO k a b c)).toArray
def cuM (N : Nat) (u : Nat → Int) : Array Value := ((List.range N).flatMap fun i => [.int .i64 (u i)]).toArray
def puX (w : Nat) : Nat := if w = 0 then 4 else 8 + 2 * w
def hpX (b1 b2 : Option ABlk) (N M w : Nat) (k a b : Nat → Int) (c : Nat → Nat) (u : Nat → Int) (A B : Nat → Int) (fx : Nat → Nat) (u' : Nat → Int) : List (Option ABlk) :=
  [b1, b2, opB (coM M k a b c), iB (cuM N u), if w = 0 then opB (coX M w k a b c A B) else none, iB (cuM N u'), tcB 2 N M,
    some ⟨#[.int .i64 N, .slice (some ⟨puX w, 0, none⟩) (M + w) (M + w), .slice (some ⟨5, 0, none⟩) N N], 25, 0, true⟩, nwF ((List.range N).map fx)] ++
  (List.range w).flatMap fun i => [some ⟨(cellX A B i).toArray, 32, 4, true⟩, if i + 1 = w then opB (coX M w k a b c A B) else none]
def iAns (z : Int) : Ans := cAns (fun _ => .int .i64 z) []
noncomputable def wiM (z : Int) (n : Nat) (r : Int) : Obl := qtO 17 #[.int .i64 z, .int .i64 (Int.ofNat n)] (.int .i64 r)
def MoRun (N M w : Nat) : Prop := ∀ (b1 b2 : Option ABlk) (n z : Int) (dv : Bool) (va vb : Value) (k a b : Nat → Int) (c : Nat → Nat) (u A B : Nat → Int) (fx fy fy2 fz : Nat → Nat),
  (askN askMo lssC 12 7 #[.int .i64 n, va, .bool dv, vb, .int .i64 z] #[b1, b2]
    ([yes true, tpA N M (coM M k a b c) (cuM N u), tpA N M (coM M k a b c) (cuM N u), rwA N fx] ++ (List.range w).flatMap (fun i => [iAns (Int.ofNat w), yes true, iAns (A i), iAns (B i)]) ++ [iAns (Int.ofNat w), yes false, yes true, rwA N fy, rwA N fy2, yes true, rwA N fz, yes true])).map (fun r => (r.1, r.2.2)) =
  some (.bool true, [qtO 12 #[] (.bool true), rnO 14 #[.int .i64 n, va, .bool dv] [b1, b2] (tpV 2 3 N M) [opB (coM M k a b c), iB (cuM N u)],
      rnO 14 #[.int .i64 n, va, .bool dv] [b1, b2, opB (coM M k a b c), iB (cuM N u)] (tpV 4 5 N M) [opB (coM M k a b c), iB (cuM N u)],
      rnO 19 #[.int .i64 (Int.ofNat N), vb] [b1, b2, opB (coM M k a b c), iB (cuM N u), opB (coM M k a b c), iB (cuM N u), tcB 2 N M, tcB 4 N M] (slV 8 N) [nwF ((List.range N).map fx)]] ++
    (List.range w).flatMap (fun i => [wiM z 9 (Int.ofNat w), cpO .lss (Int.ofNat i) (Int.ofNat w) true, wiM z (M + i) (A i), wiM (IntKind.i64.wrap (z.tdiv 9)) (M + i) (B i)]) ++
    [wiM z 9 (Int.ofNat w), cpO .lss (Int.ofNat w) (Int.ofNat w) false,
      rnO 15 #[tpV (puX w) 5 N (M + w)] (hpX b1 b2 N M w k a b c u A B fx u) (.bool true) [],
      rnO 25 #[tpV 2 3 N M, slV 8 N] (hpX b1 b2 N M w k a b c u A B fx u) (slV (9 + 2 * w) N) [nwF ((List.range N).map fy)],
      rnO 25 #[tpV (puX w) 5 N (M + w), slV 8 N] (hpX b1 b2 N M w k a b c u A B fx u ++ [nwF ((List.range N).map fy)]) (slV (10 + 2 * w) N) [nwF ((List.range N).map fy2)],
      rnO 24 #[slV (9 + 2 * w) N, slV (10 + 2 * w) N] (hpX b1 b2 N M w k a b c u A B fx u ++ [nwF ((List.range N).map fy), nwF ((List.range N).map fy2)]) (.bool true) [],
      rnO 25 #[tpV (puX w) 5 N (M + w), slV 8 N] (hpX b1 b2 N M w k a b c u A B fx (fun i => if i = 0 then u (N - 1) else u i) ++ [nwF ((List.range N).map fy), nwF ((List.range N).map fy2)]) (slV (11 + 2 * w) N) [nwF ((List.range N).map fz)],
      qtO 30 #[.float .f64 (fz 0), .float .f64 (fz (N - 1))] (.bool true)])

end Go.Proofs.Ytpmdpbljgidllaa
