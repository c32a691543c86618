/- The law JacAll returns true: its runs at each shape. -/
import Derived.Test.YtdlinjijccnaeaaJqP
import Derived.Test.YtdlinjijccnaeaaTpM
namespace Go.Proofs.Ytdlinjijccnaeaa
open Go
set_option linter.unusedVariables false
set_option linter.unusedSimpArgs false
set_option maxRecDepth 100000

noncomputable def askJa (g : FuncId) : Nat := if [12, 17, 18, 13, 16, 25, 19, 30, 31, 20, 29, 88].contains g then 1 else if [15, 26, 32, 61].contains g then 2 else if g == 1000050 || g == 1000051 || g == 1000063 then 7 else 0
def xEj (c : Nat → Nat) (fx fr : Nat → Nat) (i j : Nat) : Nat := if j < i ∧ c j = 0 then fr j else fx j
def tabAj (N : Nat) (R : Nat → Nat → Nat) (s : Nat) : Ans := cAns (fun s => slV (s + N) N) (tabJ s N R)
def tabAjI (N : Nat) (R : Nat → Nat → P2) (s : Nat) : Ans := cAns (fun s => slV (s + N) N) (tabJI s N R)
noncomputable def wiOj (z : Int) (n : Nat) (w : Int) : Obl := .run 13 #[.int .i64 z, .int .i64 (Int.ofNat n)] #[] (.int .i64 w) #[]
def stAj (c : Nat → Nat) (fr : Nat → Nat) (fX : Nat → P2) (p : Nat → Addr) (r w mi : Nat → Int) (i : Nat) : List Ans :=
  [yes true] ++ (if c i = 2 then [yes false] else [yes true, pAnsT (p i), isI (r i), isI (w i)] ++ (if c i = 0 then [yes true, cAns (fun _ => .float .f64 (fr i)) []] else [yes false])) ++ [isI (mi i), vAns (vI (fX i))]
def hpLj (b1 b2 b3 : Option ABlk) (N M : Nat) (co cu : Array Value) (c : Nat → Nat) (fx fr : Nat → Nat) (R : Nat → Nat → Nat) (fX : Nat → P2) (i : Nat) : List (Option ABlk) :=
  [b1, b2, b3, opB co, iB cu, tcB 3 N M, nwF ((List.range N).map (xEj c fx fr i))] ++ tabJ 7 N R ++ tabJ (8 + N) N R ++ grRi i fX
noncomputable def stOj (H : List (Option ABlk)) (N nr : Nat) (vc : Value) (m k : Int) (c : Nat → Nat) (fr : Nat → Nat) (fX : Nat → P2) (p : Nat → Addr) (r w mi : Nat → Int) (i : Nat) : List Obl :=
  [cpO .lss (Int.ofNat i) (Int.ofNat N) true] ++ (if c i = 2 then [cpO .lss (Int.ofNat i) nr false] else
    [cpO .lss (Int.ofNat i) nr true, .ex (indexAddrV Try.prog 22 vc (.int .i64 (Int.ofNat i)) = some (.pointer (some (p i)))), .ex (readVar Try.prog H.toArray 3 (p i) = some (.int .i64 (r i))), wiOj (r i) 5 (w i)] ++
      (if c i = 0 then [cpO .eql (w i) 0 true, rnO 30 #[.int .i64 (r i)] H (.float .f64 (fr i)) []] else [cpO .eql (w i) 0 false])) ++
  [arO .add m (Int.ofNat i) (mi i), qtO 31 #[.int .i64 (mi i), .int .i64 k, .int .i64 (if c i = 2 then 3 else r i)] (vI (fX i))]
/-- Tables that are the same, cell by cell. -/
def tbA (N : Nat) : List Ans := (List.range N).flatMap (fun _ => [yes true] ++ (List.range N).flatMap (fun _ => [yes true, yes true]) ++ [yes false]) ++ [yes false]
noncomputable def tbO (N : Nat) (s : Nat → Nat → Obl) : List Obl := (List.range N).flatMap (fun i => [cpO .lss (Int.ofNat i) (Int.ofNat N) true] ++ (List.range N).flatMap (fun j => [cpO .lss (Int.ofNat j) (Int.ofNat N) true, s i j]) ++ [cpO .lss (Int.ofNat N) (Int.ofNat N) false]) ++ [cpO .lss (Int.ofNat N) (Int.ofNat N) false]
noncomputable def smF (R : Nat → Nat → Nat) (i j : Nat) : Obl := qtO 19 #[.float .f64 (R i j), .float .f64 (R i j)] (.bool true)
noncomputable def smI (R : Nat → Nat → P2) (i j : Nat) : Obl := qtO 88 #[vI (R i j), vI (R i j)] (.bool true)
def JaRun (N : Nat) (c : Nat → Nat) : Prop := ∀ (b1 b2 b3 : Option ABlk) (n m k : Int) (dv : Bool) (M nr : Nat) (va vb : Value) (ar : Option Addr) (cr : Nat) (co cu : Array Value) (fx fr : Nat → Nat) (R R2 : Nat → Nat → Nat) (RI : Nat → Nat → P2) (fX : Nat → P2) (p : Nat → Addr) (r w mi : Nat → Int),
  (askN askJa cmK 12 10 #[.int .i64 n, va, .bool dv, vb, .slice ar nr cr, .int .i64 m, .int .i64 k] #[b1, b2, b3]
    ([yes true, tpA N M co cu, rwA N fx, tabAj N R 7, tabAj N R (8 + N)] ++ tbA N ++ (List.range N).flatMap (stAj c fr fX p r w mi) ++ [yes false, tabAj N R2 (9 + 4 * N), tabAj N R2 (10 + 5 * N)] ++ tbA N ++ [tabAjI N RI (11 + 6 * N), tabAjI N RI (12 + 7 * N)] ++ tbA N)).map (fun r => (r.1, r.2.2)) =
  some (.bool true, [qtO 12 #[] (.bool true), rnO 17 #[.int .i64 n, va, .bool dv] [b1, b2, b3] (tpV 3 4 N M) [opB co, iB cu],
      rnO 18 #[.int .i64 (Int.ofNat N), vb] [b1, b2, b3, opB co, iB cu, tcB 3 N M] (slV 6 N) [nwF ((List.range N).map fx)],
      rnO 16 #[tpV 3 4 N M, slV 6 N] [b1, b2, b3, opB co, iB cu, tcB 3 N M, nwF ((List.range N).map fx)] (slV (7 + N) N) (tabJ 7 N R),
      rnO 25 #[tpV 3 4 N M, slV 6 N] ([b1, b2, b3, opB co, iB cu, tcB 3 N M, nwF ((List.range N).map fx)] ++ tabJ 7 N R) (slV (8 + 2 * N) N) (tabJ (8 + N) N R)] ++ tbO N (smF R) ++
    (List.range N).flatMap (fun i => stOj (hpLj b1 b2 b3 N M co cu c fx fr R fX i) N nr (.slice ar nr cr) m k c fr fX p r w mi i) ++
    [cpO .lss (Int.ofNat N) (Int.ofNat N) false,
      rnO 16 #[tpV 3 4 N M, slV 6 N] (hpLj b1 b2 b3 N M co cu c fx fr R fX N) (slV (9 + 5 * N) N) (tabJ (9 + 4 * N) N R2),
      rnO 25 #[tpV 3 4 N M, slV 6 N] (hpLj b1 b2 b3 N M co cu c fx fr R fX N ++ tabJ (9 + 4 * N) N R2) (slV (10 + 6 * N) N) (tabJ (10 + 5 * N) N R2)] ++ tbO N (smF R2) ++
    [rnO 20 #[tpV 3 4 N M, slV (8 + 4 * N) N] (hpLj b1 b2 b3 N M co cu c fx fr R fX N ++ tabJ (9 + 4 * N) N R2 ++ tabJ (10 + 5 * N) N R2) (slV (11 + 7 * N) N) (tabJI (11 + 6 * N) N RI),
      rnO 29 #[tpV 3 4 N M, slV (8 + 4 * N) N] (hpLj b1 b2 b3 N M co cu c fx fr R fX N ++ tabJ (9 + 4 * N) N R2 ++ tabJ (10 + 5 * N) N R2 ++ tabJI (11 + 6 * N) N RI) (slV (12 + 8 * N) N) (tabJI (12 + 7 * N) N RI)] ++ tbO N (smI RI))
theorem jaRun_1_2 : JaRun 1 (fun i => [2].getD i 2) := fun _ _ _ _ _ _ _ _ _ _ _ _ _ _ _ _ _ _ _ _ _ _ _ _ _ => by kernel_rfl
theorem jaRun_1_0 : JaRun 1 (fun i => [0].getD i 2) := fun _ _ _ _ _ _ _ _ _ _ _ _ _ _ _ _ _ _ _ _ _ _ _ _ _ => by kernel_rfl
theorem jaRun_1_1 : JaRun 1 (fun i => [1].getD i 2) := fun _ _ _ _ _ _ _ _ _ _ _ _ _ _ _ _ _ _ _ _ _ _ _ _ _ => by kernel_rfl
theorem jaRun_2_22 : JaRun 2 (fun i => [2, 2].getD i 2) := fun _ _ _ _ _ _ _ _ _ _ _ _ _ _ _ _ _ _ _ _ _ _ _ _ _ => by kernel_rfl
theorem jaRun_2_02 : JaRun 2 (fun i => [0, 2].getD i 2) := fun _ _ _ _ _ _ _ _ _ _ _ _ _ _ _ _ _ _ _ _ _ _ _ _ _ => by kernel_rfl
theorem jaRun_2_12 : JaRun 2 (fun i => [1, 2].getD i 2) := fun _ _ _ _ _ _ _ _ _ _ _ _ _ _ _ _ _ _ _ _ _ _ _ _ _ => by kernel_rfl
theorem jaRun_2_00 : JaRun 2 (fun i => [0, 0].getD i 2) := fun _ _ _ _ _ _ _ _ _ _ _ _ _ _ _ _ _ _ _ _ _ _ _ _ _ => by kernel_rfl
theorem jaRun_2_01 : JaRun 2 (fun i => [0, 1].getD i 2) := fun _ _ _ _ _ _ _ _ _ _ _ _ _ _ _ _ _ _ _ _ _ _ _ _ _ => by kernel_rfl
theorem jaRun_2_10 : JaRun 2 (fun i => [1, 0].getD i 2) := fun _ _ _ _ _ _ _ _ _ _ _ _ _ _ _ _ _ _ _ _ _ _ _ _ _ => by kernel_rfl
theorem jaRun_2_11 : JaRun 2 (fun i => [1, 1].getD i 2) := fun _ _ _ _ _ _ _ _ _ _ _ _ _ _ _ _ _ _ _ _ _ _ _ _ _ => by kernel_rfl
theorem jaRun_3_222 : JaRun 3 (fun i => [2, 2, 2].getD i 2) := fun _ _ _ _ _ _ _ _ _ _ _ _ _ _ _ _ _ _ _ _ _ _ _ _ _ => by kernel_rfl
theorem jaRun_3_022 : JaRun 3 (fun i => [0, 2, 2].getD i 2) := fun _ _ _ _ _ _ _ _ _ _ _ _ _ _ _ _ _ _ _ _ _ _ _ _ _ => by kernel_rfl
theorem jaRun_3_122 : JaRun 3 (fun i => [1, 2, 2].getD i 2) := fun _ _ _ _ _ _ _ _ _ _ _ _ _ _ _ _ _ _ _ _ _ _ _ _ _ => by kernel_rfl
theorem jaRun_3_002 : JaRun 3 (fun i => [0, 0, 2].getD i 2) := fun _ _ _ _ _ _ _ _ _ _ _ _ _ _ _ _ _ _ _ _ _ _ _ _ _ => by kernel_rfl
theorem jaRun_3_012 : JaRun 3 (fun i => [0, 1, 2].getD i 2) := fun _ _ _ _ _ _ _ _ _ _ _ _ _ _ _ _ _ _ _ _ _ _ _ _ _ => by kernel_rfl
theorem jaRun_3_102 : JaRun 3 (fun i => [1, 0, 2].getD i 2) := fun _ _ _ _ _ _ _ _ _ _ _ _ _ _ _ _ _ _ _ _ _ _ _ _ _ => by kernel_rfl
theorem jaRun_3_112 : JaRun 3 (fun i => [1, 1, 2].getD i 2) := fun _ _ _ _ _ _ _ _ _ _ _ _ _ _ _ _ _ _ _ _ _ _ _ _ _ => by kernel_rfl
theorem jaRun_3_000 : JaRun 3 (fun i => [0, 0, 0].getD i 2) := fun _ _ _ _ _ _ _ _ _ _ _ _ _ _ _ _ _ _ _ _ _ _ _ _ _ => by kernel_rfl
theorem jaRun_3_001 : JaRun 3 (fun i => [0, 0, 1].getD i 2) := fun _ _ _ _ _ _ _ _ _ _ _ _ _ _ _ _ _ _ _ _ _ _ _ _ _ => by kernel_rfl
theorem jaRun_3_010 : JaRun 3 (fun i => [0, 1, 0].getD i 2) := fun _ _ _ _ _ _ _ _ _ _ _ _ _ _ _ _ _ _ _ _ _ _ _ _ _ => by kernel_rfl
theorem jaRun_3_011 : JaRun 3 (fun i => [0, 1, 1].getD i 2) := fun _ _ _ _ _ _ _ _ _ _ _ _ _ _ _ _ _ _ _ _ _ _ _ _ _ => by kernel_rfl
theorem jaRun_3_100 : JaRun 3 (fun i => [1, 0, 0].getD i 2) := fun _ _ _ _ _ _ _ _ _ _ _ _ _ _ _ _ _ _ _ _ _ _ _ _ _ => by kernel_rfl
theorem jaRun_3_101 : JaRun 3 (fun i => [1, 0, 1].getD i 2) := fun _ _ _ _ _ _ _ _ _ _ _ _ _ _ _ _ _ _ _ _ _ _ _ _ _ => by kernel_rfl
theorem jaRun_3_110 : JaRun 3 (fun i => [1, 1, 0].getD i 2) := fun _ _ _ _ _ _ _ _ _ _ _ _ _ _ _ _ _ _ _ _ _ _ _ _ _ => by kernel_rfl
theorem jaRun_3_111 : JaRun 3 (fun i => [1, 1, 1].getD i 2) := fun _ _ _ _ _ _ _ _ _ _ _ _ _ _ _ _ _ _ _ _ _ _ _ _ _ => by kernel_rfl

end Go.Proofs.Ytdlinjijccnaeaa
