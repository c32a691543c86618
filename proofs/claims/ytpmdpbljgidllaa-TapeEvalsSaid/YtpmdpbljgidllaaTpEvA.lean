/- The law TapeEvals returns true: its runs at each shape. -/
import Derived.Test.YtpmdpbljgidllaaTpK
namespace Go.Proofs.Ytpmdpbljgidllaa
open Go
set_option linter.unusedVariables false
set_option linter.unusedSimpArgs false
set_option maxRecDepth 100000

noncomputable def askEs (g : FuncId) : Nat := if [12, 14, 19, 17, 25, 35, 24, 18, 36, 20, 38, 37].contains g then 1 else if g == 1000050 || g == 1000051 || g == 1000063 then 7 else 0
def xE (c : Nat → Nat) (fx fr : Nat → Nat) (i j : Nat) : Nat := if j < i ∧ c j = 0 then fr j else fx j
def yesC (b : Bool) : Ans := cAns (fun _ => .bool b) []
def stA (c : Nat → Nat) (fr : Nat → Nat) (fX : Nat → Nat × Nat) (p : Nat → Addr) (r w mi : Nat → Int) (i : Nat) : List Ans :=
  [yes true] ++ (if c i = 2 then [yes false] else [yes true, pAnsT (p i), isI (r i), isI (w i)] ++ (if c i = 0 then [yes true, cAns (fun _ => .float .f64 (fr i)) []] else [yes false])) ++ [isI (mi i), vAns (vI (fX i))]
def hpL (b1 b2 b3 : Option ABlk) (N M : Nat) (co cu : Array Value) (c : Nat → Nat) (fx fy fr : Nat → Nat) (fX : Nat → Nat × Nat) (i : Nat) : List (Option ABlk) :=
  [b1, b2, b3, opB co, iB cu, tcB 3 N M, nwF ((List.range N).map (xE c fx fr i)), nwF ((List.range N).map fy), nwF ((List.range N).map fy)] ++ grRi i fX
noncomputable def stO (H : List (Option ABlk)) (N nr : Nat) (vc : Value) (m k : Int) (c : Nat → Nat) (fr : Nat → Nat) (fX : Nat → Nat × Nat) (p : Nat → Addr) (r w mi : Nat → Int) (i : Nat) : List Obl :=
  [cpO .lss (Int.ofNat i) (Int.ofNat N) true] ++ (if c i = 2 then [cpO .lss (Int.ofNat i) nr false] else
    [cpO .lss (Int.ofNat i) nr true, .ex (indexAddrV Try.prog 23 vc (.int .i64 (Int.ofNat i)) = some (.pointer (some (p i)))), .ex (readVar Try.prog H.toArray 3 (p i) = some (.int .i64 (r i))), wiOt (r i) 5 (w i)] ++
      (if c i = 0 then [cpO .eql (w i) 0 true, rnO 18 #[.int .i64 (r i)] H (.float .f64 (fr i)) []] else [cpO .eql (w i) 0 false])) ++
  [arO .add m (Int.ofNat i) (mi i), qtO 36 #[.int .i64 (mi i), .int .i64 k, .int .i64 (if c i = 2 then 3 else r i)] (vI (fX i))]
def EvsRun (N : Nat) (c : Nat → Nat) : Prop := ∀ (b1 b2 b3 : Option ABlk) (n m k : Int) (dv : Bool) (M nr : Nat) (va vb : Value) (ar : Option Addr) (cr : Nat) (co cu : Array Value) (fx fy fy2 fr : Nat → Nat) (fX fZ : Nat → Nat × Nat) (p : Nat → Addr) (r w mi : Nat → Int),
  (askN askEs cmK 12 11 #[.int .i64 n, va, .bool dv, vb, .slice ar nr cr, .int .i64 m, .int .i64 k] #[b1, b2, b3]
    ([yes true, tpA N M co cu, rwA N fx, rwA N fy, rwA N fy, yesC true] ++ (List.range N).flatMap (stA c fr fX p r w mi) ++ [yes false, rwA N fy2, rwA N fy2, yesC true, rwP N fZ, rwP N fZ, yesC true])).map (fun r => (r.1, r.2.2)) =
  some (.bool true, [qtO 12 #[] (.bool true), rnO 14 #[.int .i64 n, va, .bool dv] [b1, b2, b3] (tpV 3 4 N M) [opB co, iB cu],
      rnO 19 #[.int .i64 (Int.ofNat N), vb] [b1, b2, b3, opB co, iB cu, tcB 3 N M] (slV 6 N) [nwF ((List.range N).map fx)],
      rnO 25 #[tpV 3 4 N M, slV 6 N] [b1, b2, b3, opB co, iB cu, tcB 3 N M, nwF ((List.range N).map fx)] (slV 7 N) [nwF ((List.range N).map fy)],
      rnO 35 #[tpV 3 4 N M, slV 6 N] [b1, b2, b3, opB co, iB cu, tcB 3 N M, nwF ((List.range N).map fx), nwF ((List.range N).map fy)] (slV 8 N) [nwF ((List.range N).map fy)],
      rnO 24 #[slV 7 N, slV 8 N] [b1, b2, b3, opB co, iB cu, tcB 3 N M, nwF ((List.range N).map fx), nwF ((List.range N).map fy), nwF ((List.range N).map fy)] (.bool true) []] ++
    (List.range N).flatMap (fun i => stO (hpL b1 b2 b3 N M co cu c fx fy fr fX i) N nr (.slice ar nr cr) m k c fr fX p r w mi i) ++
    [cpO .lss (Int.ofNat N) (Int.ofNat N) false,
      rnO 25 #[tpV 3 4 N M, slV 6 N] (hpL b1 b2 b3 N M co cu c fx fy fr fX N) (slV (9 + 2 * N) N) [nwF ((List.range N).map fy2)],
      rnO 35 #[tpV 3 4 N M, slV 6 N] (hpL b1 b2 b3 N M co cu c fx fy fr fX N ++ [nwF ((List.range N).map fy2)]) (slV (10 + 2 * N) N) [nwF ((List.range N).map fy2)],
      rnO 24 #[slV (9 + 2 * N) N, slV (10 + 2 * N) N] (hpL b1 b2 b3 N M co cu c fx fy fr fX N ++ [nwF ((List.range N).map fy2), nwF ((List.range N).map fy2)]) (.bool true) [],
      rnO 20 #[tpV 3 4 N M, slV (8 + 2 * N) N] (hpL b1 b2 b3 N M co cu c fx fy fr fX N ++ [nwF ((List.range N).map fy2), nwF ((List.range N).map fy2)]) (slV (11 + 2 * N) N) [nwP ((List.range N).map fZ)],
      rnO 38 #[tpV 3 4 N M, slV (8 + 2 * N) N] (hpL b1 b2 b3 N M co cu c fx fy fr fX N ++ [nwF ((List.range N).map fy2), nwF ((List.range N).map fy2), nwP ((List.range N).map fZ)]) (slV (12 + 2 * N) N) [nwP ((List.range N).map fZ)],
      rnO 37 #[slV (11 + 2 * N) N, slV (12 + 2 * N) N] (hpL b1 b2 b3 N M co cu c fx fy fr fX N ++ [nwF ((List.range N).map fy2), nwF ((List.range N).map fy2), nwP ((List.range N).map fZ), nwP ((List.range N).map fZ)]) (.bool true) []])
theorem evsRun_1_2 : EvsRun 1 (fun i => [2].getD i 2) := fun _ _ _ _ _ _ _ _ _ _ _ _ _ _ _ _ _ _ _ _ _ _ _ _ _ => by kernel_rfl
theorem evsRun_1_0 : EvsRun 1 (fun i => [0].getD i 2) := fun _ _ _ _ _ _ _ _ _ _ _ _ _ _ _ _ _ _ _ _ _ _ _ _ _ => by kernel_rfl
theorem evsRun_1_1 : EvsRun 1 (fun i => [1].getD i 2) := fun _ _ _ _ _ _ _ _ _ _ _ _ _ _ _ _ _ _ _ _ _ _ _ _ _ => by kernel_rfl
theorem evsRun_2_22 : EvsRun 2 (fun i => [2, 2].getD i 2) := fun _ _ _ _ _ _ _ _ _ _ _ _ _ _ _ _ _ _ _ _ _ _ _ _ _ => by kernel_rfl
theorem evsRun_2_02 : EvsRun 2 (fun i => [0, 2].getD i 2) := fun _ _ _ _ _ _ _ _ _ _ _ _ _ _ _ _ _ _ _ _ _ _ _ _ _ => by kernel_rfl
theorem evsRun_2_12 : EvsRun 2 (fun i => [1, 2].getD i 2) := fun _ _ _ _ _ _ _ _ _ _ _ _ _ _ _ _ _ _ _ _ _ _ _ _ _ => by kernel_rfl
theorem evsRun_2_00 : EvsRun 2 (fun i => [0, 0].getD i 2) := fun _ _ _ _ _ _ _ _ _ _ _ _ _ _ _ _ _ _ _ _ _ _ _ _ _ => by kernel_rfl
theorem evsRun_2_01 : EvsRun 2 (fun i => [0, 1].getD i 2) := fun _ _ _ _ _ _ _ _ _ _ _ _ _ _ _ _ _ _ _ _ _ _ _ _ _ => by kernel_rfl
theorem evsRun_2_10 : EvsRun 2 (fun i => [1, 0].getD i 2) := fun _ _ _ _ _ _ _ _ _ _ _ _ _ _ _ _ _ _ _ _ _ _ _ _ _ => by kernel_rfl
theorem evsRun_2_11 : EvsRun 2 (fun i => [1, 1].getD i 2) := fun _ _ _ _ _ _ _ _ _ _ _ _ _ _ _ _ _ _ _ _ _ _ _ _ _ => by kernel_rfl
theorem evsRun_3_222 : EvsRun 3 (fun i => [2, 2, 2].getD i 2) := fun _ _ _ _ _ _ _ _ _ _ _ _ _ _ _ _ _ _ _ _ _ _ _ _ _ => by kernel_rfl
theorem evsRun_3_022 : EvsRun 3 (fun i => [0, 2, 2].getD i 2) := fun _ _ _ _ _ _ _ _ _ _ _ _ _ _ _ _ _ _ _ _ _ _ _ _ _ => by kernel_rfl
theorem evsRun_3_122 : EvsRun 3 (fun i => [1, 2, 2].getD i 2) := fun _ _ _ _ _ _ _ _ _ _ _ _ _ _ _ _ _ _ _ _ _ _ _ _ _ => by kernel_rfl
theorem evsRun_3_002 : EvsRun 3 (fun i => [0, 0, 2].getD i 2) := fun _ _ _ _ _ _ _ _ _ _ _ _ _ _ _ _ _ _ _ _ _ _ _ _ _ => by kernel_rfl
theorem evsRun_3_012 : EvsRun 3 (fun i => [0, 1, 2].getD i 2) := fun _ _ _ _ _ _ _ _ _ _ _ _ _ _ _ _ _ _ _ _ _ _ _ _ _ => by kernel_rfl
theorem evsRun_3_102 : EvsRun 3 (fun i => [1, 0, 2].getD i 2) := fun _ _ _ _ _ _ _ _ _ _ _ _ _ _ _ _ _ _ _ _ _ _ _ _ _ => by kernel_rfl
theorem evsRun_3_112 : EvsRun 3 (fun i => [1, 1, 2].getD i 2) := fun _ _ _ _ _ _ _ _ _ _ _ _ _ _ _ _ _ _ _ _ _ _ _ _ _ => by kernel_rfl
theorem evsRun_3_000 : EvsRun 3 (fun i => [0, 0, 0].getD i 2) := fun _ _ _ _ _ _ _ _ _ _ _ _ _ _ _ _ _ _ _ _ _ _ _ _ _ => by kernel_rfl
theorem evsRun_3_001 : EvsRun 3 (fun i => [0, 0, 1].getD i 2) := fun _ _ _ _ _ _ _ _ _ _ _ _ _ _ _ _ _ _ _ _ _ _ _ _ _ => by kernel_rfl
theorem evsRun_3_010 : EvsRun 3 (fun i => [0, 1, 0].getD i 2) := fun _ _ _ _ _ _ _ _ _ _ _ _ _ _ _ _ _ _ _ _ _ _ _ _ _ => by kernel_rfl
theorem evsRun_3_011 : EvsRun 3 (fun i => [0, 1, 1].getD i 2) := fun _ _ _ _ _ _ _ _ _ _ _ _ _ _ _ _ _ _ _ _ _ _ _ _ _ => by kernel_rfl
theorem evsRun_3_100 : EvsRun 3 (fun i => [1, 0, 0].getD i 2) := fun _ _ _ _ _ _ _ _ _ _ _ _ _ _ _ _ _ _ _ _ _ _ _ _ _ => by kernel_rfl
theorem evsRun_3_101 : EvsRun 3 (fun i => [1, 0, 1].getD i 2) := fun _ _ _ _ _ _ _ _ _ _ _ _ _ _ _ _ _ _ _ _ _ _ _ _ _ => by kernel_rfl
theorem evsRun_3_110 : EvsRun 3 (fun i => [1, 1, 0].getD i 2) := fun _ _ _ _ _ _ _ _ _ _ _ _ _ _ _ _ _ _ _ _ _ _ _ _ _ => by kernel_rfl
theorem evsRun_3_111 : EvsRun 3 (fun i => [1, 1, 1].getD i 2) := fun _ _ _ _ _ _ _ _ _ _ _ _ _ _ _ _ _ _ _ _ _ _ _ _ _ => by kernel_rfl

end Go.Proofs.Ytpmdpbljgidllaa
