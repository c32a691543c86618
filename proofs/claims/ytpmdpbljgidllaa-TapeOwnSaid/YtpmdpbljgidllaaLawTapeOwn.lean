/- The law TapeOwn returns true, whatever the numbers. -/
import Derived.Test.YtpmdpbljgidllaaTpSm
import Derived.Test.YtpmdpbljgidllaaTpKf
namespace Go.Proofs.Ytpmdpbljgidllaa
open Go
set_option linter.unusedVariables false
set_option linter.unusedSimpArgs false
set_option maxRecDepth 100000

noncomputable def askTo (g : FuncId) : Nat := if [12, 14, 19, 25, 24, 31].contains g then 1 else 0
def hpTo (b1 b2 : Option ABlk) (N M : Nat) (co cu : Array Value) : List (Option ABlk) := [b1, b2, opB co, iB cu, opB co, iB cu, tcB 2 N M, tcB 4 N M]
def byF (N : Nat) (z : Int) : Option ABlk := nwF ((List.range N).map fun _ => Fz z)
def ToRun (N : Nat) : Prop := ∀ (b1 b2 : Option ABlk) (n z : Int) (M : Nat) (va vb : Value) (co cu : Array Value) (fx fy : Nat → Nat),
  (askN askTo lssC 12 8 #[.int .i64 n, va, vb, .int .i64 z] #[b1, b2]
    ([yes true, tpA N M co cu, tpA N M co cu, rwA N fx, rwA N fx, rwA N fy] ++ (List.range N).map (fun _ => yes true) ++ [yes false, rwA N fy, yes true, yes true, yes true])).map (fun r => (r.1, r.2.2)) =
  some (.bool true, [qtO 12 #[] (.bool true), rnO 14 #[.int .i64 n, va, .bool true] [b1, b2] (tpV 2 3 N M) [opB co, iB cu],
      rnO 14 #[.int .i64 n, va, .bool true] [b1, b2, opB co, iB cu] (tpV 4 5 N M) [opB co, iB cu],
      rnO 19 #[.int .i64 (Int.ofNat N), vb] (hpTo b1 b2 N M co cu) (slV 8 N) [nwF ((List.range N).map fx)],
      rnO 19 #[.int .i64 (Int.ofNat N), vb] (hpTo b1 b2 N M co cu ++ [nwF ((List.range N).map fx)]) (slV 9 N) [nwF ((List.range N).map fx)],
      rnO 25 #[tpV 2 3 N M, slV 8 N] (hpTo b1 b2 N M co cu ++ [nwF ((List.range N).map fx), nwF ((List.range N).map fx)]) (slV 10 N) [nwF ((List.range N).map fy)]] ++
    (List.range N).map (fun i => cpO .lss (Int.ofNat i) (Int.ofNat N) true) ++
    [cpO .lss (Int.ofNat N) (Int.ofNat N) false,
      rnO 25 #[tpV 2 3 N M, slV 8 N] (hpTo b1 b2 N M co cu ++ [nwF ((List.range N).map fx), nwF ((List.range N).map fx), byF N z, none, nwF ((List.range N).map fy)]) (slV 13 N) [nwF ((List.range N).map fy)],
      rnO 24 #[slV 13 N, slV 12 N] (hpTo b1 b2 N M co cu ++ [nwF ((List.range N).map fx), nwF ((List.range N).map fx), byF N z, none, nwF ((List.range N).map fy), nwF ((List.range N).map fy)]) (.bool true) [],
      rnO 24 #[slV 8 N, slV 9 N] (hpTo b1 b2 N M co cu ++ [nwF ((List.range N).map fx), nwF ((List.range N).map fx), byF N z, none, nwF ((List.range N).map fy), nwF ((List.range N).map fy)]) (.bool true) [],
      rnO 31 #[tpV 2 3 N M, tpV 4 5 N M] (hpTo b1 b2 N M co cu ++ [nwF ((List.range N).map fx), nwF ((List.range N).map fx), byF N z, none, nwF ((List.range N).map fy), nwF ((List.range N).map fy)]) (.bool true) []])
theorem toRun_1 : ToRun 1 := fun _ _ _ _ _ _ _ _ _ _ _ => by kernel_rfl
theorem toRun_2 : ToRun 2 := fun _ _ _ _ _ _ _ _ _ _ _ => by kernel_rfl
theorem toRun_3 : ToRun 3 := fun _ _ _ _ _ _ _ _ _ _ _ => by kernel_rfl
theorem to_run {N : Nat} (h1 : 1 ≤ N) (h2 : N ≤ 3) : ToRun N := by
  have : N = 1 ∨ N = 2 ∨ N = 3 := by omega
  rcases this with rfl | rfl | rfl
  · exact toRun_1
  · exact toRun_2
  · exact toRun_3

set_option maxHeartbeats 4000000 in
theorem tapeOwn_pad {o o2 : Option ABlk} {va vb : Value} {zs ms : List Int} (ha : Handed #[o, o2] zs va) (hb : Handed #[o, o2] ms vb) (n z : Int) :
    Tells 8 #[.int .i64 n, va, vb, .int .i64 z] #[o, o2] (.bool true) := by
  obtain ⟨n1, n2⟩ := mkN_le n
  obtain ⟨m1, m2⟩ := mkM_le n zs
  generalize hN : mkN n = N at n1 n2
  have hh := fun (c : List (Option ABlk)) {zs : List Int} {v : Value} (h : Handed [o, o2].toArray zs v) => h.list c
  have r := to_run n1 n2 o o2 n z (mkM n zs) va vb (opsB (mkOps n zs true) true).cells (intB (mkOut n (mkM n zs)) true).cells (fun i => vw8 (Fz (vlI ms i))) (evF n zs true ((List.range N).map fun i => vw8 (Fz (vlI ms i))))
  refine tells_of r (okApp (okApp ⟨tapeKnownS, make_rn n true (hh [] ha) hN rfl rfl, make_rn n true (hh [_, _] ha) hN rfl rfl, val_rn n1 (by omega) (hh [_, _, _, _, _, _] hb) rfl, val_rn n1 (by omega) (hh [_, _, _, _, _, _, _] hb) rfl, ?_, trivial⟩ (map_ok _ _ fun i hi => cmp_ok (decide_eq_true (List.mem_range.1 hi)))) ?_)
  · exact (evF_rn n zs true (bo := 2) (bu := 3) (bx := 8) hN rfl (by simp) (t := 0) (z := 0) rfl rfl rfl rfl rfl).1
  · refine ⟨cmp_ok (decide_eq_false (by omega)), (evF_rn n zs true (bo := 2) (bu := 3) (bx := 8) hN rfl (by simp) (t := 0) (z := 0) rfl rfl rfl rfl rfl).1, rows_rn n1 (by omega) (fun i _ => same_refl _) rfl rfl rfl rfl, rows_rn n1 (by omega) (fun i _ => same_refl _) rfl rfl rfl rfl, ?_, trivial⟩
    show Runs _ _ _ _ _ (_ ++ #[])
    rw [Array.append_empty]
    exact same_in (ops := mkOps n zs true) (out := mkOut n (mkM n zs)) n1 n2 (by omega) (by omega) (mkOps_len _ _ _) ((mkOut_len _ _).trans hN) (fz_at (i := 2) rfl) rfl (fz_at (i := 3) rfl) rfl (fz_at (i := 4) rfl) rfl (fz_at (i := 5) rfl) rfl

end Go.Proofs.Ytpmdpbljgidllaa
