/- The law NordStarts returns true, whatever the numbers. -/
import Derived.Test.YtclphdmaedpipaaNdSt1
import Derived.Test.YtclphdmaedpipaaNdSt2
import Derived.Test.YtclphdmaedpipaaNdSt3
namespace Go.Proofs.Ytclphdmaedpipaa
open Go
set_option linter.unusedVariables false
set_option linter.unusedSimpArgs false
set_option maxRecDepth 100000

theorem st_run {N w : Nat} (h1 : 1 ≤ N) (h2 : N ≤ 3) (h : w ≤ 32) : StRun N w := by
  have : N = 1 ∨ N = 2 ∨ N = 3 := by omega
  rcases this with rfl | rfl | rfl
  · exact st_run1 h
  · exact st_run2 h
  · exact st_run3 h
theorem nordKnownS : Runs Try.prog 13 #[] #[] (.bool true) #[] := by
  have h : (askN noF noC 12 13 #[] #[] []).map (fun r => (r.1, r.2.2)) = some (.bool true, []) := by kernel_rfl
  obtain ⟨H', h⟩ := tells_of h trivial
  exact h.quiet rfl rfl #[]
theorem hpSb_facts {b1 b2 : Option ABlk} {N M w : Nat} {co cu : Array Value} {fx fy : Nat → Nat} (h1 : 1 ≤ N) (h2 : N ≤ 3) : (hpSb b1 b2 N M w co cu fx fy).length = 14 + 2 * N ∧ (hpSb b1 b2 N M w co cu fx fy)[10 + 2 * N]? = some (nwF ((List.range N).map fx)) := by
  have : N = 1 ∨ N = 2 ∨ N = 3 := by omega
  rcases this with rfl | rfl | rfl
  · exact ⟨rfl, rfl⟩
  · exact ⟨rfl, rfl⟩
  · exact ⟨rfl, rfl⟩

set_option maxHeartbeats 4000000 in
theorem nordStarts_pad {o o2 : Option ABlk} {va vb : Value} {zs ms : List Int} (ha : Handed #[o, o2] zs va) (hb : Handed #[o, o2] ms vb) (n z : Int) :
    Tells 11 #[.int .i64 n, va, vb, .int .i64 z] #[o, o2] (.bool true) := by
  obtain ⟨n1, n2⟩ := mkN_le n
  generalize hN : mkN n = N at n1 n2
  have w0 := Int.emod_nonneg z (b := 33) (by decide)
  have w1 := Int.emod_lt_of_pos z (b := 33) (by decide)
  obtain ⟨w, hw⟩ : ∃ w : Nat, z % 33 = Int.ofNat w := ⟨(z % 33).toNat, by simp; omega⟩
  have hw8 : w ≤ 32 := by rw [hw] at w1; simp at w1; omega
  have hwi : (qtO 15 #[.int .i64 z, .int .i64 (Int.ofNat 33)] (.int .i64 (Int.ofNat w))).ok Try.prog := by
    rw [← hw]
    exact within8 z 32 (by decide)
  have hh := fun (c : List (Option ABlk)) {zs : List Int} {v : Value} (h : Handed [o, o2].toArray zs v) => h.list c
  have r := st_run n1 n2 hw8 o o2 n z (mkM n zs) va vb (opsB (mkOps n zs false) true).cells (intB (mkOut n (mkM n zs)) true).cells (fun i => vw8 (Fz (vlI ms i))) (evF n zs false ((List.range N).map fun i => vw8 (Fz (vlI ms i))))
  obtain ⟨f1, f2⟩ := hpSb_facts (b1 := o) (b2 := o2) (M := mkM n zs) (w := w) (co := (opsB (mkOps n zs false) true).cells) (cu := (intB (mkOut n (mkM n zs)) true).cells) (fx := fun i => vw8 (Fz (vlI ms i))) (fy := evF n zs false ((List.range N).map fun i => vw8 (Fz (vlI ms i)))) n1 n2
  refine tells_of r (okApp (okApp (okApp (okApp ⟨nordKnownS, make_rn n false (hh [] ha) hN rfl rfl, val_rn n1 (by omega) (hh [_, _, _] hb) rfl, hwi, ?_, trivial⟩ (map_ok _ _ fun i hi => cmp_ok (decide_eq_true (List.mem_range.1 hi)))) ?_) (each_ok _ _ fun i hi => ⟨cmp_ok (decide_eq_true (List.mem_range.1 hi)), same_refl _, trivial⟩)) ⟨cmp_ok (decide_eq_false (by omega)), trivial⟩)
  · exact (evF_rn n zs false (bo := 2) (bu := 3) (bx := 5) hN rfl (by simp) (t := 0) (z := 0) rfl rfl rfl rfl rfl).1
  · refine ⟨cmp_ok (decide_eq_false (by omega)), (evF_rn n zs false (bo := 2) (bu := 3) (bx := 5) hN rfl (by simp) (t := 0) (z := 0) rfl rfl rfl rfl f1.symm).2, ?_, trivial⟩
    refine rows_rn n1 (by omega) (fun i _ => same_refl _) (A := ⟨(((List.range N).map fun i => vw8 (Fz (vlI ms i))).flatMap fC).toArray, 28, 1, true⟩) ?_ rfl (B := ⟨(((List.range N).map fun i => vw8 (Fz (vlI ms i))).flatMap fC).toArray, 28, 1, true⟩) rfl rfl
    rw [List.getElem?_append_left (by omega)]
    exact f2

end Go.Proofs.Ytclphdmaedpipaa
