/- Rows of from-tos that are the same. -/
import Derived.Test.YtpmdpbljgidllaaTpK
namespace Go.Proofs.Ytpmdpbljgidllaa
open Go
set_option linter.unusedVariables false
set_option linter.unusedSimpArgs false
set_option maxRecDepth 100000

noncomputable def askS2 (g : FuncId) : Nat := if g == 30 then 1 else 0
theorem ivSame_refl (X : Nat × Nat) : Runs Try.prog 56 #[vI X, vI X] #[] (.bool true) #[] := by
  have k : (askN askS2 noC 12 56 #[vI X, vI X] #[] [yes true, yes true]).map (fun r => (r.1, r.2.2)) = some (.bool true, [.run 30 #[.float .f64 X.1, .float .f64 X.1] #[] (.bool true) #[], .run 30 #[.float .f64 X.2, .float .f64 X.2] #[] (.bool true) #[]]) := by kernel_rfl
  obtain ⟨H', r⟩ := tells_of k ⟨same_refl _, same_refl _, trivial⟩
  exact r.quiet rfl rfl #[]

noncomputable def askRp (g : FuncId) : Nat := if g == 56 then 1 else 0
def rowP (N : Nat) (f : Nat → Nat × Nat) : ABlk := ⟨((List.range N).flatMap fun i => pC (f i)).toArray, 39, 2, false⟩
def RowsRunP (N : Nat) : Prop := ∀ f g : Nat → Nat × Nat, (askN askRp noC 12 37 #[.slice (some ⟨0, 0, none⟩) N N, .slice (some ⟨1, 0, none⟩) N N] #[some (rowP N f), some (rowP N g)] ((List.range N).map fun _ => yes true)).map (fun r => (r.1, r.2.2)) =
  some (.bool true, (List.range N).map fun i => .run 56 #[vI (f i), vI (g i)] #[] (.bool true) #[])
theorem rowsRunP_1 : RowsRunP 1 := fun _ _ => by kernel_rfl
theorem rowsRunP_2 : RowsRunP 2 := fun _ _ => by kernel_rfl
theorem rowsRunP_3 : RowsRunP 3 := fun _ _ => by kernel_rfl
theorem rowsRunP_4 : RowsRunP 4 := fun _ _ => by kernel_rfl
theorem rowsRunP (N : Nat) (h1 : 1 ≤ N) (h2 : N ≤ 4) : RowsRunP N := by
  have : N = 1 ∨ N = 2 ∨ N = 3 ∨ N = 4 := by omega
  rcases this with rfl | rfl | rfl | rfl
  · exact rowsRunP_1
  · exact rowsRunP_2
  · exact rowsRunP_3
  · exact rowsRunP_4
section
variable {l : List (Option ABlk)}
theorem rowsP_rn {N a b : Nat} (h1 : 1 ≤ N) (h2 : N ≤ 4) {f g : Nat → Nat × Nat} (hs : ∀ i, i < N → Runs Try.prog 56 #[vI (f i), vI (g i)] #[] (.bool true) #[]) {A B : ABlk}
    (ha : l[a]? = some (some A)) (ea : A.cells = (((List.range N).map f).flatMap pC).toArray) (hb : l[b]? = some (some B)) (eb : B.cells = (((List.range N).map g).flatMap pC).toArray) :
    (rnO 37 #[slV a N, slV b N] l (.bool true) []).ok Try.prog := by
  show Runs _ _ _ _ _ (_ ++ #[])
  rw [Array.append_empty]
  obtain ⟨H', r⟩ := tells_of (rowsRunP N h1 h2 f g) (map_ok _ _ fun i hi => hs i (List.mem_range.1 hi))
  have r2 : Runs Try.prog 37 #[.slice (some ⟨0, 0, none⟩) N N, .slice (some ⟨1, 0, none⟩) N N] #[some (rowP N f), some (rowP N g)] (.bool true) (#[some (rowP N f), some (rowP N g)] ++ #[]) := by
    rw [Array.append_empty]
    have e : (#[some (rowP N f), some (rowP N g)] : AHeap) = froze #[some (rowP N f), some (rowP N g)] := rfl
    rw [e] at r
    exact r.reads rfl
  refine r2.moveR (fun i => if i = 0 then a else b) rfl ?_ ?_ rfl ?_
  · intro i hi
    have : i = 0 ∨ i = 1 := by simp at hi; omega
    rcases this with rfl | rfl <;> exact ⟨_, rfl⟩
  · intro i C hC
    have : i = 0 ∨ i = 1 := by have := (Array.getElem?_eq_some_iff.1 hC).1; simp at this; omega
    rcases this with rfl | rfl <;> (injection hC with hC; injection hC with hC; subst hC)
    · exact ⟨rfl, plain_flat (fun _ => pC_cl _) _ _ _ _, _, fz_at ha, by rw [ea, List.flatMap_map]; rfl⟩
    · exact ⟨rfl, plain_flat (fun _ => pC_cl _) _ _ _ _, _, fz_at hb, by rw [eb, List.flatMap_map]; rfl⟩
  · intro i g1 g2
    have : i = 0 ∨ i = 1 := by simp at g1; omega
    rcases this with rfl | rfl
    · exact .inl (.slice 0 0 _ _ (by simp))
    · exact .inl (.slice 1 0 _ _ (by simp))
end

/-- What the laws' Make of from-tos tells. -/
theorem make2_any (m k w : Int) : ∃ X : Nat × Nat, Runs Try.prog 36 #[.int .i64 m, .int .i64 k, .int .i64 w] #[] (vI X) #[] ∧ Rt X := by
  obtain ⟨a, b, h, ha, hb, hab⟩ := make_runs m k w
  exact ⟨(a, b), h, (ha.fi (by decide)).nn, (hb.fi (by decide)).nn, hab⟩

end Go.Proofs.Ytpmdpbljgidllaa
