/- Fields of from-tos in memory: what all texts about them have in common. -/
import Derived.Test.YtdlinjijccnaeaaTpC
import Derived.Test.YtdlinjijccnaeaaIvW
namespace Go.Proofs.Ytdlinjijccnaeaa
open Go
set_option linter.unusedVariables false
set_option linter.unusedSimpArgs false
set_option maxRecDepth 100000

noncomputable def lgRI (H : List (Option ABlk)) (x : Value) (A : Int) (pa : Addr) (fa : Nat × Nat) : List Obl :=
  [.ex (indexAddrV Try.prog 26 x (.int .i64 A) = some (.pointer (some pa))), .ex (readVar Try.prog H.toArray 29 pa = some (vI fa))]
theorem ty_iv : isStructB Try.prog 29 = true := by kernel_rfl
theorem sz_iv : sizeB Try.prog 29 2 = true := by kernel_rfl
theorem ty_ivs : isSliceB Try.prog 26 29 = true := by kernel_rfl
theorem rdIv {H : AHeap} {b k : Nat} {B : ABlk} {l : List (Nat × Nat)} {a : Nat × Nat} (hb : H[b]? = some (some B)) (hc : B.cells = (l.flatMap pC).toArray) (hk : l[k]? = some a) {o : Nat} (ho : o = k * 2) : readVar Try.prog H 29 ⟨b, o, none⟩ = some (vI a) := by
  obtain ⟨fs, hu⟩ := isStructB_ex ty_iv
  obtain ⟨i, hi, hz⟩ := sizeB_ex sz_iv
  exact rd_agg (f := pC) (fun _ => rfl) hu hi hz hb hc hk ho
theorem ixIv {b n c : Nat} {A : Int} (h0 : 0 ≤ A) (h1 : A < n) {o : Nat} (ho : o = A.toNat * 2) : indexAddrV Try.prog 26 (.slice (some ⟨b, 0, none⟩) n c) (.int .i64 A) = some (.pointer (some ⟨b, o, none⟩)) := by
  obtain ⟨i, hi, hz⟩ := sizeB_ex sz_iv
  exact ix_slice (isSliceB_ex ty_ivs) hi hz h0 h1 ho
abbrev EvI := @EvG (Nat × Nat) pC
/-- What two from-tos come to. -/
def opP (K : Int) (X Y : Nat × Nat) : Nat × Nat := if K = 2 then addP X Y else if K = 3 then subP X Y else if K = 4 then mulP X Y else divP X Y
def regP (ops : List OpD) (xs : List (Nat × Nat)) : Nat → Nat × Nat := regT (0, 0) (fun c => (c, c)) opP (fun i => xs.getD i (0, 0)) ops
section
variable {b0 b1 b2 : Option ABlk} {N : Nat} {ops : List OpD} {out : List Int} {xs : List (Nat × Nat)}
theorem EvI.var (h : EvI b0 b1 b2 N ops out xs) {A : Int} (h0 : 0 ≤ A) (h1 : A < N) {H : List (Option ABlk)} (hH : H.toArray[2]? = some b2) : okAll Try.prog (lgRI H (.slice (some ⟨2, 0, none⟩) N N) A ⟨2, A.toNat * 2, none⟩ (xs.getD A.toNat (0, 0))) := by
  obtain ⟨B, hB, hc⟩ := h.m2
  refine ⟨ixIv h0 h1 rfl, rdIv (B := B) (l := xs) (k := A.toNat) ?_ hc ?_ rfl, trivial⟩
  · rw [hH, hB]
  · have : A.toNat < xs.length := by rw [h.lx]; omega
    rw [List.getElem?_eq_getElem this, List.getD_eq_getElem?_getD, List.getElem?_eq_getElem this]; rfl
end
theorem pC_clos (l : List (Nat × Nat)) (u : Value) (h : u ∈ l.flatMap pC) : closN 4 u = true := by
  simp only [List.mem_flatMap, pC, List.mem_cons, List.not_mem_nil, or_false] at h
  obtain ⟨a, _, rfl | rfl⟩ := h <;> rfl
/-- A new block of numbers. -/
def nwP (l : List (Nat × Nat)) : Option ABlk := some ⟨(l.flatMap pC).toArray, 29, 2, true⟩
def grRi (N : Nat) (f : Nat → (Nat × Nat)) : List (Option ABlk) := (List.range N).flatMap fun i => [some ⟨(pC (f i)).toArray, 29, 2, true⟩, if i + 1 = N then some ⟨((List.range N).flatMap fun i => pC (f i)).toArray, 29, 2, true⟩ else none]

end Go.Proofs.Ytdlinjijccnaeaa
