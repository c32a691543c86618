/- Fields of Models in memory. -/
import Derived.Test.YtnbbmihlokajaaaApp
import Derived.Test.YtnbbmihlokajaaaTpK
import Derived.Test.YtnbbmihlokajaaaGenB
import Derived.Test.YtnbbmihlokajaaaHget
import Derived.Test.YtnbbmihlokajaaaModelAllA
namespace Go.Proofs.Ytnbbmihlokajaaa
open Go
set_option linter.unusedVariables false
set_option linter.unusedSimpArgs false
set_option maxRecDepth 100000

def mC (c : Nat → P2) : List Value := [.float .f64 (c 0).1, .float .f64 (c 0).2, .float .f64 (c 1).1, .float .f64 (c 1).2, .float .f64 (c 2).1, .float .f64 (c 2).2, .float .f64 (c 3).1, .float .f64 (c 3).2, .float .f64 (c 4).1, .float .f64 (c 4).2, .float .f64 (c 5).1, .float .f64 (c 5).2,
  .float .f64 (c 6).1, .float .f64 (c 6).2, .float .f64 (c 7).1, .float .f64 (c 7).2, .float .f64 (c 8).1, .float .f64 (c 8).2, .float .f64 (c 9).1, .float .f64 (c 9).2]
theorem mC_len (c : Nat → P2) : (mC c).length = 20 := rfl
theorem mC_one (c : Nat → P2) : (mC c).all oneC = true := rfl
theorem mW_eq (c : Nat → P2) : mW c = .agg (mC c).toArray := rfl
theorem mC_cl (c : Nat → P2) : ∀ u ∈ mC c, closN 4 u = true := by
  intro u hu
  simp only [mC, List.mem_cons, List.not_mem_nil, or_false] at hu
  rcases hu with rfl | rfl | rfl | rfl | rfl | rfl | rfl | rfl | rfl | rfl | rfl | rfl | rfl | rfl | rfl | rfl | rfl | rfl | rfl | rfl <;> rfl
theorem ty_md : isStructB Try.prog 29 = true := by kernel_rfl
theorem sz_md : sizeB Try.prog 29 20 = true := by kernel_rfl
theorem ty_mds : isSliceB Try.prog 62 29 = true := by kernel_rfl
theorem gr_md : growOk Try.prog 62 29 20 = true := by kernel_rfl
theorem rdM {H : AHeap} {b k : Nat} {B : ABlk} {l : List (Nat → P2)} {a : Nat → P2} (hb : H[b]? = some (some B)) (hc : B.cells = (l.flatMap mC).toArray) (hk : l[k]? = some a) {o : Nat} (ho : o = k * 20) : readVar Try.prog H 29 ⟨b, o, none⟩ = some (mW a) := by
  obtain ⟨fs, hu⟩ := isStructB_ex ty_md
  obtain ⟨i, hi, hz⟩ := sizeB_ex sz_md
  exact rd_agg (f := mC) (fun _ => rfl) hu hi hz hb hc hk ho
theorem ixM {b n c : Nat} {A : Int} (h0 : 0 ≤ A) (h1 : A < n) {o : Nat} (ho : o = A.toNat * 20) : indexAddrV Try.prog 62 (.slice (some ⟨b, 0, none⟩) n c) (.int .i64 A) = some (.pointer (some ⟨b, o, none⟩)) := by
  obtain ⟨i, hi, hz⟩ := sizeB_ex sz_md
  exact ix_slice (isSliceB_ex ty_mds) hi hz h0 h1 ho
abbrev EvM := @EvG (Nat → P2) mC
def zM : Nat → P2 := fun _ => (0, 0)
def opMd (K : Int) (c d : Nat → P2) : Nat → P2 := if K = 2 then addM c d else if K = 3 then subM c d else if K = 4 then mulM c d else quoM c d
def regM (ops : List OpD) (xs : List (Nat → P2)) : Nat → Nat → P2 := regT zM (fun c => ofM [c]) opMd (fun i => xs.getD i zM) ops
def mB (l : List (Nat → P2)) : Option ABlk := some ⟨(l.flatMap mC).toArray, 29, 20, true⟩
theorem mB_cl (l : List (Nat → P2)) : ∀ (i : Nat) (v : Value), (l.flatMap mC).toArray[i]? = some v → closN 4 v = true := by
  intro i v h
  have : v ∈ l.flatMap mC := List.mem_of_getElem? (by simpa using h)
  obtain ⟨a, _, g⟩ := List.mem_flatMap.1 this
  exact mC_cl a v g
/-- Ends that are none of NaN. -/
def NNm (c : Nat → P2) : Prop := AllN c

end Go.Proofs.Ytnbbmihlokajaaa
