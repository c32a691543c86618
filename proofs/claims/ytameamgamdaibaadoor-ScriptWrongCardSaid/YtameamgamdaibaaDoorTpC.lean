/- Fields in memory: what all texts about them have in common. -/
import Derived.Test.YtameamgamdaibaaDoorTpA
namespace Go.Proofs.YtameamgamdaibaaDoor
open Go
set_option linter.unusedVariables false
set_option linter.unusedSimpArgs false
set_option maxRecDepth 100000

def opKd (K : Int) : BinOp := if K = 2 then .add else if K = 3 then .sub else if K = 4 then .mul else .quo
def lssC : BinOp → Value → Value → Bool
  | .lss, .int _ _, _ => true
  | _, _, _ => false
def vAns (v : Value) : Ans := ⟨fun _ => v, []⟩
def pAnsT (a : Addr) : Ans := ⟨fun _ => .pointer (some a), []⟩
def tbE (N M : Nat) : Option ABlk := some ⟨#[.int .i64 N, .slice (some ⟨0, 0, none⟩) M M, .slice (some ⟨1, 0, none⟩) N N], 28, 0, true⟩
def opV (K A B : Int) (C : Nat) : Value := .agg #[.int .i64 K, .int .i64 A, .int .i64 B, .float .f64 C]
def obE (K A B : Int) (C : Nat) : Option ABlk := some ⟨#[.int .i64 K, .int .i64 A, .int .i64 B, .float .f64 C], 41, 0, true⟩
/-- What is asked at a round's beginning. -/
noncomputable def lgE (H : List (Option ABlk)) (M k : Nat) (po : Addr) (op : Value) : List Obl :=
  [.cmp .lss 3 (.int .i64 k) (.int .i64 M) true, .ex (indexAddrV Tryd.prog 26 (.slice (some ⟨0, 0, none⟩) M M) (.int .i64 k) = some (.pointer (some po))), .ex (readVar Tryd.prog H.toArray 41 po = some op)]
noncomputable def lgR (H : List (Option ABlk)) (x : Value) (A : Int) (pa : Addr) (fa : Nat) : List Obl :=
  [.ex (indexAddrV Tryd.prog 30 x (.int .i64 A) = some (.pointer (some pa))), .ex (readVar Tryd.prog H.toArray 31 pa = some (.float .f64 fa))]
def tpV (b0 b1 N M : Nat) : Value := .agg #[.int .i64 N, .slice (some ⟨b0, 0, none⟩) M M, .slice (some ⟨b1, 0, none⟩) N N]
def isStructB (P : Program) (t : TypeId) : Bool := match P.underlying t with
  | some (.struct _) => true
  | _ => false
def isPlainB (P : Program) (t : TypeId) : Bool := match P.underlying t with
  | some (.struct _) | some (.array _ _) | none => false
  | some _ => true
def isSliceB (P : Program) (t e : TypeId) : Bool := match P.underlying t with
  | some (.slice e') => e' == e
  | _ => false
def sizeB (P : Program) (t : TypeId) (n : Nat) : Bool := match P.info? t with
  | some i => i.size == n
  | none => false
theorem isStructB_ex {P : Program} {t : TypeId} (h : isStructB P t = true) : ∃ fs, P.underlying t = some (.struct fs) := by
  unfold isStructB at h
  split at h
  · rename_i fs hh; exact ⟨fs, hh⟩
  · cases h
theorem isPlainB_ex {P : Program} {t : TypeId} (h : isPlainB P t = true) : ∃ u, P.underlying t = some u ∧ (∀ fs, u ≠ .struct fs) ∧ ∀ n e, u ≠ .array n e := by
  unfold isPlainB at h
  cases hu : P.underlying t with
  | none => rw [hu] at h; cases h
  | some u =>
    rw [hu] at h
    refine ⟨u, rfl, ?_, ?_⟩
    · rintro fs rfl; cases h
    · rintro n e rfl; cases h
theorem isSliceB_ex {P : Program} {t e : TypeId} (h : isSliceB P t e = true) : P.underlying t = some (.slice e) := by
  unfold isSliceB at h
  split at h
  · rename_i e' hu; rw [hu, eq_of_beq h]
  · cases h
theorem sizeB_ex {P : Program} {t : TypeId} {n : Nat} (h : sizeB P t n = true) : ∃ i, P.info? t = some i ∧ i.size = n := by
  unfold sizeB at h
  split at h
  · rename_i i hi; exact ⟨i, hi, eq_of_beq h⟩
  · cases h
theorem ty_op : isStructB Tryd.prog 41 = true := by kernel_rfl
theorem sz_op : sizeB Tryd.prog 41 4 = true := by kernel_rfl
theorem ty_f : isPlainB Tryd.prog 31 = true := by kernel_rfl
theorem sz_f : sizeB Tryd.prog 31 1 = true := by kernel_rfl
theorem ty_i : isPlainB Tryd.prog 3 = true := by kernel_rfl
theorem sz_i : sizeB Tryd.prog 3 1 = true := by kernel_rfl
theorem ty_ops : isSliceB Tryd.prog 26 41 = true := by kernel_rfl
theorem ty_fs : isSliceB Tryd.prog 30 31 = true := by kernel_rfl
theorem ty_is : isSliceB Tryd.prog 24 3 = true := by kernel_rfl
theorem rdOp {H : AHeap} {b k : Nat} {B : ABlk} {l : List OpD} {a : OpD} (hb : H[b]? = some (some B)) (hc : B.cells = (l.flatMap opC).toArray) (hk : l[k]? = some a) {o : Nat} (ho : o = k * 4) : readVar Tryd.prog H 41 ⟨b, o, none⟩ = some (opV a.K a.A a.B a.C) := by
  obtain ⟨fs, hu⟩ := isStructB_ex ty_op
  obtain ⟨i, hi, hz⟩ := sizeB_ex sz_op
  exact rd_agg (f := opC) (fun _ => rfl) hu hi hz hb hc hk ho
theorem rdF {H : AHeap} {b k : Nat} {B : ABlk} {l : List Nat} {a : Nat} (hb : H[b]? = some (some B)) (hc : B.cells = (l.flatMap fC).toArray) (hk : l[k]? = some a) {o : Nat} (ho : o = k) : readVar Tryd.prog H 31 ⟨b, o, none⟩ = some (.float .f64 a) :=
  rd_one (g := fun x => .float .f64 x) (isPlainB_ex ty_f) hb hc hk ho
theorem rdI {H : AHeap} {b k : Nat} {B : ABlk} {l : List Int} {a : Int} (hb : H[b]? = some (some B)) (hc : B.cells = (l.flatMap iC).toArray) (hk : l[k]? = some a) {o : Nat} (ho : o = k) : readVar Tryd.prog H 3 ⟨b, o, none⟩ = some (.int .i64 a) :=
  rd_one (g := fun x => .int .i64 x) (isPlainB_ex ty_i) hb hc hk ho
theorem ixOp {b n c : Nat} {A : Int} (h0 : 0 ≤ A) (h1 : A < n) {o : Nat} (ho : o = A.toNat * 4) : indexAddrV Tryd.prog 26 (.slice (some ⟨b, 0, none⟩) n c) (.int .i64 A) = some (.pointer (some ⟨b, o, none⟩)) := by
  obtain ⟨i, hi, hz⟩ := sizeB_ex sz_op
  exact ix_slice (isSliceB_ex ty_ops) hi hz h0 h1 ho
theorem ixF {b n c : Nat} {A : Int} (h0 : 0 ≤ A) (h1 : A < n) {o : Nat} (ho : o = A.toNat) : indexAddrV Tryd.prog 30 (.slice (some ⟨b, 0, none⟩) n c) (.int .i64 A) = some (.pointer (some ⟨b, o, none⟩)) := by
  obtain ⟨i, hi, hz⟩ := sizeB_ex sz_f
  exact ix_slice (isSliceB_ex ty_fs) hi hz h0 h1 (by omega)
/-- How a field and numbers lie. -/
structure EvG {α : Type} (f : α → List Value) (b0 b1 b2 : Option ABlk) (N : Nat) (ops : List OpD) (out : List Int) (xs : List α) : Prop where
  m0 : ∃ B, b0 = some B ∧ B.cells = (ops.flatMap opC).toArray
  m1 : ∃ B, b1 = some B ∧ B.cells = (out.flatMap iC).toArray
  m2 : ∃ B, b2 = some B ∧ B.cells = (xs.flatMap f).toArray
  ok : ∀ k o, ops[k]? = some o → opOkD k N o
  lx : xs.length = N
  lo : out.length = N
  oo : ∀ u ∈ out, 0 ≤ u ∧ u < ops.length
abbrev EvH := @EvG Nat fC
def opF (K : Int) (a b : Nat) : Nat := fop (opKd K) .f64 a b
def regF (ops : List OpD) (xs : List Nat) : Nat → Nat := regT 0 (fun c => c) opF (fun i => xs.getD i 0) ops
theorem flat_range {α : Type} {f : α → List Value} (F : Nat → α) (n : Nat) : ((List.range n).flatMap fun i => f (F i)) = (((List.range n).map F).flatMap f) := by
  rw [List.flatMap_map]
theorem cmp_ok {k M : Nat} {c : Bool} (h : decide (k < M) = c) : (Obl.cmp .lss 3 (.int .i64 k) (.int .i64 M) c).ok Tryd.prog := by
  refine (cmp_lss _ _).trans ?_
  rw [← h]
  congr 1
  simp
theorem okApp {P : Program} : ∀ {a b : List Obl}, okAll P a → okAll P b → okAll P (a ++ b)
  | [], _, _, hb => hb
  | _ :: _, _, ha, hb => ⟨ha.1, okApp ha.2 hb⟩
section
variable {b0 b1 b2 : Option ABlk} {N : Nat} {ops : List OpD} {out : List Int} {xs : List Nat}
theorem EvG.head {α : Type} {f : α → List Value} {ys : List α} (h : EvG f b0 b1 b2 N ops out ys) {k : Nat} {o : OpD} (ho : ops[k]? = some o) {H : List (Option ABlk)} (hH : H.toArray[0]? = some b0) : okAll Tryd.prog (lgE H ops.length k ⟨0, k * 4, none⟩ (opV o.K o.A o.B o.C)) := by
  have hlt : k < ops.length := (List.getElem?_eq_some_iff.1 ho).1
  obtain ⟨B, hB, hc⟩ := h.m0
  refine ⟨cmp_ok (decide_eq_true hlt), ixOp (by omega) (by omega) (by omega), rdOp (B := B) (l := ops) (k := k) ?_ hc ho rfl, trivial⟩
  rw [hH, hB]
theorem EvH.var (h : EvH b0 b1 b2 N ops out xs) {A : Int} (h0 : 0 ≤ A) (h1 : A < N) {H : List (Option ABlk)} (hH : H.toArray[2]? = some b2) : okAll Tryd.prog (lgR H (.slice (some ⟨2, 0, none⟩) N N) A ⟨2, A.toNat, none⟩ (xs.getD A.toNat 0)) := by
  obtain ⟨B, hB, hc⟩ := h.m2
  refine ⟨ixF h0 h1 rfl, rdF (B := B) (l := xs) (k := A.toNat) ?_ hc ?_ rfl, trivial⟩
  · rw [hH, hB]
  · have : A.toNat < xs.length := by rw [h.lx]; omega
    rw [List.getElem?_eq_getElem this, List.getD_eq_getElem?_getD, List.getElem?_eq_getElem this]; rfl
end
theorem range_getD {α : Type} (d : α) : ∀ (l : List α), (List.range l.length).map (fun i => l.getD i d) = l := by
  intro l
  apply List.ext_getElem?
  intro i
  rw [List.getElem?_map]
  by_cases c : i < l.length
  · rw [List.getElem?_range c, Option.map_some, List.getD_eq_getElem?_getD, List.getElem?_eq_getElem c]; rfl
  · rw [List.getElem?_eq_none (by simpa using c), List.getElem?_eq_none (by omega)]; rfl
/-- A new block of numbers. -/
def nwF (l : List Nat) : Option ABlk := some ⟨(l.flatMap fC).toArray, 31, 1, true⟩
def evOut {α : Type} (F : Nat → α) (out : List Int) : List α := out.map fun u => F u.toNat
def mAnsT (v : Value) (H : List (Option ABlk)) : Ans := ⟨fun _ => v, H⟩
def grRf (N : Nat) (f : Nat → Nat) : List (Option ABlk) := (List.range N).flatMap fun i => [some ⟨(fC (f i)).toArray, 31, 1, true⟩, if i + 1 = N then some ⟨((List.range N).flatMap fun i => fC (f i)).toArray, 31, 1, true⟩ else none]

end Go.Proofs.YtameamgamdaibaaDoor
