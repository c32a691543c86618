/- JiV / JiW / JiR / JiX / JiY / JiZ: several texts in one. -/
import Derived.Test.YtdlinjijccnaeaaJcW
import Derived.Test.YtdlinjijccnaeaaTpD
import Derived.Test.YtdlinjijccnaeaaApp
import Derived.Test.YtdlinjijccnaeaaJcI
/-!  jac: what a register comes to: value and slope of from-tos. -/
namespace Go.Proofs.Ytdlinjijccnaeaa
open Go
set_option linter.unusedVariables false
set_option linter.unusedSimpArgs false
set_option maxRecDepth 100000

noncomputable def askJvI (g : FuncId) : Nat := if g == 75 then 5 else if [25, 26, 30, 31, 32, 36, 37, 38].contains (g - 1000000) && Nat.ble 1000000 g then 7 else 0
noncomputable def askJsI (g : FuncId) : Nat := if g == 75 then 5 else if [41, 42, 46, 47, 57, 58, 62, 63, 72, 73, 77, 78, 89, 90, 101, 102, 112, 113, 120, 121].contains (g - 1000000) && Nat.ble 1000000 g then 7 else 0
def kdI : Value := .agg #[.func (.func 71) #[] #[], .func (.func 72) #[] #[], .func (.func 73) #[] #[], .func (.func 74) #[] #[], .func (.func 75) #[] #[]]
def kdBI : Option ABlk := some ⟨kdI.cells, 70, 0, true⟩
def ivB (X : P2) : Option ABlk := some ⟨#[.float .f64 X.1, .float .f64 X.2], 29, 0, true⟩
/-- A register's cells. -/
def rgCI (x : P2 × Value) : List Value := [.float .f64 x.1.1, .float .f64 x.1.2, x.2]
def rgI (u : P2) (a0 N : Nat) : Option ABlk := some ⟨#[.float .f64 u.1, .float .f64 u.2, .slice (some ⟨a0, 0, none⟩) N N], 88, 0, true⟩
noncomputable def lgFI (H : List (Option ABlk)) (x : Value) (A : Int) (o : Nat) (v : P2) : List Obl :=
  [.ex (indexAddrV Try.prog 85 x (.int .i64 A) = some (.pointer (some ⟨0, o, none⟩))), .ex (fieldAddrV Try.prog 88 (.pointer (some ⟨0, o, none⟩)) 0 = some (.pointer (some ⟨0, o, none⟩))), .ex (readVar Try.prog H.toArray 29 ⟨0, o, none⟩ = some (vI v))]
noncomputable def runVI (args : Array Value) (H : AHeap) (s : List Ans) := (askTB askJvI noC 76 args H s []).map fun r => (r.1, r.2.2.1, slL [] r.2.2.2)
noncomputable def runSI (args : Array Value) (H : AHeap) (s : List Ans) := (askTB askJsI cmK 77 args H s []).map fun r => (r.1, r.2.2.1, slL [] r.2.2.2)
theorem valCI (A B : Int) (C : Nat) : runVI #[kdI, opV 0 A B C, anyW, anyW] #[] [] = some (vI (C, C), [], []) := by kernel_rfl
theorem valVI (A B : Int) (C : Nat) (xB : Option ABlk) (n c : Nat) (p : Addr) (v : P2) : runVI #[kdI, opV 1 A B C, .slice (some ⟨0, 0, none⟩) n c, anyW] #[xB] [pAnsT p, vAns (vI v)] =
  some (vI v, lgV [xB, kdBI, obE 1 A B C, ivB (0, 0)] 26 29 (.slice (some ⟨0, 0, none⟩) n c) A p (vI v), []) := by kernel_rfl
def ValOI (K : Int) : Prop := ∀ (A B : Int) (C : Nat) (rB : Option ABlk) (n c oA oB : Nat) (u v : P2), runVI #[kdI, opV K A B C, anyW, .slice (some ⟨0, 0, none⟩) n c] #[rB] [pAnsT ⟨0, oA, none⟩, pAnsT ⟨0, oA, none⟩, vAns (vI u), pAnsT ⟨0, oB, none⟩, pAnsT ⟨0, oB, none⟩, vAns (vI v)] =
  some (vI (opP K u v), lgFI [rB, kdBI, obE K A B C, ivB (0, 0), none, none] (.slice (some ⟨0, 0, none⟩) n c) A oA u ++ lgFI [rB, kdBI, obE K A B C, ivB (0, 0), none, none] (.slice (some ⟨0, 0, none⟩) n c) B oB v, [])
theorem valOI_2 : ValOI 2 := fun _ _ _ _ _ _ _ _ _ _ => by kernel_rfl
theorem valOI_3 : ValOI 3 := fun _ _ _ _ _ _ _ _ _ _ => by kernel_rfl
theorem valOI_4 : ValOI 4 := fun _ _ _ _ _ _ _ _ _ _ => by kernel_rfl
theorem valOI_5 (A B : Int) (C : Nat) (rB : Option ABlk) (n c oA oB : Nat) (u v w : P2) : runVI #[kdI, opV 5 A B C, anyW, .slice (some ⟨0, 0, none⟩) n c] #[rB] [pAnsT ⟨0, oA, none⟩, pAnsT ⟨0, oA, none⟩, vAns (vI u), pAnsT ⟨0, oB, none⟩, pAnsT ⟨0, oB, none⟩, vAns (vI v), vAns (vI w)] =
  some (vI w, lgFI [rB, kdBI, obE 5 A B C, ivB (0, 0), none, none] (.slice (some ⟨0, 0, none⟩) n c) A oA u ++ lgFI [rB, kdBI, obE 5 A B C, ivB (0, 0), none, none] (.slice (some ⟨0, 0, none⟩) n c) B oB v ++ [qtO 75 #[vI u, vI v] (vI w)], []) := by kernel_rfl
theorem sloCI (A B i : Int) (C : Nat) (q : P2) : runSI #[kdI, opV 0 A B C, .int .i64 i, vI q, anyW] #[] [yes false, yes true] = some (vI (0, 0), [cpO .eql 0 1 false, cpO .eql 0 0 true], []) := by kernel_rfl
theorem sloVI_t (A B i : Int) (C : Nat) (q : P2) : runSI #[kdI, opV 1 A B C, .int .i64 i, vI q, anyW] #[] [yes true, yes true] = some (vI (4607182418800017408, 4607182418800017408), [cpO .eql 1 1 true, cpO .eql A i true], []) := by kernel_rfl
theorem sloVI_f (A B i : Int) (C : Nat) (q : P2) : runSI #[kdI, opV 1 A B C, .int .i64 i, vI q, anyW] #[] [yes true, yes false, yes false, yes true] = some (vI (0, 0), [cpO .eql 1 1 true, cpO .eql A i false, cpO .eql 1 0 false, cpO .eql 1 1 true], []) := by kernel_rfl
/-- How a from-to changes. -/
def slP (K : Int) (u v q x y : P2) : P2 := if K = 2 then addP x y else if K = 3 then subP x y else if K = 4 then addP (mulP x v) (mulP u y) else divP (subP x (mulP q y)) v
def SloOI (K : Int) : Prop := ∀ (A B i : Int) (C : Nat) (q : P2) (rB dA dB : Option ABlk) (n c a0 b0 N M oA oB : Nat) (u v : P2) (p1 p2 : Addr) (x y : P2), runSI #[kdI, opV K A B C, .int .i64 i, vI q, .slice (some ⟨0, 0, none⟩) n c] #[rB, dA, dB]
   ([yes false, yes false, yes false, pAnsT ⟨0, oA, none⟩, vAns (.agg #[.float .f64 u.1, .float .f64 u.2, .slice (some ⟨a0, 0, none⟩) N N]), pAnsT ⟨0, oB, none⟩, vAns (.agg #[.float .f64 v.1, .float .f64 v.2, .slice (some ⟨b0, 0, none⟩) M M])] ++ anK K ++ [pAnsT p1, vAns (vI x), pAnsT p2, vAns (vI y)]) =
  some (vI (slP K u v q x y), lgS K ++ lgV [rB, dA, dB, kdBI, obE K A B C, ivB q, ivB (0, 0), none, none] 85 88 (.slice (some ⟨0, 0, none⟩) n c) A ⟨0, oA, none⟩ (.agg #[.float .f64 u.1, .float .f64 u.2, .slice (some ⟨a0, 0, none⟩) N N]) ++
    lgV [rB, dA, dB, kdBI, obE K A B C, ivB q, ivB (0, 0), none, none] 85 88 (.slice (some ⟨0, 0, none⟩) n c) B ⟨0, oB, none⟩ (.agg #[.float .f64 v.1, .float .f64 v.2, .slice (some ⟨b0, 0, none⟩) M M]) ++ lgK K ++
    lgV [rB, dA, dB, kdBI, obE K A B C, ivB q, ivB (0, 0), rgI u a0 N, rgI v b0 M] 26 29 (.slice (some ⟨a0, 0, none⟩) N N) i p1 (vI x) ++ lgV [rB, dA, dB, kdBI, obE K A B C, ivB q, ivB (0, 0), rgI u a0 N, rgI v b0 M] 26 29 (.slice (some ⟨b0, 0, none⟩) M M) i p2 (vI y), [])
theorem sloOI_2 : SloOI 2 := fun _ _ _ _ _ _ _ _ _ _ _ _ _ _ _ _ _ _ _ _ _ _ => by kernel_rfl
theorem sloOI_3 : SloOI 3 := fun _ _ _ _ _ _ _ _ _ _ _ _ _ _ _ _ _ _ _ _ _ _ => by kernel_rfl
theorem sloOI_4 : SloOI 4 := fun _ _ _ _ _ _ _ _ _ _ _ _ _ _ _ _ _ _ _ _ _ _ => by kernel_rfl
theorem sloOI_5 (A B i : Int) (C : Nat) (q : P2) (rB dA dB : Option ABlk) (n c a0 b0 N M oA oB : Nat) (u v : P2) (p1 p2 : Addr) (x y w : P2) : runSI #[kdI, opV 5 A B C, .int .i64 i, vI q, .slice (some ⟨0, 0, none⟩) n c] #[rB, dA, dB]
   ([yes false, yes false, yes false, pAnsT ⟨0, oA, none⟩, vAns (.agg #[.float .f64 u.1, .float .f64 u.2, .slice (some ⟨a0, 0, none⟩) N N]), pAnsT ⟨0, oB, none⟩, vAns (.agg #[.float .f64 v.1, .float .f64 v.2, .slice (some ⟨b0, 0, none⟩) M M])] ++ anK 5 ++ [pAnsT p1, vAns (vI x), pAnsT p2, vAns (vI y), vAns (vI w)]) =
  some (vI w, lgS 5 ++ lgV [rB, dA, dB, kdBI, obE 5 A B C, ivB q, ivB (0, 0), none, none] 85 88 (.slice (some ⟨0, 0, none⟩) n c) A ⟨0, oA, none⟩ (.agg #[.float .f64 u.1, .float .f64 u.2, .slice (some ⟨a0, 0, none⟩) N N]) ++
    lgV [rB, dA, dB, kdBI, obE 5 A B C, ivB q, ivB (0, 0), none, none] 85 88 (.slice (some ⟨0, 0, none⟩) n c) B ⟨0, oB, none⟩ (.agg #[.float .f64 v.1, .float .f64 v.2, .slice (some ⟨b0, 0, none⟩) M M]) ++ lgK 5 ++
    lgV [rB, dA, dB, kdBI, obE 5 A B C, ivB q, ivB (0, 0), rgI u a0 N, rgI v b0 M] 26 29 (.slice (some ⟨a0, 0, none⟩) N N) i p1 (vI x) ++ lgV [rB, dA, dB, kdBI, obE 5 A B C, ivB q, ivB (0, 0), rgI u a0 N, rgI v b0 M] 26 29 (.slice (some ⟨b0, 0, none⟩) M M) i p2 (vI y) ++ [qtO 75 #[vI (subP x (mulP q y)), vI v] (vI w)], []) := by kernel_rfl

end Go.Proofs.Ytdlinjijccnaeaa

/-!  jac: registers of from-tos in memory (leaves of value's and slope's contracts). -/
namespace Go.Proofs.Ytdlinjijccnaeaa
open Go
set_option linter.unusedVariables false
set_option linter.unusedSimpArgs false
set_option maxRecDepth 100000

section
variable {P : Program}
/-- A struct that lies at the head of each element. -/
theorem rd_head {α : Type} {f g : α → List Value} {n k2 : Nat} (hf : ∀ a, (f a).length = n) (hg : ∀ a, (f a).take k2 = g a) (hk2 : k2 ≤ n) {t : TypeId} {fs : Array Field} {i : TypeInfo} (hu : P.underlying t = some (.struct fs)) (hi : P.info? t = some i) (hn : i.size = k2)
    {H : AHeap} {b k : Nat} {B : ABlk} {l : List α} {a : α} (hb : H[b]? = some (some B)) (hc : B.cells = (l.flatMap f).toArray) (hk : l[k]? = some a) {o : Nat} (ho : o = k * n) : readVar P H t ⟨b, o, none⟩ = some (.agg (g a).toArray) := by
  subst ho
  unfold readVar
  simp only [hb, hu, hi]
  have hlt : k < l.length := (List.getElem?_eq_some_iff.1 hk).1
  rw [if_pos]
  · unfold cut
    have := flat_cut f n hf l k a hk
    have e : ((l.flatMap f).drop (k * n)).take k2 = g a := by
      rw [← hg a, ← this, List.take_take, Nat.min_eq_left hk2]
    rw [hc, hn, List.toList_toArray, e]
  · rw [hc, hn, List.size_toArray, flat_len f n hf]
    have : (k + 1) * n ≤ l.length * n := Nat.mul_le_mul_right n hlt
    rw [Nat.add_mul, Nat.one_mul] at this
    show k * n + k2 ≤ _
    omega
end
theorem ty_rgsI : isSliceB Try.prog 85 88 = true := by kernel_rfl
theorem sz_rgI : sizeB Try.prog 88 3 = true := by kernel_rfl
theorem ty_rgI : isStructB Try.prog 88 = true := by kernel_rfl
theorem fa_rgI (b o : Nat) : fieldAddrV Try.prog 88 (.pointer (some ⟨b, o, none⟩)) 0 = some (.pointer (some ⟨b, o, none⟩)) := by kernel_rfl
theorem ixRI {b n c : Nat} {A : Int} (h0 : 0 ≤ A) (h1 : A < n) {o : Nat} (ho : o = A.toNat * 3) : indexAddrV Try.prog 85 (.slice (some ⟨b, 0, none⟩) n c) (.int .i64 A) = some (.pointer (some ⟨b, o, none⟩)) := by
  obtain ⟨i, hi, hz⟩ := sizeB_ex sz_rgI
  exact ix_slice (isSliceB_ex ty_rgsI) hi hz h0 h1 ho
theorem rdRI {H : AHeap} {b k : Nat} {B : ABlk} {l : List (P2 × Value)} {a : P2 × Value} (hb : H[b]? = some (some B)) (hc : B.cells = (l.flatMap rgCI).toArray) (hk : l[k]? = some a) {o : Nat} (ho : o = k * 3) : readVar Try.prog H 88 ⟨b, o, none⟩ = some (.agg #[.float .f64 a.1.1, .float .f64 a.1.2, a.2]) := by
  obtain ⟨fs, hu⟩ := isStructB_ex ty_rgI
  obtain ⟨i, hi, hz⟩ := sizeB_ex sz_rgI
  exact rd_agg (f := rgCI) (fun _ => rfl) hu hi hz hb hc hk ho
theorem rdRvI {H : AHeap} {b k : Nat} {B : ABlk} {l : List (P2 × Value)} {a : P2 × Value} (hb : H[b]? = some (some B)) (hc : B.cells = (l.flatMap rgCI).toArray) (hk : l[k]? = some a) {o : Nat} (ho : o = k * 3) : readVar Try.prog H 29 ⟨b, o, none⟩ = some (vI a.1) := by
  obtain ⟨fs, hu⟩ := isStructB_ex ty_iv
  obtain ⟨i, hi, hz⟩ := sizeB_ex sz_iv
  exact rd_head (f := rgCI) (g := fun x => pC x.1) (n := 3) (k2 := 2) (fun _ => rfl) (fun _ => rfl) (by decide) hu hi hz hb hc hk ho

end Go.Proofs.Ytdlinjijccnaeaa

/-!  jac's run of from-tos: its rounds. -/
namespace Go.Proofs.Ytdlinjijccnaeaa
open Go
set_option linter.unusedVariables false
set_option linter.unusedSimpArgs false
set_option maxRecDepth 100000

noncomputable def askJrI (g : FuncId) : Nat := if [76, 77].contains g then 1 else if [20, 21, 61, 66, 67, 68, 69].contains (g - 1000000) && Nat.ble 1000000 g then 7 else 0
noncomputable def bodyJrI : Code := bodyG Try.prog 42 0
theorem okJrI : codeOk q1 bodyJrI = true := by kernel_rfl
def rgsI (V : Nat → P2) (W : Nat → Value) (k : Nat) : List (P2 × Value) := (List.range k).map fun j => (V j, W j)
def rgBoI (own : Bool) (l : List (P2 × Value)) : Option ABlk := some ⟨(l.flatMap rgCI).toArray, 88, 3, own⟩
def nwPj (l : List P2) : Option ABlk := some ⟨(l.flatMap pC).toArray, 29, 2, true⟩
def grRiI (N : Nat) (f : Nat → P2) : List (Option ABlk) := (List.range N).flatMap fun i => [some ⟨(pC (f i)).toArray, 29, 2, true⟩, if i + 1 = N then some ⟨((List.range N).flatMap fun i => pC (f i)).toArray, 29, 2, true⟩ else none]
def dJI (N : Nat) (S : Nat → Nat → P2) (j : Nat) : Option ABlk := nwPj ((List.range N).map (S j))
def HJI (b0 b1 b2 : Option ABlk) (N M k : Nat) (V : Nat → P2) (S : Nat → Nat → P2) : List (Option ABlk) :=
  [b0, b1, b2, kdBI, tbE N M] ++ (if k = 0 then [] else rgBoI true (rgsI V (fun j => slV (6 + j) N) k) :: (List.range k).map (dJI N S))
def oneJI (b : Nat) (v : P2) (i : Nat) : Option ABlk := some ⟨#[.float .f64 v.1, .float .f64 v.2, if i = 0 then .slice none 0 0 else .slice (some ⟨b + 1 + 2 * i, 0, none⟩) i i], 88, 0, true⟩
def outJI (b0 b1 b2 : Option ABlk) (N M k : Nat) (V : Nat → P2) (S : Nat → Nat → P2) (v : P2) (s : Nat → P2) : SlJ :=
  (73, [slV 2 N, ptJ 3, ptJ 4, slV (baseJ k + 3 + 2 * N) (k + 1), slV 0 M, .int .i64 M, .int .i64 (Int.ofNat (k + 1))],
    [some b0, some b1, some b2, some kdBI, some (tbE N M), some (rgBoI true (rgsI V (fun j => slV (6 + j) N) k ++ [(v, slV (baseJ k + 1 + 2 * N) N)]))] ++ (List.range k).map (fun j => some (dJI N S j)) ++ [some (nwPj ((List.range N).map s))])
noncomputable def lgJI (H : List (Option ABlk)) (N M k : Nat) (po : Addr) (K A B : Int) (C : Nat) (v : P2) (s : Nat → P2) : List Obl :=
  [.cmp .lss 3 (.int .i64 (Int.ofNat k)) (.int .i64 M) true, .ex (indexAddrV Try.prog 34 (slV 0 M) (.int .i64 (Int.ofNat k)) = some (.pointer (some po))), .ex (readVar Try.prog H.toArray 33 po = some (opV K A B C)),
    rnO 76 #[kdI, opV K A B C, slV 2 N, rvJ 5 k] (H ++ [obE K A B C]) (vI v) []] ++
  (List.range N).flatMap (fun i => [.cmp .lss 3 (.int .i64 (Int.ofNat i)) (.int .i64 (Int.ofNat N)) true, rnO 77 #[kdI, opV K A B C, .int .i64 (Int.ofNat i), vI v, rvJ 5 k] (H ++ ([obE K A B C, oneJI (baseJ k) v i] ++ grRiI i s)) (vI (s i)) []]) ++
  [.cmp .lss 3 (.int .i64 (Int.ofNat N)) (.int .i64 (Int.ofNat N)) false]
def RdJI (N k : Nat) : Prop := ∀ (b0 b1 b2 : Option ABlk) (M : Nat) (po : Addr) (K A B : Int) (C : Nat) (v : P2) (V : Nat → P2) (S : Nat → Nat → P2) (s : Nat → P2),
  (rndB askJrI lssC bodyJrI (tmA 73 (LJ N M k)) (HJI b0 b1 b2 N M k V S).toArray ([yes true, pAnsT po, vAns (opV K A B C), vAns (vI v)] ++ (List.range N).flatMap (fun i => [yes true, vAns (vI (s i))]) ++ [yes false]) [none]).map (fun r => (r.1, slG [2, 3, 4, 7, 16, 17, 18] (RJ N k) r.2.1 r.2.2.1, r.2.2.2)) =
  some (.normal, outJI b0 b1 b2 N M k V S v s, lgJI (HJI b0 b1 b2 N M k V S) N M k po K A B C v s, [])
def RdJeI (N k : Nat) : Prop := ∀ (b0 b1 b2 : Option ABlk) (M : Nat) (V : Nat → P2) (S : Nat → Nat → P2),
  (rndB askJrI lssC bodyJrI (tmA 73 (LJ N M k)) (HJI b0 b1 b2 N M k V S).toArray [yes false] []).map (fun r => (r.1, slG [2, 3, 4, 7, 16, 17, 18] (RJe k) r.2.1 r.2.2.1, r.2.2.2)) =
  some (.exit 0, (73, (LJ N M k).map (·.2), (HJI b0 b1 b2 N M k V S).map some), [.cmp .lss 3 (.int .i64 (Int.ofNat k)) (.int .i64 M) false], [])
theorem rdJI_1_0 : RdJI 1 0 := fun _ _ _ _ _ _ _ _ _ _ _ _ _ => by kernel_rfl
theorem rdJI_1_1 : RdJI 1 1 := fun _ _ _ _ _ _ _ _ _ _ _ _ _ => by kernel_rfl
theorem rdJI_1_2 : RdJI 1 2 := fun _ _ _ _ _ _ _ _ _ _ _ _ _ => by kernel_rfl
theorem rdJI_1_3 : RdJI 1 3 := fun _ _ _ _ _ _ _ _ _ _ _ _ _ => by kernel_rfl
theorem rdJI_1_4 : RdJI 1 4 := fun _ _ _ _ _ _ _ _ _ _ _ _ _ => by kernel_rfl
theorem rdJI_1_5 : RdJI 1 5 := fun _ _ _ _ _ _ _ _ _ _ _ _ _ => by kernel_rfl
theorem rdJI_1_6 : RdJI 1 6 := fun _ _ _ _ _ _ _ _ _ _ _ _ _ => by kernel_rfl
theorem rdJI_1_7 : RdJI 1 7 := fun _ _ _ _ _ _ _ _ _ _ _ _ _ => by kernel_rfl
theorem rdJI_1_8 : RdJI 1 8 := fun _ _ _ _ _ _ _ _ _ _ _ _ _ => by kernel_rfl
theorem rdJI_1_9 : RdJI 1 9 := fun _ _ _ _ _ _ _ _ _ _ _ _ _ => by kernel_rfl
theorem rdJI_1_10 : RdJI 1 10 := fun _ _ _ _ _ _ _ _ _ _ _ _ _ => by kernel_rfl
theorem rdJI_1_11 : RdJI 1 11 := fun _ _ _ _ _ _ _ _ _ _ _ _ _ => by kernel_rfl
theorem rdJI_1_12 : RdJI 1 12 := fun _ _ _ _ _ _ _ _ _ _ _ _ _ => by kernel_rfl
theorem rdJeI_1_2 : RdJeI 1 2 := fun _ _ _ _ _ _ => by kernel_rfl
theorem rdJeI_1_3 : RdJeI 1 3 := fun _ _ _ _ _ _ => by kernel_rfl
theorem rdJeI_1_4 : RdJeI 1 4 := fun _ _ _ _ _ _ => by kernel_rfl
theorem rdJeI_1_5 : RdJeI 1 5 := fun _ _ _ _ _ _ => by kernel_rfl
theorem rdJeI_1_6 : RdJeI 1 6 := fun _ _ _ _ _ _ => by kernel_rfl
theorem rdJeI_1_7 : RdJeI 1 7 := fun _ _ _ _ _ _ => by kernel_rfl
theorem rdJeI_1_8 : RdJeI 1 8 := fun _ _ _ _ _ _ => by kernel_rfl
theorem rdJeI_1_9 : RdJeI 1 9 := fun _ _ _ _ _ _ => by kernel_rfl
theorem rdJeI_1_10 : RdJeI 1 10 := fun _ _ _ _ _ _ => by kernel_rfl
theorem rdJeI_1_11 : RdJeI 1 11 := fun _ _ _ _ _ _ => by kernel_rfl
theorem rdJeI_1_12 : RdJeI 1 12 := fun _ _ _ _ _ _ => by kernel_rfl
theorem rdJeI_1_13 : RdJeI 1 13 := fun _ _ _ _ _ _ => by kernel_rfl
theorem rdJI_2_0 : RdJI 2 0 := fun _ _ _ _ _ _ _ _ _ _ _ _ _ => by kernel_rfl
theorem rdJI_2_1 : RdJI 2 1 := fun _ _ _ _ _ _ _ _ _ _ _ _ _ => by kernel_rfl
theorem rdJI_2_2 : RdJI 2 2 := fun _ _ _ _ _ _ _ _ _ _ _ _ _ => by kernel_rfl
theorem rdJI_2_3 : RdJI 2 3 := fun _ _ _ _ _ _ _ _ _ _ _ _ _ => by kernel_rfl
theorem rdJI_2_4 : RdJI 2 4 := fun _ _ _ _ _ _ _ _ _ _ _ _ _ => by kernel_rfl
theorem rdJI_2_5 : RdJI 2 5 := fun _ _ _ _ _ _ _ _ _ _ _ _ _ => by kernel_rfl
theorem rdJI_2_6 : RdJI 2 6 := fun _ _ _ _ _ _ _ _ _ _ _ _ _ => by kernel_rfl
theorem rdJI_2_7 : RdJI 2 7 := fun _ _ _ _ _ _ _ _ _ _ _ _ _ => by kernel_rfl
theorem rdJI_2_8 : RdJI 2 8 := fun _ _ _ _ _ _ _ _ _ _ _ _ _ => by kernel_rfl
theorem rdJI_2_9 : RdJI 2 9 := fun _ _ _ _ _ _ _ _ _ _ _ _ _ => by kernel_rfl
theorem rdJI_2_10 : RdJI 2 10 := fun _ _ _ _ _ _ _ _ _ _ _ _ _ => by kernel_rfl
theorem rdJI_2_11 : RdJI 2 11 := fun _ _ _ _ _ _ _ _ _ _ _ _ _ => by kernel_rfl
theorem rdJI_2_12 : RdJI 2 12 := fun _ _ _ _ _ _ _ _ _ _ _ _ _ => by kernel_rfl
theorem rdJeI_2_2 : RdJeI 2 2 := fun _ _ _ _ _ _ => by kernel_rfl
theorem rdJeI_2_3 : RdJeI 2 3 := fun _ _ _ _ _ _ => by kernel_rfl
theorem rdJeI_2_4 : RdJeI 2 4 := fun _ _ _ _ _ _ => by kernel_rfl
theorem rdJeI_2_5 : RdJeI 2 5 := fun _ _ _ _ _ _ => by kernel_rfl
theorem rdJeI_2_6 : RdJeI 2 6 := fun _ _ _ _ _ _ => by kernel_rfl
theorem rdJeI_2_7 : RdJeI 2 7 := fun _ _ _ _ _ _ => by kernel_rfl
theorem rdJeI_2_8 : RdJeI 2 8 := fun _ _ _ _ _ _ => by kernel_rfl
theorem rdJeI_2_9 : RdJeI 2 9 := fun _ _ _ _ _ _ => by kernel_rfl
theorem rdJeI_2_10 : RdJeI 2 10 := fun _ _ _ _ _ _ => by kernel_rfl
theorem rdJeI_2_11 : RdJeI 2 11 := fun _ _ _ _ _ _ => by kernel_rfl
theorem rdJeI_2_12 : RdJeI 2 12 := fun _ _ _ _ _ _ => by kernel_rfl
theorem rdJeI_2_13 : RdJeI 2 13 := fun _ _ _ _ _ _ => by kernel_rfl
theorem rdJI_3_0 : RdJI 3 0 := fun _ _ _ _ _ _ _ _ _ _ _ _ _ => by kernel_rfl
theorem rdJI_3_1 : RdJI 3 1 := fun _ _ _ _ _ _ _ _ _ _ _ _ _ => by kernel_rfl
theorem rdJI_3_2 : RdJI 3 2 := fun _ _ _ _ _ _ _ _ _ _ _ _ _ => by kernel_rfl
theorem rdJI_3_3 : RdJI 3 3 := fun _ _ _ _ _ _ _ _ _ _ _ _ _ => by kernel_rfl
theorem rdJI_3_4 : RdJI 3 4 := fun _ _ _ _ _ _ _ _ _ _ _ _ _ => by kernel_rfl
theorem rdJI_3_5 : RdJI 3 5 := fun _ _ _ _ _ _ _ _ _ _ _ _ _ => by kernel_rfl
theorem rdJI_3_6 : RdJI 3 6 := fun _ _ _ _ _ _ _ _ _ _ _ _ _ => by kernel_rfl
theorem rdJI_3_7 : RdJI 3 7 := fun _ _ _ _ _ _ _ _ _ _ _ _ _ => by kernel_rfl
theorem rdJI_3_8 : RdJI 3 8 := fun _ _ _ _ _ _ _ _ _ _ _ _ _ => by kernel_rfl
theorem rdJI_3_9 : RdJI 3 9 := fun _ _ _ _ _ _ _ _ _ _ _ _ _ => by kernel_rfl
theorem rdJI_3_10 : RdJI 3 10 := fun _ _ _ _ _ _ _ _ _ _ _ _ _ => by kernel_rfl
theorem rdJI_3_11 : RdJI 3 11 := fun _ _ _ _ _ _ _ _ _ _ _ _ _ => by kernel_rfl
theorem rdJI_3_12 : RdJI 3 12 := fun _ _ _ _ _ _ _ _ _ _ _ _ _ => by kernel_rfl
theorem rdJeI_3_2 : RdJeI 3 2 := fun _ _ _ _ _ _ => by kernel_rfl
theorem rdJeI_3_3 : RdJeI 3 3 := fun _ _ _ _ _ _ => by kernel_rfl
theorem rdJeI_3_4 : RdJeI 3 4 := fun _ _ _ _ _ _ => by kernel_rfl
theorem rdJeI_3_5 : RdJeI 3 5 := fun _ _ _ _ _ _ => by kernel_rfl
theorem rdJeI_3_6 : RdJeI 3 6 := fun _ _ _ _ _ _ => by kernel_rfl
theorem rdJeI_3_7 : RdJeI 3 7 := fun _ _ _ _ _ _ => by kernel_rfl
theorem rdJeI_3_8 : RdJeI 3 8 := fun _ _ _ _ _ _ => by kernel_rfl
theorem rdJeI_3_9 : RdJeI 3 9 := fun _ _ _ _ _ _ => by kernel_rfl
theorem rdJeI_3_10 : RdJeI 3 10 := fun _ _ _ _ _ _ => by kernel_rfl
theorem rdJeI_3_11 : RdJeI 3 11 := fun _ _ _ _ _ _ => by kernel_rfl
theorem rdJeI_3_12 : RdJeI 3 12 := fun _ _ _ _ _ _ => by kernel_rfl
theorem rdJeI_3_13 : RdJeI 3 13 := fun _ _ _ _ _ _ => by kernel_rfl
theorem rdJI_4_0 : RdJI 4 0 := fun _ _ _ _ _ _ _ _ _ _ _ _ _ => by kernel_rfl
theorem rdJI_4_1 : RdJI 4 1 := fun _ _ _ _ _ _ _ _ _ _ _ _ _ => by kernel_rfl
theorem rdJI_4_2 : RdJI 4 2 := fun _ _ _ _ _ _ _ _ _ _ _ _ _ => by kernel_rfl
theorem rdJI_4_3 : RdJI 4 3 := fun _ _ _ _ _ _ _ _ _ _ _ _ _ => by kernel_rfl
theorem rdJI_4_4 : RdJI 4 4 := fun _ _ _ _ _ _ _ _ _ _ _ _ _ => by kernel_rfl
theorem rdJI_4_5 : RdJI 4 5 := fun _ _ _ _ _ _ _ _ _ _ _ _ _ => by kernel_rfl
theorem rdJI_4_6 : RdJI 4 6 := fun _ _ _ _ _ _ _ _ _ _ _ _ _ => by kernel_rfl
theorem rdJI_4_7 : RdJI 4 7 := fun _ _ _ _ _ _ _ _ _ _ _ _ _ => by kernel_rfl
theorem rdJI_4_8 : RdJI 4 8 := fun _ _ _ _ _ _ _ _ _ _ _ _ _ => by kernel_rfl
theorem rdJI_4_9 : RdJI 4 9 := fun _ _ _ _ _ _ _ _ _ _ _ _ _ => by kernel_rfl
theorem rdJI_4_10 : RdJI 4 10 := fun _ _ _ _ _ _ _ _ _ _ _ _ _ => by kernel_rfl
theorem rdJI_4_11 : RdJI 4 11 := fun _ _ _ _ _ _ _ _ _ _ _ _ _ => by kernel_rfl
theorem rdJI_4_12 : RdJI 4 12 := fun _ _ _ _ _ _ _ _ _ _ _ _ _ => by kernel_rfl
theorem rdJeI_4_2 : RdJeI 4 2 := fun _ _ _ _ _ _ => by kernel_rfl
theorem rdJeI_4_3 : RdJeI 4 3 := fun _ _ _ _ _ _ => by kernel_rfl
theorem rdJeI_4_4 : RdJeI 4 4 := fun _ _ _ _ _ _ => by kernel_rfl
theorem rdJeI_4_5 : RdJeI 4 5 := fun _ _ _ _ _ _ => by kernel_rfl
theorem rdJeI_4_6 : RdJeI 4 6 := fun _ _ _ _ _ _ => by kernel_rfl
theorem rdJeI_4_7 : RdJeI 4 7 := fun _ _ _ _ _ _ => by kernel_rfl
theorem rdJeI_4_8 : RdJeI 4 8 := fun _ _ _ _ _ _ => by kernel_rfl
theorem rdJeI_4_9 : RdJeI 4 9 := fun _ _ _ _ _ _ => by kernel_rfl
theorem rdJeI_4_10 : RdJeI 4 10 := fun _ _ _ _ _ _ => by kernel_rfl
theorem rdJeI_4_11 : RdJeI 4 11 := fun _ _ _ _ _ _ => by kernel_rfl
theorem rdJeI_4_12 : RdJeI 4 12 := fun _ _ _ _ _ _ => by kernel_rfl
theorem rdJeI_4_13 : RdJeI 4 13 := fun _ _ _ _ _ _ => by kernel_rfl
theorem rdJI_1 : ∀ k, k < 13 → RdJI 1 k
  | 0, _ => rdJI_1_0
  | 1, _ => rdJI_1_1
  | 2, _ => rdJI_1_2
  | 3, _ => rdJI_1_3
  | 4, _ => rdJI_1_4
  | 5, _ => rdJI_1_5
  | 6, _ => rdJI_1_6
  | 7, _ => rdJI_1_7
  | 8, _ => rdJI_1_8
  | 9, _ => rdJI_1_9
  | 10, _ => rdJI_1_10
  | 11, _ => rdJI_1_11
  | 12, _ => rdJI_1_12
  | n + 13, h => absurd h (by omega)
theorem rdJeI_1 : ∀ k, 2 ≤ k → k < 14 → RdJeI 1 k
  | 0, h, _ => absurd h (by omega)
  | 1, h, _ => absurd h (by omega)
  | 2, _, _ => rdJeI_1_2
  | 3, _, _ => rdJeI_1_3
  | 4, _, _ => rdJeI_1_4
  | 5, _, _ => rdJeI_1_5
  | 6, _, _ => rdJeI_1_6
  | 7, _, _ => rdJeI_1_7
  | 8, _, _ => rdJeI_1_8
  | 9, _, _ => rdJeI_1_9
  | 10, _, _ => rdJeI_1_10
  | 11, _, _ => rdJeI_1_11
  | 12, _, _ => rdJeI_1_12
  | 13, _, _ => rdJeI_1_13
  | n + 14, _, h => absurd h (by omega)
theorem rdJI_2 : ∀ k, k < 13 → RdJI 2 k
  | 0, _ => rdJI_2_0
  | 1, _ => rdJI_2_1
  | 2, _ => rdJI_2_2
  | 3, _ => rdJI_2_3
  | 4, _ => rdJI_2_4
  | 5, _ => rdJI_2_5
  | 6, _ => rdJI_2_6
  | 7, _ => rdJI_2_7
  | 8, _ => rdJI_2_8
  | 9, _ => rdJI_2_9
  | 10, _ => rdJI_2_10
  | 11, _ => rdJI_2_11
  | 12, _ => rdJI_2_12
  | n + 13, h => absurd h (by omega)
theorem rdJeI_2 : ∀ k, 2 ≤ k → k < 14 → RdJeI 2 k
  | 0, h, _ => absurd h (by omega)
  | 1, h, _ => absurd h (by omega)
  | 2, _, _ => rdJeI_2_2
  | 3, _, _ => rdJeI_2_3
  | 4, _, _ => rdJeI_2_4
  | 5, _, _ => rdJeI_2_5
  | 6, _, _ => rdJeI_2_6
  | 7, _, _ => rdJeI_2_7
  | 8, _, _ => rdJeI_2_8
  | 9, _, _ => rdJeI_2_9
  | 10, _, _ => rdJeI_2_10
  | 11, _, _ => rdJeI_2_11
  | 12, _, _ => rdJeI_2_12
  | 13, _, _ => rdJeI_2_13
  | n + 14, _, h => absurd h (by omega)
theorem rdJI_3 : ∀ k, k < 13 → RdJI 3 k
  | 0, _ => rdJI_3_0
  | 1, _ => rdJI_3_1
  | 2, _ => rdJI_3_2
  | 3, _ => rdJI_3_3
  | 4, _ => rdJI_3_4
  | 5, _ => rdJI_3_5
  | 6, _ => rdJI_3_6
  | 7, _ => rdJI_3_7
  | 8, _ => rdJI_3_8
  | 9, _ => rdJI_3_9
  | 10, _ => rdJI_3_10
  | 11, _ => rdJI_3_11
  | 12, _ => rdJI_3_12
  | n + 13, h => absurd h (by omega)
theorem rdJeI_3 : ∀ k, 2 ≤ k → k < 14 → RdJeI 3 k
  | 0, h, _ => absurd h (by omega)
  | 1, h, _ => absurd h (by omega)
  | 2, _, _ => rdJeI_3_2
  | 3, _, _ => rdJeI_3_3
  | 4, _, _ => rdJeI_3_4
  | 5, _, _ => rdJeI_3_5
  | 6, _, _ => rdJeI_3_6
  | 7, _, _ => rdJeI_3_7
  | 8, _, _ => rdJeI_3_8
  | 9, _, _ => rdJeI_3_9
  | 10, _, _ => rdJeI_3_10
  | 11, _, _ => rdJeI_3_11
  | 12, _, _ => rdJeI_3_12
  | 13, _, _ => rdJeI_3_13
  | n + 14, _, h => absurd h (by omega)
theorem rdJI_4 : ∀ k, k < 13 → RdJI 4 k
  | 0, _ => rdJI_4_0
  | 1, _ => rdJI_4_1
  | 2, _ => rdJI_4_2
  | 3, _ => rdJI_4_3
  | 4, _ => rdJI_4_4
  | 5, _ => rdJI_4_5
  | 6, _ => rdJI_4_6
  | 7, _ => rdJI_4_7
  | 8, _ => rdJI_4_8
  | 9, _ => rdJI_4_9
  | 10, _ => rdJI_4_10
  | 11, _ => rdJI_4_11
  | 12, _ => rdJI_4_12
  | n + 13, h => absurd h (by omega)
theorem rdJeI_4 : ∀ k, 2 ≤ k → k < 14 → RdJeI 4 k
  | 0, h, _ => absurd h (by omega)
  | 1, h, _ => absurd h (by omega)
  | 2, _, _ => rdJeI_4_2
  | 3, _, _ => rdJeI_4_3
  | 4, _, _ => rdJeI_4_4
  | 5, _, _ => rdJeI_4_5
  | 6, _, _ => rdJeI_4_6
  | 7, _, _ => rdJeI_4_7
  | 8, _, _ => rdJeI_4_8
  | 9, _, _ => rdJeI_4_9
  | 10, _, _ => rdJeI_4_10
  | 11, _, _ => rdJeI_4_11
  | 12, _, _ => rdJeI_4_12
  | 13, _, _ => rdJeI_4_13
  | n + 14, _, h => absurd h (by omega)
theorem rdJI {N k : Nat} (h1 : 1 ≤ N) (h2 : N ≤ 4) (hk : k < 13) : RdJI N k := by
  have : N = 1 ∨ N = 2 ∨ N = 3 ∨ N = 4 := by omega
  rcases this with rfl | rfl | rfl | rfl
  · exact rdJI_1 k hk
  · exact rdJI_2 k hk
  · exact rdJI_3 k hk
  · exact rdJI_4 k hk
theorem rdJeI {N k : Nat} (h1 : 1 ≤ N) (h2 : N ≤ 4) (hk : 2 ≤ k) (hk2 : k < 14) : RdJeI N k := by
  have : N = 1 ∨ N = 2 ∨ N = 3 ∨ N = 4 := by omega
  rcases this with rfl | rfl | rfl | rfl
  · exact rdJeI_1 k hk hk2
  · exact rdJeI_2 k hk hk2
  · exact rdJeI_3 k hk hk2
  · exact rdJeI_4 k hk hk2

end Go.Proofs.Ytdlinjijccnaeaa

/-!  jac: value of from-tos in any memory that holds registers. -/
namespace Go.Proofs.Ytdlinjijccnaeaa
open Go
set_option linter.unusedVariables false
set_option linter.unusedSimpArgs false
set_option maxRecDepth 100000

theorem rgsI_get (V : Nat → P2) (W : Nat → Value) {k j : Nat} (h : j < k) : (rgsI V W k)[j]? = some (V j, W j) := by
  unfold rgsI
  rw [List.getElem?_map, List.getElem?_range h]; rfl
theorem relRgsI {z : Nat} {ρ : Nat → Nat} (V : Nat → P2) (W2 W1 : Nat → Value) : ∀ (l : List Nat), (∀ j ∈ l, RelA z ρ (W2 j) (W1 j)) → RelAs z ρ ((l.map fun j => (V j, W2 j)).flatMap rgCI) ((l.map fun j => (V j, W1 j)).flatMap rgCI)
  | [], _ => .nil
  | j :: l, h => .cons (.clos rfl) (.cons (.clos rfl) (.cons (h j (List.mem_cons_self ..)) (relRgsI V W2 W1 l fun i hi => h i (List.mem_cons_of_mem _ hi))))
theorem kdI_cl : closN 4 kdI = true := by kernel_rfl
/-- A step of a field, of from-tos. -/
def vStepI (xs : List P2) (V : Nat → P2) (o : OpD) : P2 := stepT (fun c => (c, c)) opP (fun i => xs.getD i (0, 0)) V o
def sStepI (V : Nat → P2) (S : Nat → Nat → P2) (q : P2) (o : OpD) (i : Nat) : P2 :=
  if o.K = 0 then (0, 0) else if o.K = 1 then (if o.A = (i : Int) then (4607182418800017408, 4607182418800017408) else (0, 0)) else slP o.K (V o.A.toNat) (V o.B.toNat) q (S o.A.toNat i) (S o.B.toNat i)
theorem valOI {K : Int} (h2 : 2 ≤ K) (h4 : K ≤ 4) : ValOI K := by
  have : K = 2 ∨ K = 3 ∨ K = 4 := by omega
  rcases this with rfl | rfl | rfl
  · exact valOI_2
  · exact valOI_3
  · exact valOI_4
theorem sloOI {K : Int} (h2 : 2 ≤ K) (h4 : K ≤ 4) : SloOI K := by
  have : K = 2 ∨ K = 3 ∨ K = 4 := by omega
  rcases this with rfl | rfl | rfl
  · exact sloOI_2
  · exact sloOI_3
  · exact sloOI_4
/-- A run whose loops are none. -/
theorem tellsVI {args : Array Value} {H : AHeap} {s : List Ans} {v : Value} {l : List Obl} (h : runVI args H s = some (v, l, [])) (hl : okAll Try.prog l) : Tells 76 args H v := askTB_tells (k := []) h hl trivial
theorem tellsSI {args : Array Value} {H : AHeap} {s : List Ans} {v : Value} {l : List Obl} (h : runSI args H s = some (v, l, [])) (hl : okAll Try.prog l) : Tells 77 args H v := askTB_tells (k := []) h hl trivial
theorem div_ok (X : P2) {Y : P2} (h : Rt Y) : (qtO 75 #[vI X, vI Y] (vI (divP X Y))).ok Try.prog := (div_w X h.l h.h).1

end Go.Proofs.Ytdlinjijccnaeaa

/-!  jac: value of from-tos in any memory that holds registers: its contract. -/
namespace Go.Proofs.Ytdlinjijccnaeaa
open Go
set_option linter.unusedVariables false
set_option linter.unusedSimpArgs false
set_option maxRecDepth 100000

section
variable {l : List (Option ABlk)}
theorem jvalI_rn {N k bx br : Nat} {xs : List P2} {V : Nat → P2} {W : Nat → Value} {o : OpD} {ow ow2 : Bool} (ho : opOkD k N o) (hr : ∀ j, j < k → Rt (V j)) (hx : xs.length = N) (hlx : l[bx]? = some (some ⟨(xs.flatMap pC).toArray, 29, 2, ow⟩)) (hlr : k ≠ 0 → l[br]? = some (rgBoI ow2 (rgsI V W k))) :
    (rnO 76 #[kdI, opV o.K o.A o.B o.C, slV bx N, rvJ br k] l (vI (vStepI xs V o)) []).ok Try.prog := by
  refine rn_of ?_
  unfold vStepI stepT
  rcases ho with h | ⟨h, a0, a1⟩ | ⟨h2, h5, a0, a1, b0, b1⟩
  · rw [if_pos h, h]
    obtain ⟨H', r⟩ := tellsVI (valCI o.A o.B o.C) trivial
    refine Runs.view (ρ := fun b => b) r (fun b B h => by simp at h) rfl ?_
    obtain ⟨g1, g2⟩ := relAs_at (z := 0) (ρ := fun b => b) (l2 := [kdI, opV 0 o.A o.B o.C, anyW, anyW]) (l1 := [kdI, opV 0 o.A o.B o.C, slV bx N, rvJ br k]) (.cons (.clos kdI_cl) (.cons (.clos rfl) (.cons (.any _) (.cons (.any _) .nil))))
    exact rel2 g1 g2 (fun b B2 h => by simp at h) (fun b b' B2 B2' h => by simp at h)
  · rw [if_neg (by omega), if_pos h, h]
    have hz : xs[o.A.toNat]? = some (xs.getD o.A.toNat (0, 0)) := getD_at (0, 0) (by omega)
    obtain ⟨H', r⟩ := tellsVI (valVI o.A o.B o.C (some ⟨(xs.flatMap pC).toArray, 29, 2, false⟩) N N ⟨0, o.A.toNat * 2, none⟩ (xs.getD o.A.toNat (0, 0)))
      ⟨ixIv a0 a1 rfl, rdIv (B := ⟨(xs.flatMap pC).toArray, 29, 2, false⟩) (l := xs) (k := o.A.toNat) rfl rfl hz rfl, trivial⟩
    refine Runs.view (ρ := fun _ => bx) r (fun b B h => ?_) rfl ?_
    · match b, h with
      | 0, h => injection h with h; injection h with h; subst h; rfl
      | n + 1, h => simp at h
    obtain ⟨g1, g2⟩ := relAs_at (z := 1) (ρ := fun _ => bx) (l2 := [kdI, opV 1 o.A o.B o.C, .slice (some ⟨0, 0, none⟩) N N, anyW]) (l1 := [kdI, opV 1 o.A o.B o.C, slV bx N, rvJ br k]) (.cons (.clos kdI_cl) (.cons (.clos rfl) (.cons (.slice 0 bx 0 none _ _ _ (by decide) rfl) (.cons (.any _) .nil))))
    refine rel2 g1 g2 (fun b B2 h => ?_) (fun b b' B2 B2' h h' _ => ?_)
    · match b, h with
      | 0, h =>
        injection h with h; injection h with h; subst h
        exact ⟨_, fz_at hlx, RelK.plain (plain_flat pC_cl _ _ _ _)⟩
      | n + 1, h => simp at h
    · match b, b', h, h' with
      | 0, 0, _, _ => rfl
      | n + 1, _, h, _ => simp at h
      | 0, n + 1, _, h => simp at h
  · have hk : k ≠ 0 := by omega
    rw [if_neg (by omega), if_neg (by omega)]
    have hlr := hlr hk
    have gA := rgsI_get V (fun _ => anyW) (show o.A.toNat < k by omega)
    have gB := rgsI_get V (fun _ => anyW) (show o.B.toNat < k by omega)
    have hrun : Tells 76 #[kdI, opV o.K o.A o.B o.C, anyW, .slice (some ⟨0, 0, none⟩) k k] #[rgBoI false (rgsI V (fun _ => anyW) k)] (vI (opP o.K (V o.A.toNat) (V o.B.toNat))) := by
      by_cases h4 : o.K ≤ 4
      · exact tellsVI (valOI h2 h4 o.A o.B o.C (rgBoI false (rgsI V (fun _ => anyW) k)) k k (o.A.toNat * 3) (o.B.toNat * 3) (V o.A.toNat) (V o.B.toNat))
          ⟨ixRI a0 a1 rfl, fa_rgI _ _, rdRvI rfl rfl gA rfl, ixRI b0 b1 rfl, fa_rgI _ _, rdRvI rfl rfl gB rfl, trivial⟩
      · have e5 : o.K = 5 := by omega
        rw [e5]
        exact tellsVI (valOI_5 o.A o.B o.C (rgBoI false (rgsI V (fun _ => anyW) k)) k k (o.A.toNat * 3) (o.B.toNat * 3) (V o.A.toNat) (V o.B.toNat) _)
          ⟨ixRI a0 a1 rfl, fa_rgI _ _, rdRvI rfl rfl gA rfl, ixRI b0 b1 rfl, fa_rgI _ _, rdRvI rfl rfl gB rfl, div_ok _ (hr _ (by omega)), trivial⟩
    obtain ⟨H', r⟩ := hrun
    refine Runs.view (ρ := fun _ => br) r (fun b B h => ?_) rfl ?_
    · match b, h with
      | 0, h => injection h with h; injection h with h; subst h; rfl
      | n + 1, h => simp at h
    have er : rvJ br k = .slice (some ⟨br, 0, none⟩) k k := if_neg hk
    rw [er]
    obtain ⟨g1, g2⟩ := relAs_at (z := 1) (ρ := fun _ => br) (l2 := [kdI, opV o.K o.A o.B o.C, anyW, .slice (some ⟨0, 0, none⟩) k k]) (l1 := [kdI, opV o.K o.A o.B o.C, slV bx N, .slice (some ⟨br, 0, none⟩) k k]) (.cons (.clos kdI_cl) (.cons (.clos rfl) (.cons (.any _) (.cons (.slice 0 br 0 none _ _ _ (by decide) rfl) .nil))))
    refine rel2 g1 g2 (fun b B2 h => ?_) (fun b b' B2 B2' h h' _ => ?_)
    · match b, h with
      | 0, h =>
        injection h with h; injection h with h; subst h
        exact ⟨_, fz_at hlr, RelK.list (relRgsI V (fun _ => anyW) W (List.range k) fun j _ => .any _)⟩
      | n + 1, h => simp at h
    · match b, b', h, h' with
      | 0, 0, _, _ => rfl
      | n + 1, _, h, _ => simp at h
      | 0, n + 1, _, h => simp at h
end

end Go.Proofs.Ytdlinjijccnaeaa

/-!  jac: slope of from-tos in any memory that holds registers: its contract. -/
namespace Go.Proofs.Ytdlinjijccnaeaa
open Go
set_option linter.unusedVariables false
set_option linter.unusedSimpArgs false
set_option maxRecDepth 100000

section
variable {l : List (Option ABlk)}
theorem sloI_rn {N k br : Nat} {V : Nat → P2} {D : Nat → Nat} {S : Nat → Nat → P2} {o : OpD} {ow2 : Bool} {i : Nat} {q : P2} (hr : ∀ j, j < k → Rt (V j)) (ho : opOkD k N o) (hi : i < N) (hlr : k ≠ 0 → l[br]? = some (rgBoI ow2 (rgsI V (fun j => slV (D j) N) k)))
    (hd : ∀ j, j < k → l[D j]? = some (nwPj ((List.range N).map (S j)))) (hD : ∀ a b, a < k → b < k → D a = D b → a = b) (hbr : ∀ j, j < k → D j ≠ br) :
    (rnO 77 #[kdI, opV o.K o.A o.B o.C, .int .i64 (i : Nat), vI q, rvJ br k] l (vI (sStepI V S q o i)) []).ok Try.prog := by
  refine rn_of ?_
  unfold sStepI
  have c := fun (x y : Int) (b : Bool) (h : decide (x = y) = b) => (cmp_eqlT x y).trans (congrArg some h)
  rcases ho with h | ⟨h, a0, a1⟩ | ⟨h2, h5, a0, a1, b0, b1⟩
  · rw [if_pos h, h]
    obtain ⟨H', r⟩ := tellsSI (sloCI o.A o.B i o.C q) ⟨cmp_eqlT 0 1, cmp_eqlT 0 0, trivial⟩
    refine Runs.view (ρ := fun b => b) r (fun b B h => by simp at h) rfl ?_
    obtain ⟨g1, g2⟩ := relAs_at (z := 0) (ρ := fun b => b) (l2 := [kdI, opV 0 o.A o.B o.C, .int .i64 (i : Nat), vI q, anyW]) (l1 := [kdI, opV 0 o.A o.B o.C, .int .i64 (i : Nat), vI q, rvJ br k]) (.cons (.clos kdI_cl) (.cons (.clos rfl) (.cons (.clos rfl) (.cons (.clos rfl) (.cons (.any _) .nil)))))
    exact rel2 g1 g2 (fun b B2 h => by simp at h) (fun b b' B2 B2' h => by simp at h)
  · rw [if_neg (by omega), if_pos h, h]
    obtain ⟨g1, g2⟩ := relAs_at (z := 0) (ρ := fun b => b) (l2 := [kdI, opV 1 o.A o.B o.C, .int .i64 (i : Nat), vI q, anyW]) (l1 := [kdI, opV 1 o.A o.B o.C, .int .i64 (i : Nat), vI q, rvJ br k]) (.cons (.clos kdI_cl) (.cons (.clos rfl) (.cons (.clos rfl) (.cons (.clos rfl) (.cons (.any _) .nil)))))
    have hs := rel2 (H2 := #[]) (H1 := froze l.toArray) g1 g2 (fun b B2 h => by simp at h) (fun b b' B2 B2' h => by simp at h)
    by_cases e : o.A = (i : Int)
    · rw [if_pos e]
      obtain ⟨H', r⟩ := tellsSI (sloVI_t o.A o.B i o.C q) ⟨cmp_eqlT 1 1, c _ _ _ (decide_eq_true e), trivial⟩
      exact Runs.view r (fun b B h => by simp at h) rfl hs
    · rw [if_neg e]
      obtain ⟨H', r⟩ := tellsSI (sloVI_f o.A o.B i o.C q) ⟨cmp_eqlT 1 1, c _ _ _ (decide_eq_false e), cmp_eqlT 1 0, cmp_eqlT 1 1, trivial⟩
      exact Runs.view r (fun b B h => by simp at h) rfl hs
  · have hk : k ≠ 0 := by omega
    rw [if_neg (by omega), if_neg (by omega)]
    have hlr := hlr hk
    have er : rvJ br k = .slice (some ⟨br, 0, none⟩) k k := if_neg hk
    rw [er]
    have hA : o.A.toNat < k := by omega
    have hB : o.B.toNat < k := by omega
    have gS := fun (f : Nat → P2) => show ((List.range N).map f)[i]? = some (f i) by rw [List.getElem?_map, List.getElem?_range hi]; rfl
    generalize haa : o.A.toNat = a at hA
    generalize hbb : o.B.toNat = b at hB
    have ea := hd a hA
    have eb := hd b hB
    by_cases hab : a = b
    · subst hab
      let W2 : Nat → Value := fun j => if j = a then slV 1 N else anyW
      have gA : (rgsI V W2 k)[a]? = some (V a, slV 1 N) := by rw [rgsI_get V W2 hA]; simp [W2]
      have hrun : Tells 77 #[kdI, opV o.K o.A o.B o.C, .int .i64 (i : Nat), vI q, .slice (some ⟨0, 0, none⟩) k k] #[rgBoI false (rgsI V W2 k), some ⟨(((List.range N).map (S a)).flatMap pC).toArray, 29, 2, false⟩, none] (vI (slP o.K (V a) (V a) q (S a i) (S a i))) := by
        by_cases h4 : o.K ≤ 4
        · exact tellsSI (sloOI h2 h4 o.A o.B i o.C q (rgBoI false (rgsI V W2 k)) (some ⟨(((List.range N).map (S a)).flatMap pC).toArray, 29, 2, false⟩) none k k 1 1 N N (a * 3) (a * 3) (V a) (V a) ⟨1, i * 2, none⟩ ⟨1, i * 2, none⟩ (S a i) (S a i))
            (okApp' (okApp' (okApp' (okApp' (okApp' (lgS_ok h2) ⟨ixRI a0 a1 (by rw [haa]), rdRI (l := rgsI V W2 k) (k := a) rfl rfl gA rfl, trivial⟩) ⟨ixRI b0 b1 (by rw [hbb]), rdRI (l := rgsI V W2 k) (k := a) rfl rfl gA rfl, trivial⟩) (lgK_ok h2 h5)) ⟨ixIv (by omega) (by omega) (by simp), rdIv (l := (List.range N).map (S a)) (k := i) rfl rfl (gS _) rfl, trivial⟩) ⟨ixIv (by omega) (by omega) (by simp), rdIv (l := (List.range N).map (S a)) (k := i) rfl rfl (gS _) rfl, trivial⟩)
        · have e5 : o.K = 5 := by omega
          rw [e5] at h2 h5 ⊢
          exact tellsSI (sloOI_5 o.A o.B i o.C q (rgBoI false (rgsI V W2 k)) (some ⟨(((List.range N).map (S a)).flatMap pC).toArray, 29, 2, false⟩) none k k 1 1 N N (a * 3) (a * 3) (V a) (V a) ⟨1, i * 2, none⟩ ⟨1, i * 2, none⟩ (S a i) (S a i) _)
            (okApp' (okApp' (okApp' (okApp' (okApp' (okApp' (lgS_ok h2) ⟨ixRI a0 a1 (by rw [haa]), rdRI (l := rgsI V W2 k) (k := a) rfl rfl gA rfl, trivial⟩) ⟨ixRI b0 b1 (by rw [hbb]), rdRI (l := rgsI V W2 k) (k := a) rfl rfl gA rfl, trivial⟩) (lgK_ok h2 h5)) ⟨ixIv (by omega) (by omega) (by simp), rdIv (l := (List.range N).map (S a)) (k := i) rfl rfl (gS _) rfl, trivial⟩) ⟨ixIv (by omega) (by omega) (by simp), rdIv (l := (List.range N).map (S a)) (k := i) rfl rfl (gS _) rfl, trivial⟩) ⟨div_ok _ (hr _ hA), trivial⟩)
      obtain ⟨H', r⟩ := hrun
      let ρ : Nat → Nat := fun x => if x = 0 then br else D a
      refine Runs.view (ρ := ρ) r (fun b B h => ?_) rfl ?_
      · match b, h with
        | 0, h => injection h with h; injection h with h; subst h; rfl
        | 1, h => injection h with h; injection h with h; subst h; rfl
        | 2, h => injection h with h; cases h
        | n + 3, h => simp at h
      obtain ⟨g1, g2⟩ := relAs_at (z := 3) (ρ := ρ) (l2 := [kdI, opV o.K o.A o.B o.C, .int .i64 (i : Nat), vI q, .slice (some ⟨0, 0, none⟩) k k]) (l1 := [kdI, opV o.K o.A o.B o.C, .int .i64 (i : Nat), vI q, .slice (some ⟨br, 0, none⟩) k k])
        (.cons (.clos kdI_cl) (.cons (.clos rfl) (.cons (.clos rfl) (.cons (.clos rfl) (.cons (.slice 0 br 0 none _ _ _ (by decide) rfl) .nil)))))
      refine rel2 g1 g2 (fun b B2 h => ?_) (fun b b' B2 B2' h h' he => ?_)
      · match b, h with
        | 0, h =>
          injection h with h; injection h with h; subst h
          refine ⟨_, fz_at hlr, RelK.list (relRgsI V W2 (fun j => slV (D j) N) (List.range k) fun j _ => ?_)⟩
          show RelA 3 ρ (if j = a then slV 1 N else anyW) (slV (D j) N)
          by_cases e : j = a
          · rw [if_pos e, e]; exact .slice 1 (D a) 0 none _ _ _ (by decide) rfl
          · rw [if_neg e]; exact .any _
        | 1, h =>
          injection h with h; injection h with h; subst h
          exact ⟨_, fz_at ea, RelK.plain (plain_flat pC_cl _ _ _ _)⟩
        | 2, h => injection h with h; cases h
        | n + 3, h => simp at h
      · have nb := hbr a hA
        match b, b', h, h' with
        | 0, 0, _, _ => rfl
        | 1, 1, _, _ => rfl
        | 0, 1, _, _ => exact absurd he.symm nb
        | 1, 0, _, _ => exact absurd he nb
        | 2, _, h, _ => injection h with h; cases h
        | n + 3, _, h, _ => simp at h
        | 0, 2, _, h => injection h with h; cases h
        | 1, 2, _, h => injection h with h; cases h
        | 0, n + 3, _, h => simp at h
        | 1, n + 3, _, h => simp at h
    · let W2 : Nat → Value := fun j => if j = a then slV 1 N else if j = b then slV 2 N else anyW
      have gA : (rgsI V W2 k)[a]? = some (V a, slV 1 N) := by rw [rgsI_get V W2 hA]; simp [W2]
      have gB : (rgsI V W2 k)[b]? = some (V b, slV 2 N) := by rw [rgsI_get V W2 hB]; simp [W2, show ¬ b = a from fun h => hab h.symm]
      have hrun : Tells 77 #[kdI, opV o.K o.A o.B o.C, .int .i64 (i : Nat), vI q, .slice (some ⟨0, 0, none⟩) k k] #[rgBoI false (rgsI V W2 k), some ⟨(((List.range N).map (S a)).flatMap pC).toArray, 29, 2, false⟩, some ⟨(((List.range N).map (S b)).flatMap pC).toArray, 29, 2, false⟩] (vI (slP o.K (V a) (V b) q (S a i) (S b i))) := by
        by_cases h4 : o.K ≤ 4
        · exact tellsSI (sloOI h2 h4 o.A o.B i o.C q (rgBoI false (rgsI V W2 k)) (some ⟨(((List.range N).map (S a)).flatMap pC).toArray, 29, 2, false⟩) (some ⟨(((List.range N).map (S b)).flatMap pC).toArray, 29, 2, false⟩) k k 1 2 N N (a * 3) (b * 3) (V a) (V b) ⟨1, i * 2, none⟩ ⟨2, i * 2, none⟩ (S a i) (S b i))
            (okApp' (okApp' (okApp' (okApp' (okApp' (lgS_ok h2) ⟨ixRI a0 a1 (by rw [haa]), rdRI (l := rgsI V W2 k) (k := a) rfl rfl gA rfl, trivial⟩) ⟨ixRI b0 b1 (by rw [hbb]), rdRI (l := rgsI V W2 k) (k := b) rfl rfl gB rfl, trivial⟩) (lgK_ok h2 h5)) ⟨ixIv (by omega) (by omega) (by simp), rdIv (l := (List.range N).map (S a)) (k := i) rfl rfl (gS _) rfl, trivial⟩) ⟨ixIv (by omega) (by omega) (by simp), rdIv (l := (List.range N).map (S b)) (k := i) rfl rfl (gS _) rfl, trivial⟩)
        · have e5 : o.K = 5 := by omega
          rw [e5] at h2 h5 ⊢
          exact tellsSI (sloOI_5 o.A o.B i o.C q (rgBoI false (rgsI V W2 k)) (some ⟨(((List.range N).map (S a)).flatMap pC).toArray, 29, 2, false⟩) (some ⟨(((List.range N).map (S b)).flatMap pC).toArray, 29, 2, false⟩) k k 1 2 N N (a * 3) (b * 3) (V a) (V b) ⟨1, i * 2, none⟩ ⟨2, i * 2, none⟩ (S a i) (S b i) _)
            (okApp' (okApp' (okApp' (okApp' (okApp' (okApp' (lgS_ok h2) ⟨ixRI a0 a1 (by rw [haa]), rdRI (l := rgsI V W2 k) (k := a) rfl rfl gA rfl, trivial⟩) ⟨ixRI b0 b1 (by rw [hbb]), rdRI (l := rgsI V W2 k) (k := b) rfl rfl gB rfl, trivial⟩) (lgK_ok h2 h5)) ⟨ixIv (by omega) (by omega) (by simp), rdIv (l := (List.range N).map (S a)) (k := i) rfl rfl (gS _) rfl, trivial⟩) ⟨ixIv (by omega) (by omega) (by simp), rdIv (l := (List.range N).map (S b)) (k := i) rfl rfl (gS _) rfl, trivial⟩) ⟨div_ok _ (hr _ hB), trivial⟩)
      obtain ⟨H', r⟩ := hrun
      let ρ : Nat → Nat := fun x => if x = 0 then br else if x = 1 then D a else D b
      refine Runs.view (ρ := ρ) r (fun b B h => ?_) rfl ?_
      · match b, h with
        | 0, h => injection h with h; injection h with h; subst h; rfl
        | 1, h => injection h with h; injection h with h; subst h; rfl
        | 2, h => injection h with h; injection h with h; subst h; rfl
        | n + 3, h => simp at h
      obtain ⟨g1, g2⟩ := relAs_at (z := 3) (ρ := ρ) (l2 := [kdI, opV o.K o.A o.B o.C, .int .i64 (i : Nat), vI q, .slice (some ⟨0, 0, none⟩) k k]) (l1 := [kdI, opV o.K o.A o.B o.C, .int .i64 (i : Nat), vI q, .slice (some ⟨br, 0, none⟩) k k])
        (.cons (.clos kdI_cl) (.cons (.clos rfl) (.cons (.clos rfl) (.cons (.clos rfl) (.cons (.slice 0 br 0 none _ _ _ (by decide) rfl) .nil)))))
      refine rel2 g1 g2 (fun c B2 h => ?_) (fun c c' B2 B2' h h' he => ?_)
      · match c, h with
        | 0, h =>
          injection h with h; injection h with h; subst h
          refine ⟨_, fz_at hlr, RelK.list (relRgsI V W2 (fun j => slV (D j) N) (List.range k) fun j _ => ?_)⟩
          show RelA 3 ρ (if j = a then slV 1 N else if j = b then slV 2 N else anyW) (slV (D j) N)
          by_cases e : j = a
          · rw [if_pos e, e]; exact .slice 1 (D a) 0 none _ _ _ (by decide) rfl
          · rw [if_neg e]
            by_cases e2 : j = b
            · rw [if_pos e2, e2]; exact .slice 2 (D b) 0 none _ _ _ (by decide) rfl
            · rw [if_neg e2]; exact .any _
        | 1, h =>
          injection h with h; injection h with h; subst h
          exact ⟨_, fz_at ea, RelK.plain (plain_flat pC_cl _ _ _ _)⟩
        | 2, h =>
          injection h with h; injection h with h; subst h
          exact ⟨_, fz_at eb, RelK.plain (plain_flat pC_cl _ _ _ _)⟩
        | n + 3, h => simp at h
      · have na := hbr a hA
        have nb := hbr b hB
        have nab : D a ≠ D b := fun h => hab (hD a b hA hB h)
        match c, c', h, h' with
        | 0, 0, _, _ => rfl
        | 1, 1, _, _ => rfl
        | 2, 2, _, _ => rfl
        | 0, 1, _, _ => exact absurd he.symm na
        | 1, 0, _, _ => exact absurd he na
        | 0, 2, _, _ => exact absurd he.symm nb
        | 2, 0, _, _ => exact absurd he nb
        | 1, 2, _, _ => exact absurd he nab
        | 2, 1, _, _ => exact absurd he.symm nab
        | n + 3, _, h, _ => simp at h
        | 0, n + 3, _, h => simp at h
        | 1, n + 3, _, h => simp at h
        | 2, n + 3, _, h => simp at h
end

end Go.Proofs.Ytdlinjijccnaeaa
