/- JcV / JcW: several texts in one. -/
import Derived.Test.YtdlinjijccnaeaaGenB
import Derived.Test.YtdlinjijccnaeaaHget
import Derived.Test.YtdlinjijccnaeaaTpK
import Derived.Test.YtdlinjijccnaeaaApp
/-!  jac: what a register comes to: value and slope of numbers, in any memory. -/
namespace Go.Proofs.Ytdlinjijccnaeaa
open Go
set_option linter.unusedVariables false
set_option linter.unusedSimpArgs false
set_option maxRecDepth 100000

section
variable {P : Program}
/-- A contract about a part of memory, told by other numbers, that reads alone. -/
theorem Runs.view {f : FuncId} {args2 args1 : Array Value} {H2 H3 H1 : AHeap} {v : Value} {ρ : Nat → Nat} (h : Runs P f args2 H2 v H3) (hf : AllFrozen H2) (hv : closN 4 v = true) (hs : RelS 0 ρ args2.toList H2 args1.toList H1) : Runs P f args1 H1 v H1 := by
  intro m w args' hr ha
  have ha2 : VRs (reM H2.size ρ m) args2 args' := by
    have hl : args2.size = args1.size := by simpa using hs.len
    refine ⟨hl.trans ha.1, fun i h1 h2 => ?_⟩
    refine (hs.tmp i args2[i] (args1[i]'(by omega)) ?_ ?_).vr (ha.2 i (by omega) h2)
    · simp [h1]
    · simp [show i < args1.size by omega]
  obtain ⟨h1, h2⟩ := h (reM H2.size ρ m) w args' (hs.hr hr) ha2
  refine ⟨h1, h2.mono ?_⟩
  rintro e w' ⟨v', m', he, hvr, hr', hst⟩
  have hk := fun g (hg : g < w.heap.size) => hst.keep g hg (hf.nofp _)
  exact ⟨v', m, he, hvr.clos_any 4 _ _ hv, hr.same hst.size hk, ⟨.refl m, hst.os, hst.tape, hst.output, hst.size, fun g hg _ => hk g hg, fun g hg => .inl hg⟩⟩
/-- What is left, told by other numbers. -/
theorem Runs.ren {f : FuncId} {args : Array Value} {H H1 H2 : AHeap} {v1 v2 : Value} {ρ : Nat → Nat} (h : Runs P f args H v1 H1) (hs : RelS H.size ρ [v2] H2 [v1] H1) : Runs P f args H v2 H2 := by
  intro m w args' hr ha
  obtain ⟨h1, h2⟩ := h m w args' hr ha
  refine ⟨h1, h2.mono ?_⟩
  rintro e w' ⟨v', m', he, hvr, hr', hst⟩
  have s2 := hs.step hr'
  refine ⟨v', _, he, (hs.tmp 0 _ _ rfl rfl).vr hvr, hs.hr hr', ⟨fun b l hl => ?_, hst.os, hst.tape, hst.output, hst.size, hst.keep, fun g hg => ?_⟩⟩
  · have hb : b < H.size := by rw [← hr.size]; exact (Array.getElem?_eq_some_iff.1 hl).1
    exact s2.ext b l hb (hst.ext b l hl)
  · rcases s2.fp g hg with h | h
    · exact hst.fp g h
    · exact .inr (Nat.le_trans hst.size h)
end

noncomputable def askJv (g : FuncId) : Nat := if [25, 26, 30, 31, 32, 36, 37, 38].contains (g - 1000000) && Nat.ble 1000000 g then 7 else 0
noncomputable def askJs (g : FuncId) : Nat := if [41, 42, 46, 47, 57, 58, 62, 63, 72, 73, 77, 78, 89, 90, 101, 102, 112, 113, 120, 121].contains (g - 1000000) && Nat.ble 1000000 g then 7 else 0
def kdF : Value := .agg #[.func (.func 64) #[] #[], .func (.func 65) #[] #[], .func (.func 66) #[] #[], .func (.func 67) #[] #[], .func (.func 68) #[] #[]]
def anyW : Value := .map none
def kdB : Option ABlk := some ⟨kdF.cells, 65, 0, true⟩
def rg1 (u : Nat) (a0 N : Nat) : Option ABlk := some ⟨#[.float .f64 u, .slice (some ⟨a0, 0, none⟩) N N], 83, 0, true⟩
/-- A register's cells. -/
def rgC (x : Nat × Value) : List Value := [.float .f64 x.1, x.2]
def rgB (l : List (Nat × Value)) : Option ABlk := some ⟨(l.flatMap rgC).toArray, 83, 2, false⟩
noncomputable def lgV (H : List (Option ABlk)) (t1 t2 : TypeId) (x : Value) (A : Int) (p : Addr) (v : Value) : List Obl := [.ex (indexAddrV Try.prog t1 x (.int .i64 A) = some (.pointer (some p))), .ex (readVar Try.prog H.toArray t2 p = some v)]
noncomputable def lgF (H : List (Option ABlk)) (x : Value) (A : Int) (p p' : Addr) (v : Nat) : List Obl :=
  [.ex (indexAddrV Try.prog 80 x (.int .i64 A) = some (.pointer (some p))), .ex (fieldAddrV Try.prog 83 (.pointer (some p)) 0 = some (.pointer (some p'))), .ex (readVar Try.prog H.toArray 27 p' = some (.float .f64 v))]
theorem valC (A B : Int) (C : Nat) : (askN askJv noC 12 69 #[kdF, opV 0 A B C, anyW, anyW] #[] []).map (fun r => (r.1, r.2.2)) = some (.float .f64 C, []) := by kernel_rfl
theorem valV (A B : Int) (C : Nat) (xB : Option ABlk) (n c : Nat) (p : Addr) (v : Nat) : (askN askJv noC 12 69 #[kdF, opV 1 A B C, .slice (some ⟨0, 0, none⟩) n c, anyW] #[xB] [pAnsT p, vAns (.float .f64 v)]).map (fun r => (r.1, r.2.2)) =
  some (.float .f64 v, lgV [xB, kdB, obE 1 A B C] 37 27 (.slice (some ⟨0, 0, none⟩) n c) A p (.float .f64 v)) := by kernel_rfl
def ValO (K : Int) : Prop := ∀ (A B : Int) (C : Nat) (rB : Option ABlk) (n c : Nat) (p p' q q' : Addr) (u v : Nat), (askN askJv noC 12 69 #[kdF, opV K A B C, anyW, .slice (some ⟨0, 0, none⟩) n c] #[rB] [pAnsT p, pAnsT p', vAns (.float .f64 u), pAnsT q, pAnsT q', vAns (.float .f64 v)]).map (fun r => (r.1, r.2.2)) =
  some (.float .f64 (fop (opKd K) .f64 u v), lgF [rB, kdB, obE K A B C] (.slice (some ⟨0, 0, none⟩) n c) A p p' u ++ lgF [rB, kdB, obE K A B C] (.slice (some ⟨0, 0, none⟩) n c) B q q' v)
theorem valO_2 : ValO 2 := fun _ _ _ _ _ _ _ _ _ _ _ _ => by kernel_rfl
theorem valO_3 : ValO 3 := fun _ _ _ _ _ _ _ _ _ _ _ _ => by kernel_rfl
theorem valO_4 : ValO 4 := fun _ _ _ _ _ _ _ _ _ _ _ _ => by kernel_rfl
theorem valO_5 : ValO 5 := fun _ _ _ _ _ _ _ _ _ _ _ _ => by kernel_rfl
theorem sloC (A B i : Int) (C q : Nat) : (askN askJs cmK 12 70 #[kdF, opV 0 A B C, .int .i64 i, .float .f64 q, anyW] #[] [yes false, yes true]).map (fun r => (r.1, r.2.2)) = some (.float .f64 0, [cpO .eql 0 1 false, cpO .eql 0 0 true]) := by kernel_rfl
theorem sloV_t (A B i : Int) (C q : Nat) : (askN askJs cmK 12 70 #[kdF, opV 1 A B C, .int .i64 i, .float .f64 q, anyW] #[] [yes true, yes true]).map (fun r => (r.1, r.2.2)) = some (.float .f64 4607182418800017408, [cpO .eql 1 1 true, cpO .eql A i true]) := by kernel_rfl
theorem sloV_f (A B i : Int) (C q : Nat) : (askN askJs cmK 12 70 #[kdF, opV 1 A B C, .int .i64 i, .float .f64 q, anyW] #[] [yes true, yes false, yes false, yes true]).map (fun r => (r.1, r.2.2)) = some (.float .f64 0, [cpO .eql 1 1 true, cpO .eql A i false, cpO .eql 1 0 false, cpO .eql 1 1 true]) := by kernel_rfl
/-- How a number changes. -/
def slF (K : Int) (u v q x y : Nat) : Nat := if K = 2 then fop .add .f64 x y else if K = 3 then fop .sub .f64 x y else if K = 4 then fop .add .f64 (fop .mul .f64 x v) (fop .mul .f64 u y) else fop .quo .f64 (fop .sub .f64 x (fop .mul .f64 q y)) v
noncomputable def lgS (K : Int) : List Obl := [cpO .eql K 1 false, cpO .eql K 0 false, cpO .eql K 1 false]
noncomputable def lgK (K : Int) : List Obl := if K = 2 then [cpO .eql K 2 true] else if K = 3 then [cpO .eql K 2 false, cpO .eql K 3 true] else if K = 4 then [cpO .eql K 2 false, cpO .eql K 3 false, cpO .eql K 4 true] else [cpO .eql K 2 false, cpO .eql K 3 false, cpO .eql K 4 false]
def anK (K : Int) : List Ans := if K = 2 then [yes true] else if K = 3 then [yes false, yes true] else if K = 4 then [yes false, yes false, yes true] else [yes false, yes false, yes false]
def SloO (K : Int) : Prop := ∀ (A B i : Int) (C q : Nat) (rB dA dB : Option ABlk) (n c a0 b0 N M : Nat) (oA oB : Nat) (u v : Nat) (p1 p2 : Addr) (x y : Nat), (askN askJs cmK 12 70 #[kdF, opV K A B C, .int .i64 i, .float .f64 q, .slice (some ⟨0, 0, none⟩) n c] #[rB, dA, dB]
   ([yes false, yes false, yes false, pAnsT ⟨0, oA, none⟩, vAns (.agg #[.float .f64 u, .slice (some ⟨a0, 0, none⟩) N N]), pAnsT ⟨0, oB, none⟩, vAns (.agg #[.float .f64 v, .slice (some ⟨b0, 0, none⟩) M M])] ++ anK K ++ [pAnsT p1, vAns (.float .f64 x), pAnsT p2, vAns (.float .f64 y)])).map (fun r => (r.1, r.2.2)) =
  some (.float .f64 (slF K u v q x y), lgS K ++ lgV [rB, dA, dB, kdB, obE K A B C, none, none] 80 83 (.slice (some ⟨0, 0, none⟩) n c) A ⟨0, oA, none⟩ (.agg #[.float .f64 u, .slice (some ⟨a0, 0, none⟩) N N]) ++
    lgV [rB, dA, dB, kdB, obE K A B C, none, none] 80 83 (.slice (some ⟨0, 0, none⟩) n c) B ⟨0, oB, none⟩ (.agg #[.float .f64 v, .slice (some ⟨b0, 0, none⟩) M M]) ++ lgK K ++
    lgV [rB, dA, dB, kdB, obE K A B C, rg1 u a0 N, rg1 v b0 M] 37 27 (.slice (some ⟨a0, 0, none⟩) N N) i p1 (.float .f64 x) ++ lgV [rB, dA, dB, kdB, obE K A B C, rg1 u a0 N, rg1 v b0 M] 37 27 (.slice (some ⟨b0, 0, none⟩) M M) i p2 (.float .f64 y))
theorem sloO_2 : SloO 2 := fun _ _ _ _ _ _ _ _ _ _ _ _ _ _ _ _ _ _ _ _ _ _ => by kernel_rfl
theorem sloO_3 : SloO 3 := fun _ _ _ _ _ _ _ _ _ _ _ _ _ _ _ _ _ _ _ _ _ _ => by kernel_rfl
theorem sloO_4 : SloO 4 := fun _ _ _ _ _ _ _ _ _ _ _ _ _ _ _ _ _ _ _ _ _ _ => by kernel_rfl
theorem sloO_5 : SloO 5 := fun _ _ _ _ _ _ _ _ _ _ _ _ _ _ _ _ _ _ _ _ _ _ => by kernel_rfl

end Go.Proofs.Ytdlinjijccnaeaa

/-!  jac: value and slope of numbers in any memory that holds registers. -/
namespace Go.Proofs.Ytdlinjijccnaeaa
open Go
set_option linter.unusedVariables false
set_option linter.unusedSimpArgs false
set_option maxRecDepth 100000

theorem ty_rgs : isSliceB Try.prog 80 83 = true := by kernel_rfl
theorem sz_rg : sizeB Try.prog 83 2 = true := by kernel_rfl
theorem ty_rg : isStructB Try.prog 83 = true := by kernel_rfl
theorem fa_rg (b o : Nat) : fieldAddrV Try.prog 83 (.pointer (some ⟨b, o, none⟩)) 0 = some (.pointer (some ⟨b, o, none⟩)) := by kernel_rfl
theorem ixR {b n c : Nat} {A : Int} (h0 : 0 ≤ A) (h1 : A < n) {o : Nat} (ho : o = A.toNat * 2) : indexAddrV Try.prog 80 (.slice (some ⟨b, 0, none⟩) n c) (.int .i64 A) = some (.pointer (some ⟨b, o, none⟩)) := by
  obtain ⟨i, hi, hz⟩ := sizeB_ex sz_rg
  exact ix_slice (isSliceB_ex ty_rgs) hi hz h0 h1 ho
theorem rdR {H : AHeap} {b k : Nat} {B : ABlk} {l : List (Nat × Value)} {a : Nat × Value} (hb : H[b]? = some (some B)) (hc : B.cells = (l.flatMap rgC).toArray) (hk : l[k]? = some a) {o : Nat} (ho : o = k * 2) : readVar Try.prog H 83 ⟨b, o, none⟩ = some (.agg #[.float .f64 a.1, a.2]) := by
  obtain ⟨fs, hu⟩ := isStructB_ex ty_rg
  obtain ⟨i, hi, hz⟩ := sizeB_ex sz_rg
  exact rd_agg (f := rgC) (fun _ => rfl) hu hi hz hb hc hk ho
theorem rg_get : ∀ (l : List (Nat × Value)) (k : Nat) (a : Nat × Value), l[k]? = some a → (l.flatMap rgC)[k * 2]? = some (.float .f64 a.1)
  | [], k, a, h => by simp at h
  | x :: l, 0, a, h => by
    simp only [List.getElem?_cons_zero, Option.some.injEq] at h
    subst h
    rfl
  | x :: l, k + 1, a, h => by
    rw [List.getElem?_cons_succ] at h
    rw [List.flatMap_cons, List.getElem?_append_right (by simp [rgC]; omega)]
    rw [show (k + 1) * 2 - (rgC x).length = k * 2 by simp [rgC]; omega]
    exact rg_get l k a h
theorem flatIdR (l : List Value) : (l.flatMap fun x => [x]) = l := by induction l with | nil => rfl | cons a l ih => rw [List.flatMap_cons, ih]; rfl
theorem rdRv {H : AHeap} {b k : Nat} {B : ABlk} {l : List (Nat × Value)} {a : Nat × Value} (hb : H[b]? = some (some B)) (hc : B.cells = (l.flatMap rgC).toArray) (hk : l[k]? = some a) {o : Nat} (ho : o = k * 2) : readVar Try.prog H 27 ⟨b, o, none⟩ = some (.float .f64 a.1) :=
  rd_one (g := fun x : Value => x) (isPlainB_ex ty_f) hb (by rw [flatIdR, hc]) (rg_get l k a hk) ho
def rgs (V : Nat → Nat) (W : Nat → Value) (k : Nat) : List (Nat × Value) := (List.range k).map fun j => (V j, W j)
theorem rgs_get (V : Nat → Nat) (W : Nat → Value) {k j : Nat} (h : j < k) : (rgs V W k)[j]? = some (V j, W j) := by
  unfold rgs
  rw [List.getElem?_map, List.getElem?_range h]; rfl
def rgBo (own : Bool) (l : List (Nat × Value)) : Option ABlk := some ⟨(l.flatMap rgC).toArray, 83, 2, own⟩
theorem relRgs {z : Nat} {ρ : Nat → Nat} (V : Nat → Nat) (W2 W1 : Nat → Value) : ∀ (l : List Nat), (∀ j ∈ l, RelA z ρ (W2 j) (W1 j)) → RelAs z ρ ((l.map fun j => (V j, W2 j)).flatMap rgC) ((l.map fun j => (V j, W1 j)).flatMap rgC)
  | [], _ => .nil
  | j :: l, h => .cons (.clos rfl) (.cons (h j (List.mem_cons_self ..)) (relRgs V W2 W1 l fun i hi => h i (List.mem_cons_of_mem _ hi)))
theorem kdF_cl : closN 4 kdF = true := by kernel_rfl

/-- A step of a field, of numbers. -/
def vStep (xs : List Nat) (V : Nat → Nat) (o : OpD) : Nat := stepT (fun c => c) opF (fun i => xs.getD i 0) V o
def sStep (V : Nat → Nat) (S : Nat → Nat → Nat) (q : Nat) (o : OpD) (i : Nat) : Nat :=
  if o.K = 0 then 0 else if o.K = 1 then (if o.A = (i : Int) then 4607182418800017408 else 0) else slF o.K (V o.A.toNat) (V o.B.toNat) q (S o.A.toNat i) (S o.B.toNat i)
/-- The registers' slice. -/
def rvJ (br k : Nat) : Value := if k = 0 then .slice none 0 0 else .slice (some ⟨br, 0, none⟩) k k
theorem rel2 {ρ : Nat → Nat} {H2 H1 : AHeap} {l2 l1 : List Value} (hl : l2.length = l1.length) (ht : ∀ (i : Nat) (v2 v1 : Value), l2[i]? = some v2 → l1[i]? = some v1 → RelA H2.size ρ v2 v1)
    (hb : ∀ (b : Nat) (B2 : ABlk), H2[b]? = some (some B2) → ∃ B1, H1[ρ b]? = some (some B1) ∧ RelK H2.size ρ B2 B1)
    (hi : ∀ (b b' : Nat) (B2 B2' : ABlk), H2[b]? = some (some B2) → H2[b']? = some (some B2') → ρ b = ρ b' → b = b') : RelS 0 ρ l2 H2 l1 H1 :=
  ⟨fun b h => absurd h (Nat.not_lt_zero _), hl, ht, hb, hi⟩
theorem relAs_at {z : Nat} {ρ : Nat → Nat} {l2 l1 : List Value} (h : RelAs z ρ l2 l1) : l2.length = l1.length ∧ ∀ (i : Nat) (v2 v1 : Value), l2[i]? = some v2 → l1[i]? = some v1 → RelA z ρ v2 v1 := by
  induction h with
  | nil => exact ⟨rfl, fun i v2 v1 h => by simp at h⟩
  | cons h t ih =>
    refine ⟨by simp [ih.1], fun i a b ha hb => ?_⟩
    cases i with
    | zero => simp at ha hb; subst ha hb; exact h
    | succ i => simp at ha hb; exact ih.2 i a b ha hb
theorem lgS_ok {K : Int} (h2 : 2 ≤ K) : okAll Try.prog (lgS K) := ⟨(cmp_eqlT _ _).trans (congrArg some (decide_eq_false (by omega))), (cmp_eqlT _ _).trans (congrArg some (decide_eq_false (by omega))), (cmp_eqlT _ _).trans (congrArg some (decide_eq_false (by omega))), trivial⟩
theorem lgK_ok {K : Int} (h2 : 2 ≤ K) (h5 : K ≤ 5) : okAll Try.prog (lgK K) := by
  have e := fun (x : Int) => cmp_eqlT K x
  have : K = 2 ∨ K = 3 ∨ K = 4 ∨ K = 5 := by omega
  rcases this with rfl | rfl | rfl | rfl
  · exact ⟨cmp_eqlT 2 2, trivial⟩
  · exact ⟨cmp_eqlT 3 2, cmp_eqlT 3 3, trivial⟩
  · exact ⟨cmp_eqlT 4 2, cmp_eqlT 4 3, cmp_eqlT 4 4, trivial⟩
  · exact ⟨cmp_eqlT 5 2, cmp_eqlT 5 3, cmp_eqlT 5 4, trivial⟩
theorem valO {K : Int} (h2 : 2 ≤ K) (h5 : K ≤ 5) : ValO K := by
  have : K = 2 ∨ K = 3 ∨ K = 4 ∨ K = 5 := by omega
  rcases this with rfl | rfl | rfl | rfl
  · exact valO_2
  · exact valO_3
  · exact valO_4
  · exact valO_5
theorem sloO {K : Int} (h2 : 2 ≤ K) (h5 : K ≤ 5) : SloO K := by
  have : K = 2 ∨ K = 3 ∨ K = 4 ∨ K = 5 := by omega
  rcases this with rfl | rfl | rfl | rfl
  · exact sloO_2
  · exact sloO_3
  · exact sloO_4
  · exact sloO_5
section
variable {l : List (Option ABlk)}
theorem rn_of {f : FuncId} {args : Array Value} {v : Value} (h : Runs Try.prog f args (froze l.toArray) v (froze l.toArray)) : (rnO f args l v []).ok Try.prog := by
  show Runs _ _ _ _ _ (_ ++ #[])
  rw [Array.append_empty]
  exact h
theorem jval_rn {N k bx br : Nat} {xs : List Nat} {V : Nat → Nat} {W : Nat → Value} {o : OpD} {ow ow2 : Bool} (ho : opOkD k N o) (hx : xs.length = N) (hlx : l[bx]? = some (some ⟨(xs.flatMap fC).toArray, 27, 1, ow⟩)) (hlr : k ≠ 0 → l[br]? = some (rgBo ow2 (rgs V W k))) :
    (rnO 69 #[kdF, opV o.K o.A o.B o.C, slV bx N, rvJ br k] l (.float .f64 (vStep xs V o)) []).ok Try.prog := by
  refine rn_of ?_
  unfold vStep stepT
  rcases ho with h | ⟨h, a0, a1⟩ | ⟨h2, h5, a0, a1, b0, b1⟩
  · rw [if_pos h, h]
    obtain ⟨H', r⟩ := tells_of (valC o.A o.B o.C) trivial
    refine Runs.view (ρ := fun b => b) r (fun b B h => by simp at h) rfl ?_
    obtain ⟨g1, g2⟩ := relAs_at (z := 0) (ρ := fun b => b) (l2 := [kdF, opV 0 o.A o.B o.C, anyW, anyW]) (l1 := [kdF, opV 0 o.A o.B o.C, slV bx N, rvJ br k]) (.cons (.clos kdF_cl) (.cons (.clos rfl) (.cons (.any _) (.cons (.any _) .nil))))
    exact rel2 g1 g2 (fun b B2 h => by simp at h) (fun b b' B2 B2' h => by simp at h)
  · rw [if_neg (by omega), if_pos h, h]
    have hz : xs[o.A.toNat]? = some (xs.getD o.A.toNat 0) := getD_at 0 (by omega)
    obtain ⟨H', r⟩ := tells_of (valV o.A o.B o.C (some ⟨(xs.flatMap fC).toArray, 27, 1, false⟩) N N ⟨0, o.A.toNat, none⟩ (xs.getD o.A.toNat 0))
      ⟨ixF a0 a1 rfl, rdF (B := ⟨(xs.flatMap fC).toArray, 27, 1, false⟩) (l := xs) (k := o.A.toNat) rfl rfl hz rfl, trivial⟩
    refine Runs.view (ρ := fun _ => bx) r (fun b B h => ?_) rfl ?_
    · match b, h with
      | 0, h => injection h with h; injection h with h; subst h; rfl
      | n + 1, h => simp at h
    obtain ⟨g1, g2⟩ := relAs_at (z := 1) (ρ := fun _ => bx) (l2 := [kdF, opV 1 o.A o.B o.C, .slice (some ⟨0, 0, none⟩) N N, anyW]) (l1 := [kdF, opV 1 o.A o.B o.C, slV bx N, rvJ br k]) (.cons (.clos kdF_cl) (.cons (.clos rfl) (.cons (.slice 0 bx 0 none _ _ _ (by decide) rfl) (.cons (.any _) .nil))))
    refine rel2 g1 g2 (fun b B2 h => ?_) (fun b b' B2 B2' h h' _ => ?_)
    · match b, h with
      | 0, h =>
        injection h with h; injection h with h; subst h
        exact ⟨_, fz_at hlx, RelK.plain (plain_flat fC_cl _ _ _ _)⟩
      | n + 1, h => simp at h
    · match b, b', h, h' with
      | 0, 0, _, _ => rfl
      | n + 1, _, h, _ => simp at h
      | 0, n + 1, _, h => simp at h
  · have hk : k ≠ 0 := by omega
    rw [if_neg (by omega), if_neg (by omega)]
    have hlr := hlr hk
    have gA := rgs_get V (fun _ => anyW) (show o.A.toNat < k by omega)
    have gB := rgs_get V (fun _ => anyW) (show o.B.toNat < k by omega)
    obtain ⟨H', r⟩ := tells_of (valO h2 h5 o.A o.B o.C (rgBo false (rgs V (fun _ => anyW) k)) k k ⟨0, o.A.toNat * 2, none⟩ ⟨0, o.A.toNat * 2, none⟩ ⟨0, o.B.toNat * 2, none⟩ ⟨0, o.B.toNat * 2, none⟩ (V o.A.toNat) (V o.B.toNat))
      ⟨ixR a0 a1 rfl, fa_rg _ _, rdRv rfl rfl gA rfl, ixR b0 b1 rfl, fa_rg _ _, rdRv rfl rfl gB rfl, trivial⟩
    unfold opF
    refine Runs.view (ρ := fun _ => br) r (fun b B h => ?_) rfl ?_
    · match b, h with
      | 0, h => injection h with h; injection h with h; subst h; rfl
      | n + 1, h => simp at h
    have er : rvJ br k = .slice (some ⟨br, 0, none⟩) k k := if_neg hk
    rw [er]
    obtain ⟨g1, g2⟩ := relAs_at (z := 1) (ρ := fun _ => br) (l2 := [kdF, opV o.K o.A o.B o.C, anyW, .slice (some ⟨0, 0, none⟩) k k]) (l1 := [kdF, opV o.K o.A o.B o.C, slV bx N, .slice (some ⟨br, 0, none⟩) k k]) (.cons (.clos kdF_cl) (.cons (.clos rfl) (.cons (.any _) (.cons (.slice 0 br 0 none _ _ _ (by decide) rfl) .nil))))
    refine rel2 g1 g2 (fun b B2 h => ?_) (fun b b' B2 B2' h h' _ => ?_)
    · match b, h with
      | 0, h =>
        injection h with h; injection h with h; subst h
        exact ⟨_, fz_at hlr, RelK.list (relRgs V (fun _ => anyW) W (List.range k) fun j _ => .any _)⟩
      | n + 1, h => simp at h
    · match b, b', h, h' with
      | 0, 0, _, _ => rfl
      | n + 1, _, h, _ => simp at h
      | 0, n + 1, _, h => simp at h
theorem slo_rn {N k br : Nat} {V : Nat → Nat} {D : Nat → Nat} {S : Nat → Nat → Nat} {o : OpD} {ow2 : Bool} {i q : Nat} (ho : opOkD k N o) (hi : i < N) (hlr : k ≠ 0 → l[br]? = some (rgBo ow2 (rgs V (fun j => slV (D j) N) k)))
    (hd : ∀ j, j < k → l[D j]? = some (nwF ((List.range N).map (S j)))) (hD : ∀ a b, a < k → b < k → D a = D b → a = b) (hbr : ∀ j, j < k → D j ≠ br) :
    (rnO 70 #[kdF, opV o.K o.A o.B o.C, .int .i64 (i : Nat), .float .f64 q, rvJ br k] l (.float .f64 (sStep V S q o i)) []).ok Try.prog := by
  refine rn_of ?_
  unfold sStep
  have c := fun (x y : Int) (b : Bool) (h : decide (x = y) = b) => (cmp_eqlT x y).trans (congrArg some h)
  rcases ho with h | ⟨h, a0, a1⟩ | ⟨h2, h5, a0, a1, b0, b1⟩
  · rw [if_pos h, h]
    obtain ⟨H', r⟩ := tells_of (sloC o.A o.B i o.C q) ⟨cmp_eqlT 0 1, cmp_eqlT 0 0, trivial⟩
    refine Runs.view (ρ := fun b => b) r (fun b B h => by simp at h) rfl ?_
    obtain ⟨g1, g2⟩ := relAs_at (z := 0) (ρ := fun b => b) (l2 := [kdF, opV 0 o.A o.B o.C, .int .i64 (i : Nat), .float .f64 q, anyW]) (l1 := [kdF, opV 0 o.A o.B o.C, .int .i64 (i : Nat), .float .f64 q, rvJ br k]) (.cons (.clos kdF_cl) (.cons (.clos rfl) (.cons (.clos rfl) (.cons (.clos rfl) (.cons (.any _) .nil)))))
    exact rel2 g1 g2 (fun b B2 h => by simp at h) (fun b b' B2 B2' h => by simp at h)
  · rw [if_neg (by omega), if_pos h, h]
    obtain ⟨g1, g2⟩ := relAs_at (z := 0) (ρ := fun b => b) (l2 := [kdF, opV 1 o.A o.B o.C, .int .i64 (i : Nat), .float .f64 q, anyW]) (l1 := [kdF, opV 1 o.A o.B o.C, .int .i64 (i : Nat), .float .f64 q, rvJ br k]) (.cons (.clos kdF_cl) (.cons (.clos rfl) (.cons (.clos rfl) (.cons (.clos rfl) (.cons (.any _) .nil)))))
    have hs := rel2 (H2 := #[]) (H1 := froze l.toArray) g1 g2 (fun b B2 h => by simp at h) (fun b b' B2 B2' h => by simp at h)
    by_cases e : o.A = (i : Int)
    · rw [if_pos e]
      obtain ⟨H', r⟩ := tells_of (sloV_t o.A o.B i o.C q) ⟨cmp_eqlT 1 1, c _ _ _ (decide_eq_true e), trivial⟩
      exact Runs.view r (fun b B h => by simp at h) rfl hs
    · rw [if_neg e]
      obtain ⟨H', r⟩ := tells_of (sloV_f o.A o.B i o.C q) ⟨cmp_eqlT 1 1, c _ _ _ (decide_eq_false e), cmp_eqlT 1 0, cmp_eqlT 1 1, trivial⟩
      exact Runs.view r (fun b B h => by simp at h) rfl hs
  · have hk : k ≠ 0 := by omega
    rw [if_neg (by omega), if_neg (by omega)]
    have hlr := hlr hk
    have er : rvJ br k = .slice (some ⟨br, 0, none⟩) k k := if_neg hk
    rw [er]
    have hA : o.A.toNat < k := by omega
    have hB : o.B.toNat < k := by omega
    have gS := fun (f : Nat → Nat) => show ((List.range N).map f)[i]? = some (f i) by rw [List.getElem?_map, List.getElem?_range hi]; rfl
    generalize haa : o.A.toNat = a at hA
    generalize hbb : o.B.toNat = b at hB
    have ea := hd a hA
    have eb := hd b hB
    by_cases hab : a = b
    · subst hab
      let W2 : Nat → Value := fun j => if j = a then slV 1 N else anyW
      have gA : (rgs V W2 k)[a]? = some (V a, slV 1 N) := by rw [rgs_get V W2 hA]; simp [W2]
      obtain ⟨H', r⟩ := tells_of (sloO h2 h5 o.A o.B i o.C q (rgBo false (rgs V W2 k)) (some ⟨(((List.range N).map (S a)).flatMap fC).toArray, 27, 1, false⟩) none k k 1 1 N N (a * 2) (a * 2) (V a) (V a) ⟨1, i, none⟩ ⟨1, i, none⟩ (S a i) (S a i))
        (okApp' (okApp' (okApp' (okApp' (okApp' (lgS_ok h2) ⟨ixR a0 a1 (by rw [haa]), rdR (l := rgs V W2 k) (k := a) rfl rfl gA rfl, trivial⟩) ⟨ixR b0 b1 (by rw [hbb]), rdR (l := rgs V W2 k) (k := a) rfl rfl gA rfl, trivial⟩) (lgK_ok h2 h5)) ⟨ixF (by omega) (by omega) (by simp), rdF (l := (List.range N).map (S a)) (k := i) rfl rfl (gS _) rfl, trivial⟩) ⟨ixF (by omega) (by omega) (by simp), rdF (l := (List.range N).map (S a)) (k := i) rfl rfl (gS _) rfl, trivial⟩)
      let ρ : Nat → Nat := fun x => if x = 0 then br else D a
      refine Runs.view (ρ := ρ) r (fun b B h => ?_) rfl ?_
      · match b, h with
        | 0, h => injection h with h; injection h with h; subst h; rfl
        | 1, h => injection h with h; injection h with h; subst h; rfl
        | 2, h => injection h with h; cases h
        | n + 3, h => simp at h
      obtain ⟨g1, g2⟩ := relAs_at (z := 3) (ρ := ρ) (l2 := [kdF, opV o.K o.A o.B o.C, .int .i64 (i : Nat), .float .f64 q, .slice (some ⟨0, 0, none⟩) k k]) (l1 := [kdF, opV o.K o.A o.B o.C, .int .i64 (i : Nat), .float .f64 q, .slice (some ⟨br, 0, none⟩) k k])
        (.cons (.clos kdF_cl) (.cons (.clos rfl) (.cons (.clos rfl) (.cons (.clos rfl) (.cons (.slice 0 br 0 none _ _ _ (by decide) rfl) .nil)))))
      refine rel2 g1 g2 (fun b B2 h => ?_) (fun b b' B2 B2' h h' he => ?_)
      · match b, h with
        | 0, h =>
          injection h with h; injection h with h; subst h
          refine ⟨_, fz_at hlr, RelK.list (relRgs V W2 (fun j => slV (D j) N) (List.range k) fun j _ => ?_)⟩
          show RelA 3 ρ (if j = a then slV 1 N else anyW) (slV (D j) N)
          by_cases e : j = a
          · rw [if_pos e, e]; exact .slice 1 (D a) 0 none _ _ _ (by decide) rfl
          · rw [if_neg e]; exact .any _
        | 1, h =>
          injection h with h; injection h with h; subst h
          exact ⟨_, fz_at ea, RelK.plain (plain_flat fC_cl _ _ _ _)⟩
        | 2, h => injection h with h; cases h
        | n + 3, h => simp at h
      · have nb := hbr a hA
        match b, b', h, h' with
        | 0, 0, _, _ => rfl
        | 1, 1, _, _ => rfl
        | 0, 1, _, _ => exact absurd he.symm nb
        | 1, 0, _, _ => exact absurd he nb
        | 2, _, h, _ => injection h with h; cases h
        | n + 3, _, h, _ => simp at h
        | 0, 2, _, h => injection h with h; cases h
        | 1, 2, _, h => injection h with h; cases h
        | 0, n + 3, _, h => simp at h
        | 1, n + 3, _, h => simp at h
    · let W2 : Nat → Value := fun j => if j = a then slV 1 N else if j = b then slV 2 N else anyW
      have gA : (rgs V W2 k)[a]? = some (V a, slV 1 N) := by rw [rgs_get V W2 hA]; simp [W2]
      have gB : (rgs V W2 k)[b]? = some (V b, slV 2 N) := by rw [rgs_get V W2 hB]; simp [W2, show ¬ b = a from fun h => hab h.symm]
      obtain ⟨H', r⟩ := tells_of (sloO h2 h5 o.A o.B i o.C q (rgBo false (rgs V W2 k)) (some ⟨(((List.range N).map (S a)).flatMap fC).toArray, 27, 1, false⟩) (some ⟨(((List.range N).map (S b)).flatMap fC).toArray, 27, 1, false⟩) k k 1 2 N N (a * 2) (b * 2) (V a) (V b) ⟨1, i, none⟩ ⟨2, i, none⟩ (S a i) (S b i))
        (okApp' (okApp' (okApp' (okApp' (okApp' (lgS_ok h2) ⟨ixR a0 a1 (by rw [haa]), rdR (l := rgs V W2 k) (k := a) rfl rfl gA rfl, trivial⟩) ⟨ixR b0 b1 (by rw [hbb]), rdR (l := rgs V W2 k) (k := b) rfl rfl gB rfl, trivial⟩) (lgK_ok h2 h5)) ⟨ixF (by omega) (by omega) (by simp), rdF (l := (List.range N).map (S a)) (k := i) rfl rfl (gS _) rfl, trivial⟩) ⟨ixF (by omega) (by omega) (by simp), rdF (l := (List.range N).map (S b)) (k := i) rfl rfl (gS _) rfl, trivial⟩)
      let ρ : Nat → Nat := fun x => if x = 0 then br else if x = 1 then D a else D b
      refine Runs.view (ρ := ρ) r (fun b B h => ?_) rfl ?_
      · match b, h with
        | 0, h => injection h with h; injection h with h; subst h; rfl
        | 1, h => injection h with h; injection h with h; subst h; rfl
        | 2, h => injection h with h; injection h with h; subst h; rfl
        | n + 3, h => simp at h
      obtain ⟨g1, g2⟩ := relAs_at (z := 3) (ρ := ρ) (l2 := [kdF, opV o.K o.A o.B o.C, .int .i64 (i : Nat), .float .f64 q, .slice (some ⟨0, 0, none⟩) k k]) (l1 := [kdF, opV o.K o.A o.B o.C, .int .i64 (i : Nat), .float .f64 q, .slice (some ⟨br, 0, none⟩) k k])
        (.cons (.clos kdF_cl) (.cons (.clos rfl) (.cons (.clos rfl) (.cons (.clos rfl) (.cons (.slice 0 br 0 none _ _ _ (by decide) rfl) .nil)))))
      refine rel2 g1 g2 (fun c B2 h => ?_) (fun c c' B2 B2' h h' he => ?_)
      · match c, h with
        | 0, h =>
          injection h with h; injection h with h; subst h
          refine ⟨_, fz_at hlr, RelK.list (relRgs V W2 (fun j => slV (D j) N) (List.range k) fun j _ => ?_)⟩
          show RelA 3 ρ (if j = a then slV 1 N else if j = b then slV 2 N else anyW) (slV (D j) N)
          by_cases e : j = a
          · rw [if_pos e, e]; exact .slice 1 (D a) 0 none _ _ _ (by decide) rfl
          · rw [if_neg e]
            by_cases e2 : j = b
            · rw [if_pos e2, e2]; exact .slice 2 (D b) 0 none _ _ _ (by decide) rfl
            · rw [if_neg e2]; exact .any _
        | 1, h =>
          injection h with h; injection h with h; subst h
          exact ⟨_, fz_at ea, RelK.plain (plain_flat fC_cl _ _ _ _)⟩
        | 2, h =>
          injection h with h; injection h with h; subst h
          exact ⟨_, fz_at eb, RelK.plain (plain_flat fC_cl _ _ _ _)⟩
        | n + 3, h => simp at h
      · have na := hbr a hA
        have nb := hbr b hB
        have nab : D a ≠ D b := fun h => hab (hD a b hA hB h)
        match c, c', h, h' with
        | 0, 0, _, _ => rfl
        | 1, 1, _, _ => rfl
        | 2, 2, _, _ => rfl
        | 0, 1, _, _ => exact absurd he.symm na
        | 1, 0, _, _ => exact absurd he na
        | 0, 2, _, _ => exact absurd he.symm nb
        | 2, 0, _, _ => exact absurd he nb
        | 1, 2, _, _ => exact absurd he nab
        | 2, 1, _, _ => exact absurd he.symm nab
        | n + 3, _, h, _ => simp at h
        | 0, n + 3, _, h => simp at h
        | 1, n + 3, _, h => simp at h
        | 2, n + 3, _, h => simp at h
end

end Go.Proofs.Ytdlinjijccnaeaa
