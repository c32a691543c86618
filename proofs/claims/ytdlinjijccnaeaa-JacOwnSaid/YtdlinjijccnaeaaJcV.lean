/- jac: what a register comes to: value and slope of numbers, in any memory. -/
import Derived.Test.YtdlinjijccnaeaaGenB
import Derived.Test.YtdlinjijccnaeaaHget
import Derived.Test.YtdlinjijccnaeaaTpK
namespace Go.Proofs.Ytdlinjijccnaeaa
open Go
set_option linter.unusedVariables false
set_option linter.unusedSimpArgs false
set_option maxRecDepth 100000

section
variable {P : Program}
/-- A contract about a part of memory, told by other numbers, that reads alone. -/
theorem Runs.view {f : FuncId} {args2 args1 : Array Value} {H2 H3 H1 : AHeap} {v : Value} {ρ : Nat → Nat} (h : Runs P f args2 H2 v H3) (hf : AllFrozen H2) (hv : closN 4 v = true) (hs : RelS 0 ρ args2.toList H2 args1.toList H1) : Runs P f args1 H1 v H1 := by
  intro m w args' hr ha
  have ha2 : VRs (reM H2.size ρ m) args2 args' := by
    have hl : args2.size = args1.size := by simpa using hs.len
    refine ⟨hl.trans ha.1, fun i h1 h2 => ?_⟩
    refine (hs.tmp i args2[i] (args1[i]'(by omega)) ?_ ?_).vr (ha.2 i (by omega) h2)
    · simp [h1]
    · simp [show i < args1.size by omega]
  obtain ⟨h1, h2⟩ := h (reM H2.size ρ m) w args' (hs.hr hr) ha2
  refine ⟨h1, h2.mono ?_⟩
  rintro e w' ⟨v', m', he, hvr, hr', hst⟩
  have hk := fun g (hg : g < w.heap.size) => hst.keep g hg (hf.nofp _)
  exact ⟨v', m, he, hvr.clos_any 4 _ _ hv, hr.same hst.size hk, ⟨.refl m, hst.os, hst.tape, hst.output, hst.size, fun g hg _ => hk g hg, fun g hg => .inl hg⟩⟩
/-- What is left, told by other numbers. -/
theorem Runs.ren {f : FuncId} {args : Array Value} {H H1 H2 : AHeap} {v1 v2 : Value} {ρ : Nat → Nat} (h : Runs P f args H v1 H1) (hs : RelS H.size ρ [v2] H2 [v1] H1) : Runs P f args H v2 H2 := by
  intro m w args' hr ha
  obtain ⟨h1, h2⟩ := h m w args' hr ha
  refine ⟨h1, h2.mono ?_⟩
  rintro e w' ⟨v', m', he, hvr, hr', hst⟩
  have s2 := hs.step hr'
  refine ⟨v', _, he, (hs.tmp 0 _ _ rfl rfl).vr hvr, hs.hr hr', ⟨fun b l hl => ?_, hst.os, hst.tape, hst.output, hst.size, hst.keep, fun g hg => ?_⟩⟩
  · have hb : b < H.size := by rw [← hr.size]; exact (Array.getElem?_eq_some_iff.1 hl).1
    exact s2.ext b l hb (hst.ext b l hl)
  · rcases s2.fp g hg with h | h
    · exact hst.fp g h
    · exact .inr (Nat.le_trans hst.size h)
end

noncomputable def askJv (g : FuncId) : Nat := if [25, 26, 30, 31, 32, 36, 37, 38].contains (g - 1000000) && Nat.ble 1000000 g then 7 else 0
noncomputable def askJs (g : FuncId) : Nat := if [41, 42, 46, 47, 57, 58, 62, 63, 72, 73, 77, 78, 89, 90, 101, 102, 112, 113, 120, 121].contains (g - 1000000) && Nat.ble 1000000 g then 7 else 0
def kdF : Value := .agg #[.func (.func 64) #[] #[], .func (.func 65) #[] #[], .func (.func 66) #[] #[], .func (.func 67) #[] #[], .func (.func 68) #[] #[]]
def anyW : Value := .map none
def kdB : Option ABlk := some ⟨kdF.cells, 65, 0, true⟩
def rg1 (u : Nat) (a0 N : Nat) : Option ABlk := some ⟨#[.float .f64 u, .slice (some ⟨a0, 0, none⟩) N N], 83, 0, true⟩
/-- A register's cells. -/
def rgC (x : Nat × Value) : List Value := [.float .f64 x.1, x.2]
def rgB (l : List (Nat × Value)) : Option ABlk := some ⟨(l.flatMap rgC).toArray, 83, 2, false⟩
noncomputable def lgV (H : List (Option ABlk)) (t1 t2 : TypeId) (x : Value) (A : Int) (p : Addr) (v : Value) : List Obl := [.ex (indexAddrV Try.prog t1 x (.int .i64 A) = some (.pointer (some p))), .ex (readVar Try.prog H.toArray t2 p = some v)]
noncomputable def lgF (H : List (Option ABlk)) (x : Value) (A : Int) (p p' : Addr) (v : Nat) : List Obl :=
  [.ex (indexAddrV Try.prog 80 x (.int .i64 A) = some (.pointer (some p))), .ex (fieldAddrV Try.prog 83 (.pointer (some p)) 0 = some (.pointer (some p'))), .ex (readVar Try.prog H.toArray 27 p' = some (.float .f64 v))]
theorem valC (A B : Int) (C : Nat) : (askN askJv noC 12 69 #[kdF, opV 0 A B C, anyW, anyW] #[] []).map (fun r => (r.1, r.2.2)) = some (.float .f64 C, []) := by kernel_rfl
theorem valV (A B : Int) (C : Nat) (xB : Option ABlk) (n c : Nat) (p : Addr) (v : Nat) : (askN askJv noC 12 69 #[kdF, opV 1 A B C, .slice (some ⟨0, 0, none⟩) n c, anyW] #[xB] [pAnsT p, vAns (.float .f64 v)]).map (fun r => (r.1, r.2.2)) =
  some (.float .f64 v, lgV [xB, kdB, obE 1 A B C] 37 27 (.slice (some ⟨0, 0, none⟩) n c) A p (.float .f64 v)) := by kernel_rfl
def ValO (K : Int) : Prop := ∀ (A B : Int) (C : Nat) (rB : Option ABlk) (n c : Nat) (p p' q q' : Addr) (u v : Nat), (askN askJv noC 12 69 #[kdF, opV K A B C, anyW, .slice (some ⟨0, 0, none⟩) n c] #[rB] [pAnsT p, pAnsT p', vAns (.float .f64 u), pAnsT q, pAnsT q', vAns (.float .f64 v)]).map (fun r => (r.1, r.2.2)) =
  some (.float .f64 (fop (opKd K) .f64 u v), lgF [rB, kdB, obE K A B C] (.slice (some ⟨0, 0, none⟩) n c) A p p' u ++ lgF [rB, kdB, obE K A B C] (.slice (some ⟨0, 0, none⟩) n c) B q q' v)
theorem valO_2 : ValO 2 := fun _ _ _ _ _ _ _ _ _ _ _ _ => by kernel_rfl
theorem valO_3 : ValO 3 := fun _ _ _ _ _ _ _ _ _ _ _ _ => by kernel_rfl
theorem valO_4 : ValO 4 := fun _ _ _ _ _ _ _ _ _ _ _ _ => by kernel_rfl
theorem valO_5 : ValO 5 := fun _ _ _ _ _ _ _ _ _ _ _ _ => by kernel_rfl
theorem sloC (A B i : Int) (C q : Nat) : (askN askJs cmK 12 70 #[kdF, opV 0 A B C, .int .i64 i, .float .f64 q, anyW] #[] [yes false, yes true]).map (fun r => (r.1, r.2.2)) = some (.float .f64 0, [cpO .eql 0 1 false, cpO .eql 0 0 true]) := by kernel_rfl
theorem sloV_t (A B i : Int) (C q : Nat) : (askN askJs cmK 12 70 #[kdF, opV 1 A B C, .int .i64 i, .float .f64 q, anyW] #[] [yes true, yes true]).map (fun r => (r.1, r.2.2)) = some (.float .f64 4607182418800017408, [cpO .eql 1 1 true, cpO .eql A i true]) := by kernel_rfl
theorem sloV_f (A B i : Int) (C q : Nat) : (askN askJs cmK 12 70 #[kdF, opV 1 A B C, .int .i64 i, .float .f64 q, anyW] #[] [yes true, yes false, yes false, yes true]).map (fun r => (r.1, r.2.2)) = some (.float .f64 0, [cpO .eql 1 1 true, cpO .eql A i false, cpO .eql 1 0 false, cpO .eql 1 1 true]) := by kernel_rfl
/-- How a number changes. -/
def slF (K : Int) (u v q x y : Nat) : Nat := if K = 2 then fop .add .f64 x y else if K = 3 then fop .sub .f64 x y else if K = 4 then fop .add .f64 (fop .mul .f64 x v) (fop .mul .f64 u y) else fop .quo .f64 (fop .sub .f64 x (fop .mul .f64 q y)) v
noncomputable def lgS (K : Int) : List Obl := [cpO .eql K 1 false, cpO .eql K 0 false, cpO .eql K 1 false]
noncomputable def lgK (K : Int) : List Obl := if K = 2 then [cpO .eql K 2 true] else if K = 3 then [cpO .eql K 2 false, cpO .eql K 3 true] else if K = 4 then [cpO .eql K 2 false, cpO .eql K 3 false, cpO .eql K 4 true] else [cpO .eql K 2 false, cpO .eql K 3 false, cpO .eql K 4 false]
def anK (K : Int) : List Ans := if K = 2 then [yes true] else if K = 3 then [yes false, yes true] else if K = 4 then [yes false, yes false, yes true] else [yes false, yes false, yes false]
def SloO (K : Int) : Prop := ∀ (A B i : Int) (C q : Nat) (rB dA dB : Option ABlk) (n c a0 b0 N M : Nat) (oA oB : Nat) (u v : Nat) (p1 p2 : Addr) (x y : Nat), (askN askJs cmK 12 70 #[kdF, opV K A B C, .int .i64 i, .float .f64 q, .slice (some ⟨0, 0, none⟩) n c] #[rB, dA, dB]
   ([yes false, yes false, yes false, pAnsT ⟨0, oA, none⟩, vAns (.agg #[.float .f64 u, .slice (some ⟨a0, 0, none⟩) N N]), pAnsT ⟨0, oB, none⟩, vAns (.agg #[.float .f64 v, .slice (some ⟨b0, 0, none⟩) M M])] ++ anK K ++ [pAnsT p1, vAns (.float .f64 x), pAnsT p2, vAns (.float .f64 y)])).map (fun r => (r.1, r.2.2)) =
  some (.float .f64 (slF K u v q x y), lgS K ++ lgV [rB, dA, dB, kdB, obE K A B C, none, none] 80 83 (.slice (some ⟨0, 0, none⟩) n c) A ⟨0, oA, none⟩ (.agg #[.float .f64 u, .slice (some ⟨a0, 0, none⟩) N N]) ++
    lgV [rB, dA, dB, kdB, obE K A B C, none, none] 80 83 (.slice (some ⟨0, 0, none⟩) n c) B ⟨0, oB, none⟩ (.agg #[.float .f64 v, .slice (some ⟨b0, 0, none⟩) M M]) ++ lgK K ++
    lgV [rB, dA, dB, kdB, obE K A B C, rg1 u a0 N, rg1 v b0 M] 37 27 (.slice (some ⟨a0, 0, none⟩) N N) i p1 (.float .f64 x) ++ lgV [rB, dA, dB, kdB, obE K A B C, rg1 u a0 N, rg1 v b0 M] 37 27 (.slice (some ⟨b0, 0, none⟩) M M) i p2 (.float .f64 y))
theorem sloO_2 : SloO 2 := fun _ _ _ _ _ _ _ _ _ _ _ _ _ _ _ _ _ _ _ _ _ _ => by kernel_rfl
theorem sloO_3 : SloO 3 := fun _ _ _ _ _ _ _ _ _ _ _ _ _ _ _ _ _ _ _ _ _ _ => by kernel_rfl
theorem sloO_4 : SloO 4 := fun _ _ _ _ _ _ _ _ _ _ _ _ _ _ _ _ _ _ _ _ _ _ => by kernel_rfl
theorem sloO_5 : SloO 5 := fun _ _ _ _ _ _ _ _ _ _ _ _ _ _ _ _ _ _ _ _ _ _ => by kernel_rfl

end Go.Proofs.Ytdlinjijccnaeaa
