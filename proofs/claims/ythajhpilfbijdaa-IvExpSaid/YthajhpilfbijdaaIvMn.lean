/- IvMany: its loop, a round; and the run about it. -/
import Derived.Test.YthajhpilfbijdaaGenB
import Derived.Test.YthajhpilfbijdaaSlices
namespace Go.Proofs.Ythajhpilfbijdaa
open Go
set_option linter.unusedVariables false
set_option linter.unusedSimpArgs false
set_option maxRecDepth 100000

noncomputable def askMn (g : FuncId) : Nat := if [16, 17, 31, 18].contains g then 1 else
  if [1000026, 1000027, 1000029, 1000031, 1000033, 1000036, 1000023, 1000043, 1000049, 1000061, 1000063, 1000068].contains g then 7 else 0
def cmMn : BinOp → Value → Value → Bool
  | .lss, .int _ _, _ => true
  | .gtr, .int _ _, _ => true
  | .eql, .int _ _, _ => true
  | .lss, .float _ _, _ => true
  | _, _, _ => false
noncomputable def bodyMn : Code := bodyG Try.prog 6 0
def ivB (X : P2) : Option ABlk := some ⟨#[.float .f64 X.1, .float .f64 X.2], 26, 0, true⟩
def pt (b : Nat) : Value := .pointer (some ⟨b, 0, none⟩)
def vA (v : Value) : Ans := ⟨fun _ => v, []⟩
def LMn (va : Value) (i sum pr : Int) : List (Nat × Value) := [(0, va), (3, pt 1), (4, pt 2), (5, .int .i64 sum), (6, .int .i64 pr), (7, .int .i64 i)]
def HMn (o : Option ABlk) (s p : P2) : List (Option ABlk) := [o, ivB s, ivB p]
structure RnMn where
  px : Addr
  z : Int
  w : Int
  k : Int
  fk : Nat
  r2 : Int
  sum : Int
  pr : Int
  i : Int
def stMn (ev : Bool) (sm : Nat) (r : RnMn) : List Ans :=
  [yes true, yes true, vA (.pointer (some r.px)), isI r.z, isI r.w, isI r.k, vA (.float .f64 r.fk), vA (.float .f64 r.fk), vA (vI (r.fk, r.fk)), isI r.r2, yes ev, isI r.sum] ++ (if sm = 0 then [yes true, yes true, isI r.pr] else if sm = 1 then [yes false] else [yes true, yes false]) ++ [isI r.i]
noncomputable def cpI (op : BinOp) (a b : Int) (c : Bool) : Obl := .cmp op 3 (.int .i64 a) (.int .i64 b) c
noncomputable def arI (op : BinOp) (a b c : Int) : Obl := .ex (pureV Try.prog (binOp op 3 (.int .i64 a) (.int .i64 b)) = some (.int .i64 c))
noncomputable def cvI (c : Int) (f : Nat) : Obl := .ex (convV Try.prog 3 24 (.int .i64 c) = some (.float .f64 f))
noncomputable def qI (f : FuncId) (args : Array Value) (v : Value) : Obl := .run f args #[] v #[]
noncomputable def soMn (H : List (Option ABlk)) (va : Value) (nr : Nat) (ev : Bool) (sm : Nat) (i sum pr : Int) (r : RnMn) : List Obl :=
  [cpI .lss i nr true, cpI .lss i 40 true, .ex (indexAddrV Try.prog 38 va (.int .i64 i) = some (.pointer (some r.px))), .ex (readVar Try.prog H.toArray 3 r.px = some (.int .i64 r.z)), qI 17 #[.int .i64 r.z, .int .i64 (Int.ofNat 2001)] (.int .i64 r.w),
   arI .sub r.w 1000 r.k, cvI r.k r.fk, cvI r.k r.fk, qI 31 #[.float .f64 r.fk, .float .f64 r.fk] (vI (r.fk, r.fk)), arI .rem i 2 r.r2, cpI .eql r.r2 0 ev, arI (if ev then .add else .sub) sum r.k r.sum] ++
  (if sm = 0 then [cpI .lss pr 1099511627776 true, cpI .gtr pr (-1099511627776) true, arI .mul pr r.k r.pr] else if sm = 1 then [cpI .lss pr 1099511627776 false] else [cpI .lss pr 1099511627776 true, cpI .gtr pr (-1099511627776) false]) ++ [arI .add i 1 r.i]
def opMn (ev : Bool) (s : P2) (f : Nat) : P2 := if ev then addP s (f, f) else subP s (f, f)
def RdMn (ev : Bool) (sm : Nat) : Prop := ∀ (o : Option ABlk) (ar : Option Addr) (nr cr : Nat) (i sum pr : Int) (s p : P2) (r : RnMn),
  (rndB askMn cmMn bodyMn (tmA 80 (LMn (.slice ar nr cr) i sum pr)) (HMn o s p).toArray (stMn ev sm r) []).map (fun r => (r.1, slA [0, 3, 4, 5, 6, 7] [0, 1, 2] r.2.1 r.2.2.1, r.2.2.2)) =
    some (.normal, (80, [.slice ar nr cr, pt 1, pt 2, .int .i64 r.sum, .int .i64 (if sm = 0 then r.pr else pr), .int .i64 r.i], [some o, some (ivB (opMn ev s r.fk)), some (ivB (if sm = 0 then mulP p (r.fk, r.fk) else p))]),
      soMn (HMn o s p) (.slice ar nr cr) nr ev sm i sum pr r, [])
theorem rdMn_t0 : RdMn true 0 := fun _ _ _ _ _ _ _ _ _ _ => by kernel_rfl
theorem rdMn_t1 : RdMn true 1 := fun _ _ _ _ _ _ _ _ _ _ => by kernel_rfl
theorem rdMn_t2 : RdMn true 2 := fun _ _ _ _ _ _ _ _ _ _ => by kernel_rfl
theorem rdMn_f0 : RdMn false 0 := fun _ _ _ _ _ _ _ _ _ _ => by kernel_rfl
theorem rdMn_f1 : RdMn false 1 := fun _ _ _ _ _ _ _ _ _ _ => by kernel_rfl
theorem rdMn_f2 : RdMn false 2 := fun _ _ _ _ _ _ _ _ _ _ => by kernel_rfl
def RdMnEnd (e : Bool) : Prop := ∀ (o : Option ABlk) (ar : Option Addr) (nr cr : Nat) (i sum pr : Int) (s p : P2),
  (rndB askMn cmMn bodyMn (tmA 80 (LMn (.slice ar nr cr) i sum pr)) (HMn o s p).toArray (if e then [yes true, yes false] else [yes false]) []).map (fun r => (r.1, slA [0, 3, 4, 5, 6, 7] [0, 1, 2] r.2.1 r.2.2.1, r.2.2.2)) =
    some (.exit 0, (80, [.slice ar nr cr, pt 1, pt 2, .int .i64 sum, .int .i64 pr, .int .i64 i], [some o, some (ivB s), some (ivB p)]), if e then [cpI .lss i nr true, cpI .lss i 40 false] else [cpI .lss i nr false], [])
theorem rdMnEnd_t : RdMnEnd true := fun _ _ _ _ _ _ _ _ _ => by kernel_rfl
theorem rdMnEnd_f : RdMnEnd false := fun _ _ _ _ _ _ _ _ _ => by kernel_rfl
theorem okMn : codeOk q1 bodyMn = true := by kernel_rfl
theorem runMn (o : Option ABlk) (ar : Option Addr) (nr cr : Nat) (i sum pr : Int) (s p : P2) (fs fp : Nat) :
  (askTB askMn cmMn 6 #[.slice ar nr cr] #[o] [yes true, vA (vI (0, 0)), vA (vI (4607182418800017408, 4607182418800017408)), vA (.float .f64 fs), yes true, vA (.float .f64 fp), yes true, yes true]
    [some ⟨.exit 0, tmA 80 (LMn (.slice ar nr cr) i sum pr), (HMn o s p).toArray⟩]).map (fun r => (r.1, r.2.2.1, slL [([0, 3, 4, 5, 6, 7], [0, 1, 2])] r.2.2.2)) =
  some (.bool true, [qI 16 #[] (.bool true), qI 31 #[.float .f64 0, .float .f64 0] (vI (0, 0)), qI 31 #[.float .f64 4607182418800017408, .float .f64 4607182418800017408] (vI (4607182418800017408, 4607182418800017408)),
      cvI sum fs, qI 18 #[.float .f64 fs, vI s] (.bool true), cvI pr fp, qI 18 #[.float .f64 fp, vI p] (.bool true), .cmp .lss 24 (.float .f64 (fop .sub .f64 s.2 s.1)) (.float .f64 4517329193108106637) true],
    [(bodyMn, (80, [.slice ar nr cr, pt 1, pt 2, .int .i64 0, .int .i64 1, .int .i64 0], [some o, some (ivB (0, 0)), some (ivB (4607182418800017408, 4607182418800017408))]), (.exit 0, tmA 80 (LMn (.slice ar nr cr) i sum pr), (HMn o s p).toArray))]) := by kernel_rfl

end Go.Proofs.Ythajhpilfbijdaa
