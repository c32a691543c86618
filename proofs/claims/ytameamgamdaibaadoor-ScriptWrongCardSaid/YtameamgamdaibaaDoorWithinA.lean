/- What 'within' tells: the remainder from 0 to n - 1; and the ways to take a whole function by questions. -/
import Derived.Test.YtameamgamdaibaaDoorModes
import Derived.Test.YtameamgamdaibaaDoorAbsL
namespace Go.Proofs.YtameamgamdaibaaDoor
open Go
set_option linter.unusedVariables false
set_option maxRecDepth 100000

noncomputable def callD (d : Nat) : FuncId → Array Value → AHeap → Option (Value × AHeap) := callN Tryd.prog base0 q1 fs1 1000 d
noncomputable def orcD (d : Nat) : Orc := { base0 with call := callD d }
noncomputable def askN (ask : FuncId → Nat) (askC : BinOp → Value → Value → Bool) (d : Nat) (f : FuncId) (args : Array Value) (H : AHeap) (s : List Ans) : Option (Value × AHeap × List Obl) :=
  (evFuncL Tryd.prog (orcD d) q1 fs1 ask askC 1000 8 f args H s).map fun r => (r.1, r.2.1, r.2.2.2)

theorem callD_runs {d : Nat} {f : FuncId} {args : Array Value} {H H' : AHeap} {v : Value} (h : callD d f args H = some (v, H')) : Runs Tryd.prog f args H v H' :=
  callN_sound base0_ok mixed0 fs1_ok 1000 d f args H v H' h

theorem askN_runs {ask : FuncId → Nat} {askC : BinOp → Value → Value → Bool} {d : Nat} {f : FuncId} {args : Array Value} {H H' : AHeap} {s : List Ans} {v : Value} {l : List Obl}
    (h : askN ask askC d f args H s = some (v, H', l)) (hl : okAll Tryd.prog l) : Runs Tryd.prog f args H v H' := by
  unfold askN at h
  simp only [Option.map_eq_some_iff] at h
  obtain ⟨⟨v1, H1, s1, l1⟩, h1, h2⟩ := h
  simp only [Prod.mk.injEq] at h2
  obtain ⟨rfl, rfl, rfl⟩ := h2
  exact evN_sound base0_ok mixed0 fs1_ok h1 hl

/-- The memory behind is not told. -/
def Tells (f : FuncId) (args : Array Value) (H : AHeap) (v : Value) : Prop := ∃ H', Runs Tryd.prog f args H v H'

/-- A result and its questions, if there is one. -/
def Came (r : Option (Value × AHeap × List Obl)) (v : Value) (l : List Obl) : Prop := ∃ H', r = some (v, H', l)

theorem tells_of {ask : FuncId → Nat} {askC : BinOp → Value → Value → Bool} {d : Nat} {f : FuncId} {args : Array Value} {H : AHeap} {s : List Ans} {v : Value} {l : List Obl}
    (h : (askN ask askC d f args H s).map (fun r => (r.1, r.2.2)) = some (v, l)) (hl : okAll Tryd.prog l) : Tells f args H v := by
  simp only [Option.map_eq_some_iff] at h
  obtain ⟨⟨v1, H1, l1⟩, h1, h2⟩ := h
  simp only [Prod.mk.injEq] at h2
  obtain ⟨rfl, rfl⟩ := h2
  exact ⟨H1, askN_runs h1 hl⟩

def noF (_ : FuncId) : Nat := 0
def noC (_ : BinOp) (_ _ : Value) : Bool := false
def intC : BinOp → Value → Value → Bool
  | _, .int _ _, _ => true
  | _, _, _ => false
def fltC : BinOp → Value → Value → Bool
  | _, .float _ _, _ => true
  | _, _, _ => false
/-- A number that is less than one above k (the length of what was handed in). -/
def lenC (k : Nat) : BinOp → Value → Value → Bool
  | .lss, .int _ _, .int _ (.ofNat n) => Nat.ble (k + 1) n
  | _, _, _ => false
def yes (c : Bool) : Ans := ⟨fun _ => .bool c, []⟩
def isI (n : Int) : Ans := ⟨fun _ => .int .i64 n, []⟩

end Go.Proofs.YtameamgamdaibaaDoor
