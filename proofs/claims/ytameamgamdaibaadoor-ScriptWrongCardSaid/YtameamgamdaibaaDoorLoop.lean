/- Loops that are answered, at this seat's program. -/
import Derived.Test.YtameamgamdaibaaDoorAbsL
import Derived.Test.YtameamgamdaibaaDoorWithinA
namespace Go.Proofs.YtameamgamdaibaaDoor
open Go
set_option linter.unusedVariables false
set_option maxRecDepth 100000

noncomputable def calT (ask : FuncId → Nat) (askC : BinOp → Value → Value → Bool) : CallL := evFuncL Tryd.prog (orcD 12) q1 fs1 ask askC 1000 8
theorem orcD_ok (d : Nat) : OrcOK Tryd.prog (orcD d) := ⟨fun f args H v H' hh => callN_sound base0_ok mixed0 fs1_ok 1000 d f args H v H' hh, base0_ok.row, base0_ok.bin⟩
theorem calT_ok (ask : FuncId → Nat) (askC : BinOp → Value → Value → Bool) : CallOK Tryd.prog (calT ask askC) := evFuncL_sound (orcD_ok 12) mixed0 fs1_ok 8
/-- A function whose loops are answered. -/
noncomputable def askT (ask : FuncId → Nat) (askC : BinOp → Value → Value → Bool) (f : FuncId) (args : Array Value) (H : AHeap) (s : List Ans) (ls : List (Option LpA)) : Option (Value × AHeap × List Obl × List LpO) :=
  evFuncT Tryd.prog (orcD 12) q1 fs1 (calT ask askC) ask askC 1000 f args H s ls
theorem askT_runs {ask : FuncId → Nat} {askC : BinOp → Value → Value → Bool} {f : FuncId} {args : Array Value} {H H' : AHeap} {s : List Ans} {ls : List (Option LpA)} {v : Value} {l : List Obl} {lo : List LpO}
    (h : askT ask askC f args H s ls = some (v, H', l, lo)) (hl : okAll Tryd.prog l) (hlo : ∀ x ∈ lo, LpO.ok Tryd.prog (orcD 12) q1 x) : Runs Tryd.prog f args H v H' :=
  evFuncT_sound (orcD_ok 12) mixed0 fs1_ok (calT_ok ask askC) h hl hlo
/-- A piece of code: a loop's body, for a round. -/
noncomputable def rndT (ask : FuncId → Nat) (askC : BinOp → Value → Value → Bool) (c : Code) (tm : List Value) (H : AHeap) (s : List Ans) (ls : List (Option LpA)) : Option (AExit × List Value × AHeap × List Obl × List LpO) :=
  (evT (calT ask askC) Tryd.prog (orcD 12) q1 ask askC 1000 c tm H s ls).map fun r => (r.1, r.2.1, r.2.2.1, r.2.2.2.2.2.1, r.2.2.2.2.2.2)
theorem rndT_rel {ask : FuncId → Nat} {askC : BinOp → Value → Value → Bool} {c : Code} {tm tm' : List Value} {H H' : AHeap} {s : List Ans} {ls : List (Option LpA)} {e : AExit} {l : List Obl} {lo : List LpO}
    (h : rndT ask askC c tm H s ls = some (e, tm', H', l, lo)) (hl : okAll Tryd.prog l) (hlo : ∀ x ∈ lo, LpO.ok Tryd.prog (orcD 12) q1 x) : evR Tryd.prog (Runs Tryd.prog) (orcD 12) q1 c tm H (e, tm', H') := by
  unfold rndT at h
  simp only [Option.map_eq_some_iff] at h
  obtain ⟨⟨e1, tm1, H1, s1, ls1, l1, lo1⟩, h1, h2⟩ := h
  simp only [Prod.mk.injEq] at h2
  obtain ⟨rfl, rfl, rfl, rfl, rfl⟩ := h2
  exact evT_rel (orcD_ok 12) (calT_ok ask askC) 1000 c tm H s ls _ h1 hl.all hlo
/-- The temporaries that count, among them: those behind a round are told only so far. -/
theorem rndT_part {ask : FuncId → Nat} {askC : BinOp → Value → Value → Bool} {c : Code} {tm : List Value} {H H' : AHeap} {s : List Ans} {ls : List (Option LpA)} {e : AExit} {l : List Obl} {α : Type} {g : List Value → α} {x : α}
    (h : (rndT ask askC c tm H s ls).map (fun r => (r.1, g r.2.1, r.2.2)) = some (e, x, H', l, [])) (hl : okAll Tryd.prog l) : ∃ tm', g tm' = x ∧ evR Tryd.prog (Runs Tryd.prog) (orcD 12) q1 c tm H (e, tm', H') := by
  simp only [Option.map_eq_some_iff] at h
  obtain ⟨⟨e1, tm1, H1, l1, lo1⟩, h1, h2⟩ := h
  simp only [Prod.mk.injEq] at h2
  obtain ⟨rfl, h3, rfl, rfl, rfl⟩ := h2
  exact ⟨tm1, h3, rndT_rel h1 hl (fun x h => by cases h)⟩

end Go.Proofs.YtameamgamdaibaaDoor
