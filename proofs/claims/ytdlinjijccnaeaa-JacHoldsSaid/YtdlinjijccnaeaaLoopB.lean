/- Loops that are answered, the from-tos' arithmetic taken as plain functions of words. -/
import Derived.Test.YtdlinjijccnaeaaLoop
import Derived.Test.YtdlinjijccnaeaaIvW
namespace Go.Proofs.Ytdlinjijccnaeaa
open Go
set_option linter.unusedVariables false
set_option maxRecDepth 100000

noncomputable def orcB (d : Nat) : Orc := { base1 with call := callN Try.prog base1 q1 fs1 1000 d }
theorem orcB_ok (d : Nat) : OrcOK Try.prog (orcB d) := ⟨fun f args H v H' hh => callN_sound base1_ok mixed0 fs1_ok 1000 d f args H v H' hh, base1_ok.row, base1_ok.bin⟩
noncomputable def calB (ask : FuncId → Nat) (askC : BinOp → Value → Value → Bool) : CallL := evFuncL Try.prog (orcB 12) q1 fs1 ask askC 1000 8
theorem calB_ok (ask : FuncId → Nat) (askC : BinOp → Value → Value → Bool) : CallOK Try.prog (calB ask askC) := evFuncL_sound (orcB_ok 12) mixed0 fs1_ok 8
noncomputable def askTB (ask : FuncId → Nat) (askC : BinOp → Value → Value → Bool) (f : FuncId) (args : Array Value) (H : AHeap) (s : List Ans) (ls : List (Option LpA)) : Option (Value × AHeap × List Obl × List LpO) :=
  evFuncT Try.prog (orcB 12) q1 fs1 (calB ask askC) ask askC 1000 f args H s ls
theorem askTB_runs {ask : FuncId → Nat} {askC : BinOp → Value → Value → Bool} {f : FuncId} {args : Array Value} {H H' : AHeap} {s : List Ans} {ls : List (Option LpA)} {v : Value} {l : List Obl} {lo : List LpO}
    (h : askTB ask askC f args H s ls = some (v, H', l, lo)) (hl : okAll Try.prog l) (hlo : ∀ x ∈ lo, LpO.ok Try.prog (orcB 12) q1 x) : Runs Try.prog f args H v H' :=
  evFuncT_sound (orcB_ok 12) mixed0 fs1_ok (calB_ok ask askC) h hl hlo
noncomputable def rndB (ask : FuncId → Nat) (askC : BinOp → Value → Value → Bool) (c : Code) (tm : List Value) (H : AHeap) (s : List Ans) (ls : List (Option LpA)) : Option (AExit × List Value × AHeap × List Obl × List LpO) :=
  (evT (calB ask askC) Try.prog (orcB 12) q1 ask askC 1000 c tm H s ls).map fun r => (r.1, r.2.1, r.2.2.1, r.2.2.2.2.2.1, r.2.2.2.2.2.2)
theorem rndB_rel {ask : FuncId → Nat} {askC : BinOp → Value → Value → Bool} {c : Code} {tm tm' : List Value} {H H' : AHeap} {s : List Ans} {ls : List (Option LpA)} {e : AExit} {l : List Obl} {lo : List LpO}
    (h : rndB ask askC c tm H s ls = some (e, tm', H', l, lo)) (hl : okAll Try.prog l) (hlo : ∀ x ∈ lo, LpO.ok Try.prog (orcB 12) q1 x) : evR Try.prog (Runs Try.prog) (orcB 12) q1 c tm H (e, tm', H') := by
  unfold rndB at h
  simp only [Option.map_eq_some_iff] at h
  obtain ⟨⟨e1, tm1, H1, s1, ls1, l1, lo1⟩, h1, h2⟩ := h
  simp only [Prod.mk.injEq] at h2
  obtain ⟨rfl, rfl, rfl, rfl, rfl⟩ := h2
  exact evT_rel (orcB_ok 12) (calB_ok ask askC) 1000 c tm H s ls _ h1 hl.all hlo
/-- A round, of what is left that which counts. -/
theorem rndB_part {ask : FuncId → Nat} {askC : BinOp → Value → Value → Bool} {c : Code} {tm : List Value} {H : AHeap} {s : List Ans} {ls : List (Option LpA)} {e : AExit} {l : List Obl} {α : Type} {g : List Value → AHeap → α} {x : α}
    (h : (rndB ask askC c tm H s ls).map (fun r => (r.1, g r.2.1 r.2.2.1, r.2.2.2)) = some (e, x, l, [])) (hl : okAll Try.prog l) : ∃ tm' H', g tm' H' = x ∧ evR Try.prog (Runs Try.prog) (orcB 12) q1 c tm H (e, tm', H') := by
  simp only [Option.map_eq_some_iff] at h
  obtain ⟨⟨e1, tm1, H1, l1, lo1⟩, h1, h2⟩ := h
  simp only [Prod.mk.injEq] at h2
  obtain ⟨rfl, h3, rfl, rfl⟩ := h2
  exact ⟨tm1, H1, h3, rndB_rel h1 hl (fun x h => by cases h)⟩

end Go.Proofs.Ytdlinjijccnaeaa
