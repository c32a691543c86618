/- Rounds at this seat's program, told by what counts. -/
import Derived.Test.YtameamgamdaibaaDoorGen
import Derived.Test.YtameamgamdaibaaDoorLoop
namespace Go.Proofs.YtameamgamdaibaaDoor
open Go
set_option linter.unusedVariables false
set_option maxRecDepth 100000

theorem rndT_B {n0 : Nat} {ask : FuncId → Nat} {askC : BinOp → Value → Value → Bool} {c : Code} {tm : List Value} {H : AHeap} {s : List Ans} {ls : List (Option LpA)} {e : AExit} {l : List Obl} {lo : List LpO} {α : Type} {g : List Value → AHeap → α} {x : α}
    (h : (rndT ask askC c tm H s ls).map (fun r => (r.1, g r.2.1 r.2.2.1, r.2.2.2)) = some (e, x, l, lo)) (hc : codeOk q1 c = true) (hl : okAll Tryd.prog l) (hlo : ∀ y ∈ lo, LpO.okB Tryd.prog n0 y) :
    ∃ tm1 H1, g tm1 H1 = x ∧ CodeB Tryd.prog n0 c tm H (e, tm1, H1) := by
  simp only [Option.map_eq_some_iff] at h
  obtain ⟨⟨e1, tm1, H1, l1, lo1⟩, h1, h2⟩ := h
  simp only [Prod.mk.injEq] at h2
  obtain ⟨rfl, h3, rfl, rfl⟩ := h2
  unfold rndT at h1
  simp only [Option.map_eq_some_iff] at h1
  obtain ⟨⟨e2, tm2, H2, s2, ls2, l2, lo2⟩, h4, h5⟩ := h1
  simp only [Prod.mk.injEq] at h5
  obtain ⟨rfl, rfl, rfl, rfl, rfl⟩ := h5
  exact ⟨_, _, h3, evT_relB (orcD_ok 12) mixed0 (calT_ok ask askC) 1000 c tm H s ls _ hc h4 hl.all hlo⟩
/-- A round that is told by what counts. -/
theorem rndT_to {n0 : Nat} {ask : FuncId → Nat} {askC : BinOp → Value → Value → Bool} {c : Code} {tm tm2 : List Value} {H H2 : AHeap} {s : List Ans} {e : AExit} {l : List Obl} {K R : List Nat} {sl : Nat × List Value × List (Option (Option ABlk))}
    (h : (rndT ask askC c tm H s []).map (fun r => (r.1, slG K R r.2.1 r.2.2.1, r.2.2.2)) = some (e, sl, l, [])) (hc : codeOk q1 c = true) (hl : okAll Tryd.prog l) (hE : EntOK n0 K R sl tm2 H2) : CodeB Tryd.prog n0 c tm H (e, tm2, H2) := by
  obtain ⟨tm1, H1, h1, h2⟩ := rndT_B (n0 := n0) (g := slG K R) h hc hl (fun y h => by cases h)
  obtain ⟨ρ, hρ⟩ := hE tm1 H1 h1
  exact h2.ren hρ
theorem askT_runsB {ask : FuncId → Nat} {askC : BinOp → Value → Value → Bool} {f : FuncId} {args : Array Value} {H H' : AHeap} {s : List Ans} {ls : List (Option LpA)} {v : Value} {l : List Obl} {lo : List LpO}
    (h : askT ask askC f args H s ls = some (v, H', l, lo)) (hl : okAll Tryd.prog l) (hlo : ∀ x ∈ lo, LpO.okB Tryd.prog H.size x) : Runs Tryd.prog f args H v H' :=
  evFuncT_soundB (orcD_ok 12) mixed0 fs1_ok (calT_ok ask askC) h hl hlo
/-- A function whose loops were answered, told by what counts. -/
theorem askT_to {ask : FuncId → Nat} {askC : BinOp → Value → Value → Bool} {f : FuncId} {args : Array Value} {H : AHeap} {s : List Ans} {ls : List (Option LpA)} {v : Value} {l : List Obl} {k : List (List Nat × List Nat)} {lp : List (Code × (Nat × List Value × List (Option (Option ABlk))) × St)} {α : Type} {g : AHeap → α} {x : α}
    (h : (askT ask askC f args H s ls).map (fun r => (r.1, g r.2.1, r.2.2.1, slL k r.2.2.2)) = some (v, x, l, lp)) (hl : okAll Tryd.prog l) (hlo : LpsOK Tryd.prog H.size k lp) : ∃ H', g H' = x ∧ Runs Tryd.prog f args H v H' := by
  simp only [Option.map_eq_some_iff] at h
  obtain ⟨⟨v1, H1, l1, lo1⟩, h1, h2⟩ := h
  simp only [Prod.mk.injEq] at h2
  obtain ⟨rfl, rfl, rfl, rfl⟩ := h2
  exact ⟨H1, rfl, askT_runsB h1 hl hlo.ok⟩
/-- Of what is left nothing is told. -/
theorem askT_tells {ask : FuncId → Nat} {askC : BinOp → Value → Value → Bool} {f : FuncId} {args : Array Value} {H : AHeap} {s : List Ans} {ls : List (Option LpA)} {v : Value} {l : List Obl} {k : List (List Nat × List Nat)} {lp : List (Code × (Nat × List Value × List (Option (Option ABlk))) × St)}
    (h : (askT ask askC f args H s ls).map (fun r => (r.1, r.2.2.1, slL k r.2.2.2)) = some (v, l, lp)) (hl : okAll Tryd.prog l) (hlo : LpsOK Tryd.prog H.size k lp) : Tells f args H v := by
  simp only [Option.map_eq_some_iff] at h
  obtain ⟨⟨v1, H1, l1, lo1⟩, h1, h2⟩ := h
  simp only [Prod.mk.injEq] at h2
  obtain ⟨rfl, rfl, rfl⟩ := h2
  exact ⟨H1, askT_runsB h1 hl hlo.ok⟩

end Go.Proofs.YtameamgamdaibaaDoor
