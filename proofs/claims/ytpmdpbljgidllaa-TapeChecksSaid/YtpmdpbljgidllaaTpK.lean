/- What laws of fields have in common: their memory, what they ask for. -/
import Derived.Test.YtpmdpbljgidllaaTpLz
import Derived.Test.YtpmdpbljgidllaaSlices
namespace Go.Proofs.Ytpmdpbljgidllaa
open Go
set_option linter.unusedVariables false
set_option linter.unusedSimpArgs false
set_option maxRecDepth 100000

/-- A call that is asked for, in a memory that is not to be written; one that hangs on its arguments alone. -/
noncomputable def rnO (f : FuncId) (args : Array Value) (H : List (Option ABlk)) (v : Value) (bs : List (Option ABlk)) : Obl := .run f args (froze H.toArray) v (froze H.toArray ++ bs.toArray)
noncomputable def qtO (f : FuncId) (args : Array Value) (v : Value) : Obl := .run f args #[] v #[]
def cAns (v : Nat → Value) (bs : List (Option ABlk)) : Ans := ⟨v, bs⟩
def opB (co : Array Value) : Option ABlk := some ⟨co, 32, 4, true⟩
def iB (cu : Array Value) : Option ABlk := some ⟨cu, 3, 1, true⟩
/-- The blocks of a field that was made, the first new one at s. -/
def tpA (N M : Nat) (co cu : Array Value) : Ans := cAns (fun s => tpV s (s + 1) N M) [opB co, iB cu]
def tcB (s N M : Nat) : Option ABlk := some ⟨#[.int .i64 N, .slice (some ⟨s, 0, none⟩) M M, .slice (some ⟨s + 1, 0, none⟩) N N], 25, 0, true⟩
def rwA (N : Nat) (f : Nat → Nat) : Ans := cAns (fun s => .slice (some ⟨s, 0, none⟩) N N) [nwF ((List.range N).map f)]
def slV (b N : Nat) : Value := .slice (some ⟨b, 0, none⟩) N N
/-- A block of a list, in a memory that is not to be written. -/
theorem fz_at {l : List (Option ABlk)} {i : Nat} {B : ABlk} (h : l[i]? = some (some B)) : (froze l.toArray)[i]? = some (some { B with own := false }) := by
  unfold froze
  simp only [List.getElem?_toArray, List.getElem?_map, h]
  rfl
theorem fz_size (l : List (Option ABlk)) : (froze l.toArray).size = l.length := by simp [froze]
theorem Handed.list {l : List (Option ABlk)} {zs : List Int} {v : Value} (h : Handed l.toArray zs v) (c : List (Option ABlk)) : Handed (Go.Proofs.Ytpmdpbljgidllaa.froze (l ++ c).toArray) zs v := by
  have := (h.app c.toArray).froze
  rwa [List.append_toArray] at this
theorem quiet_rn {f : FuncId} {args : Array Value} {v : Value} (h : Runs Try.prog f args #[] v #[]) (ha : closA args = true) (hv : closN 4 v = true) (H : List (Option ABlk)) : (rnO f args H v []).ok Try.prog := by
  have := h.quiet ha hv (froze H.toArray)
  show Runs _ _ _ _ _ (_ ++ #[])
  rw [Array.append_empty]
  exact this
/-- A slice of ints that was handed in, by its parts. -/
theorem Handed.parts {H : AHeap} {zs : List Int} {v : Value} (h : Handed H zs v) : ∃ a c, v = .slice a zs.length c := by
  rcases h with ⟨rfl, rfl⟩ | ⟨b, B, _, rfl, _, _⟩
  · exact ⟨_, _, rfl⟩
  · exact ⟨_, _, rfl⟩
theorem Handed.get {H : AHeap} {zs : List Int} {v : Value} (h : Handed H zs v) {i : Nat} (hi : i < zs.length) : ∃ p, indexAddrV Try.prog 23 v (.int .i64 (Int.ofNat i)) = some (.pointer (some p)) ∧ ∀ c : AHeap, readVar Try.prog (H ++ c) 3 p = some (.int .i64 (zs.getD i 0)) := by
  rcases h with ⟨rfl, rfl⟩ | ⟨b, B, _, rfl, hb, hc⟩
  · simp at hi
  · refine ⟨⟨b, i, none⟩, ixI (by simp) (by simpa using hi) rfl, fun c => rdI (B := B) (l := zs) (k := i) ?_ (by rw [hc, iC_map]) ?_ rfl⟩
    · rw [Array.getElem?_append_left (Array.getElem?_eq_some_iff.1 hb).1]; exact hb
    · rw [List.getD_eq_getElem?_getD, List.getElem?_eq_getElem hi]; rfl
section
variable {l : List (Option ABlk)}
theorem make_rn (n : Int) {zs : List Int} (dv : Bool) {va : Value} (hh : Handed (froze l.toArray) zs va) {N M s : Nat} (hN : mkN n = N) (hM : mkM n zs = M) (hs : s = l.length) :
    (rnO 14 #[.int .i64 n, va, .bool dv] l (tpV s (s + 1) N M) [opB (opsB (mkOps n zs dv) true).cells, iB (intB (mkOut n (mkM n zs)) true).cells]).ok Try.prog := by
  have := make_in n zs dv (froze_all l.toArray) hh
  rw [fz_size] at this
  subst hN hM hs
  exact this
theorem val_rn {N : Nat} (h1 : 1 ≤ N) (h2 : N ≤ 4) {ms : List Int} {va : Value} (hh : Handed (froze l.toArray) ms va) {s : Nat} (hs : s = l.length) :
    (rnO 19 #[.int .i64 (Int.ofNat N), va] l (slV s N) [nwF ((List.range N).map fun i => vw8 (Fz (vlI ms i)))]).ok Try.prog := by
  have := val_in N h1 h2 (froze_all l.toArray) hh
  rw [fz_size] at this
  subst hs
  exact this
end
theorem evOut_map {α : Type} (F : Nat → α) (n : Int) (M : Nat) : evOut F (mkOut n M) = (List.range (mkN n)).map fun i => F (mkU n M i).toNat := by
  unfold evOut mkOut
  rw [List.map_map]
  rfl

end Go.Proofs.Ytpmdpbljgidllaa
