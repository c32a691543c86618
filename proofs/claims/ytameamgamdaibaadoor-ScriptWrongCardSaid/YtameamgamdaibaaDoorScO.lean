/- The library's functions as an oracle: concrete runs. -/
import Derived.Test.YtameamgamdaibaaDoorScP
import Derived.Test.YtameamgamdaibaaDoorWithin
namespace Go.Proofs.YtameamgamdaibaaDoor
open Go
set_option linter.unusedVariables false
set_option maxRecDepth 100000

/-- All pieces told outright. -/
def forceLs {α : Type} : List (List UInt8) → (List (List UInt8) → α) → α
  | [], k => k []
  | x :: l, k => forceB x fun x => forceLs l fun l => k (x :: l)
theorem forceLs_eq {α : Type} : ∀ (l : List (List UInt8)) (k : List (List UInt8) → α), forceLs l k = k l
  | [], k => rfl
  | x :: l, k => by simp only [forceLs, forceB_eq]; exact forceLs_eq l _

def oneB (p : ByteArray) : Option UInt8 := match p.data.toList with
  | [c] => some c
  | _ => none
theorem oneB_eq {p : ByteArray} {c : UInt8} (h : oneB p = some c) : Value.string p = s1 c := by
  unfold oneB at h
  split at h
  · rename_i e
    injection h with h
    subst h
    rw [str_st]
    unfold bsL
    rw [e]
    rfl
  · cases h
def shortB (s : ByteArray) : Bool := Nat.blt (bsL s).length 4294967281
theorem shortB_lt {s : ByteArray} (h : shortB s = true) : (bsL s).length < 4294967281 := by unfold shortB at h; simpa using h
def fitI (n : Int) : Bool := match n with
  | .ofNat k => Nat.ble k 9223372036854775807
  | .negSucc k => Nat.ble k 9223372036854775807
theorem fitI_le {n : Int} (h : fitI n = true) : -9223372036854775808 ≤ n ∧ n ≤ 9223372036854775807 := by
  unfold fitI at h
  split at h
  · rename_i k; rw [Nat.ble_eq] at h; constructor <;> simp <;> omega
  · rename_i k; rw [Nat.ble_eq] at h; constructor <;> omega

def lib2 (f : FuncId) (s : ByteArray) (c : UInt8) (H : AHeap) : Option (Value × AHeap) :=
  if f == 28 then some (cutV c.toNat (bsL s), H)
  else if f == 69 then some (minusV c.toNat (bsL s), H)
  else if f == 13 then some (.bool (endsC c.toNat (bsL s)), H)
  else if f == 14 then some (stL (trimC c.toNat (bsL s)), H)
  else if f == 49 then forceLs (splitC 0 c.toNat (bsL s)) fun l => some (.slice (some ⟨H.size, 0, none⟩) l.length l.length, H.push (some ⟨(l.map stL).toArray, 9, 1, true⟩))
  else none
def libCall (f : FuncId) (args : Array Value) (H : AHeap) : Option (Value × AHeap) :=
  match args.toList with
  | [.string s, .string p] => if shortB s then (match oneB p with
    | some c => lib2 f s c H
    | none => none) else none
  | [.string s, .string p, .int .i64 1, .int .i64 (-1)] => if f == 22 && shortB s then (match oneB p with
    | some c => forceLs (splitC 1 c.toNat (bsL s)) fun l => some (.slice (some ⟨H.size, 0, none⟩) l.length l.length, H.push (some ⟨(l.map stL).toArray, 9, 1, true⟩))
    | none => none) else none
  | [.string s] => if f == 50 && shortB s then some (atoiV s, H) else none
  | [.int .i64 n] => if f == 51 && fitI n then some (stL (Lib.itoa n), H) else none
  | _ => none
theorem lib2_ok {f : FuncId} {s : ByteArray} {c : UInt8} {H H' : AHeap} {v : Value} (hs : (bsL s).length < 4294967281) (h : lib2 f s c H = some (v, H')) : Runs Tryd.prog f #[.string s, s1 c] H v H' := by
  unfold lib2 at h
  simp only [forceLs_eq] at h
  repeat' split at h
  all_goals first
    | (cases h; done)
    | skip
  all_goals rename_i hf; simp only [beq_iff_eq] at hf; subst hf; simp only [Option.some.injEq, Prod.mk.injEq] at h; obtain ⟨rfl, rfl⟩ := h
  · exact cut1 s c hs H
  · exact minus1 s c H
  · exact ends1 s c hs H
  · exact trim1 s c hs H
  · exact split1 s c hs H
theorem libCall_ok {f : FuncId} {args : Array Value} {H H' : AHeap} {v : Value} (h : libCall f args H = some (v, H')) : Runs Tryd.prog f args H v H' := by
  unfold libCall at h
  split at h
  · rename_i s p ha
    have ea : args = #[.string s, .string p] := Array.toList_inj.1 ha
    subst ea
    split at h
    · rename_i hs
      split at h
      · rename_i c hc
        rw [oneB_eq hc]
        exact lib2_ok (shortB_lt hs) h
      · cases h
    · cases h
  · rename_i s p ha
    have ea : args = #[.string s, .string p, .int .i64 1, .int .i64 (-1)] := Array.toList_inj.1 ha
    subst ea
    split at h
    · rename_i hs
      simp only [Bool.and_eq_true, beq_iff_eq] at hs
      obtain ⟨rfl, hs⟩ := hs
      split at h
      · rename_i c hc
        rw [oneB_eq hc]
        simp only [forceLs_eq, Option.some.injEq, Prod.mk.injEq] at h
        obtain ⟨rfl, rfl⟩ := h
        exact gens1 s c (shortB_lt hs) H
      · cases h
    · cases h
  · rename_i s ha
    have ea : args = #[.string s] := Array.toList_inj.1 ha
    subst ea
    split at h
    · rename_i hs
      simp only [Bool.and_eq_true, beq_iff_eq] at hs
      obtain ⟨rfl, hs⟩ := hs
      simp only [Option.some.injEq, Prod.mk.injEq] at h
      obtain ⟨rfl, rfl⟩ := h
      exact atoi_runs s (by have := shortB_lt hs; rw [Lib.size_eq]; unfold bsL at this; omega) H
    · cases h
  · rename_i n ha
    have ea : args = #[.int .i64 n] := Array.toList_inj.1 ha
    subst ea
    split at h
    · rename_i hs
      simp only [Bool.and_eq_true, beq_iff_eq] at hs
      obtain ⟨rfl, hs⟩ := hs
      simp only [Option.some.injEq, Prod.mk.injEq] at h
      obtain ⟨rfl, rfl⟩ := h
      exact itoa_runs n (fitI_le hs).1 (fitI_le hs).2 H
    · cases h
  · cases h

/-- The base with the library. -/
def baseL : Orc := ⟨libCall, rows0, binIv⟩
theorem baseL_ok : OrcOK Tryd.prog baseL := ⟨fun _ _ _ _ _ h => libCall_ok h, base0_ok.row, base0_ok.bin⟩
noncomputable def callL (n d : Nat) (f : FuncId) (args : Array Value) (H : AHeap) : Option (Value × AHeap) := callN Tryd.prog baseL q1 fs1 n d f args H
theorem callL_runs {n d : Nat} {f : FuncId} {args : Array Value} {H H' : AHeap} {v : Value} (h : callL n d f args H = some (v, H')) : Runs Tryd.prog f args H v H' := callN_sound baseL_ok mixed0 fs1_ok n d f args H v H' h

noncomputable def orcL (d : Nat) : Orc := { baseL with call := callL 1000 d }
noncomputable def askL (ask : FuncId → Nat) (askC : BinOp → Value → Value → Bool) (d : Nat) (f : FuncId) (args : Array Value) (H : AHeap) (s : List Ans) : Option (Value × AHeap × List Obl) :=
  (evFuncL Tryd.prog (orcL d) q1 fs1 ask askC 1000 8 f args H s).map fun r => (r.1, r.2.1, r.2.2.2)
theorem askL_runs {ask : FuncId → Nat} {askC : BinOp → Value → Value → Bool} {d : Nat} {f : FuncId} {args : Array Value} {H H' : AHeap} {s : List Ans} {v : Value} {l : List Obl}
    (h : askL ask askC d f args H s = some (v, H', l)) (hl : okAll Tryd.prog l) : Runs Tryd.prog f args H v H' := by
  unfold askL at h
  simp only [Option.map_eq_some_iff] at h
  obtain ⟨⟨v1, H1, s1, l1⟩, h1, h2⟩ := h
  simp only [Prod.mk.injEq] at h2
  obtain ⟨rfl, rfl, rfl⟩ := h2
  exact evN_sound baseL_ok mixed0 fs1_ok h1 hl
theorem tells_ofL {ask : FuncId → Nat} {askC : BinOp → Value → Value → Bool} {d : Nat} {f : FuncId} {args : Array Value} {H : AHeap} {s : List Ans} {v : Value} {l : List Obl}
    (h : (askL ask askC d f args H s).map (fun r => (r.1, r.2.2)) = some (v, l)) (hl : okAll Tryd.prog l) : Tells f args H v := by
  simp only [Option.map_eq_some_iff] at h
  obtain ⟨⟨v1, H1, l1⟩, h1, h2⟩ := h
  simp only [Prod.mk.injEq] at h2
  obtain ⟨rfl, rfl⟩ := h2
  exact ⟨H1, askL_runs h1 hl⟩

end Go.Proofs.YtameamgamdaibaaDoor
