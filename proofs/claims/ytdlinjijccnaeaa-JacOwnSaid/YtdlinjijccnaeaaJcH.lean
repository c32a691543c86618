/- jac.Jac: its contract, in any memory that holds a field and numbers. -/
import Derived.Test.YtdlinjijccnaeaaJcG
import Derived.Test.YtdlinjijccnaeaaJcM
namespace Go.Proofs.Ytdlinjijccnaeaa
open Go
set_option linter.unusedVariables false
set_option linter.unusedSimpArgs false
set_option maxRecDepth 100000

/-! what is reckoned -/
def stD (K : Int) (a b : Nat × (Nat → Nat)) : Nat × (Nat → Nat) := (opF K a.1 b.1, fun j => slF K a.1 b.1 (opF K a.1 b.1) (a.2 j) (b.2 j))
def vrD (xs : List Nat) (i : Nat) : Nat × (Nat → Nat) := (xs.getD i 0, fun j => if i = j then 4607182418800017408 else 0)
def regD (ops : List OpD) (xs : List Nat) : Nat → Nat × (Nat → Nat) := regT (0, fun _ => 0) (fun c => (c, fun _ => 0)) stD (vrD xs) ops
theorem regD_v {ops : List OpD} {xs : List Nat} {k N : Nat} {o : OpD} (h : ops[k]? = some o) (ho : opOkD k N o) : (regD ops xs k).1 = vStep xs (fun j => (regD ops xs j).1) o := by
  have e : regD ops xs k = stepT (fun c => (c, fun _ => 0)) stD (vrD xs) (regD ops xs) o := regT_at h ho
  rw [e]
  unfold vStep stepT
  split
  · rfl
  split
  · rfl
  · rfl
theorem regD_s {ops : List OpD} {xs : List Nat} {k N : Nat} {o : OpD} (h : ops[k]? = some o) (ho : opOkD k N o) (i : Nat) : (regD ops xs k).2 i = sStep (fun j => (regD ops xs j).1) (fun j => (regD ops xs j).2) ((regD ops xs k).1) o i := by
  have e : regD ops xs k = stepT (fun c => (c, fun _ => 0)) stD (vrD xs) (regD ops xs) o := regT_at h ho
  rw [e]
  unfold sStep stepT
  split
  · rfl
  split
  · rename_i h1
    have hA : 0 ≤ o.A := by
      rcases ho with h | h | h
      · omega
      · exact h.2.1
      · omega
    show (if o.A.toNat = i then 4607182418800017408 else 0) = _
    by_cases e : o.A = (i : Int)
    · rw [if_pos e, if_pos (by omega)]
    · rw [if_neg e, if_neg (by omega)]
  · rfl

/-! tables in memory -/
def rowJb (N : Nat) (R : Nat → Nat) : ABlk := ⟨(((List.range N).map R).flatMap fC).toArray, 27, 1, true⟩
def otJb (c N : Nat) : ABlk := ⟨((List.range N).map fun j => if j < N then slV (c + j) N else .slice none 0 0).toArray, 37, 1, true⟩
def tabJ (c N : Nat) (R : Nat → Nat → Nat) : List (Option ABlk) := rowsJ N R N ++ [otJ c N N]
theorem tab_len (c N : Nat) (R : Nat → Nat → Nat) : (tabJ c N R).length = N + 1 := by simp [tabJ, rowsJ]
theorem tab_row {c N : Nat} {R : Nat → Nat → Nat} {j : Nat} (h : j < N) : (tabJ c N R)[j]? = some (some (rowJb N (R j))) := by
  unfold tabJ rowsJ
  rw [List.getElem?_append_left (by simp; exact h), List.getElem?_map, List.getElem?_range h]
  rfl
theorem tab_ot (c N : Nat) (R : Nat → Nat → Nat) : (tabJ c N R)[N]? = some (some (otJb c N)) := by
  unfold tabJ rowsJ
  rw [List.getElem?_append_right (by simp)]
  simp
  rfl
theorem tab_cases {c N : Nat} {R : Nat → Nat → Nat} {j : Nat} {B : ABlk} (h : (tabJ c N R)[j]? = some (some B)) : (j < N ∧ B = rowJb N (R j)) ∨ (j = N ∧ B = otJb c N) := by
  have hl := (List.getElem?_eq_some_iff.1 h).1
  rw [tab_len] at hl
  by_cases hj : j < N
  · rw [tab_row hj] at h
    injection h with h; injection h with h
    exact .inl ⟨hj, h.symm⟩
  · have : j = N := by omega
    subst this
    rw [tab_ot] at h
    injection h with h; injection h with h
    exact .inr ⟨rfl, h.symm⟩
theorem row_relK {z : Nat} {ρ : Nat → Nat} (N : Nat) (R : Nat → Nat) : RelK z ρ (rowJb N R) (rowJb N R) := RelK.plain (plain_flat fC_cl _ _ _ _)
theorem ot_relK {z : Nat} {ρ : Nat → Nat} {c1 c2 N : Nat} (h : ∀ j, j < N → c1 + j < z ∧ ρ (c1 + j) = c2 + j) : RelK z ρ (otJb c1 N) (otJb c2 N) := by
  refine RelK.list ?_
  have key : ∀ l : List Nat, (∀ j ∈ l, j < N) → RelAs z ρ (l.map fun j => if j < N then slV (c1 + j) N else .slice none 0 0) (l.map fun j => if j < N then slV (c2 + j) N else .slice none 0 0) := by
    intro l
    induction l with
    | nil => intro _; exact .nil
    | cons j l ih =>
      intro hl
      have hj := hl j (List.mem_cons_self ..)
      refine .cons ?_ (ih fun i hi => hl i (List.mem_cons_of_mem _ hi))
      show RelA z ρ (if j < N then slV (c1 + j) N else .slice none 0 0) (if j < N then slV (c2 + j) N else .slice none 0 0)
      rw [if_pos hj, if_pos hj]
      exact .slice (c1 + j) (c2 + j) 0 none _ _ _ (h j hj).1 (h j hj).2
  exact key _ fun j hj => List.mem_range.1 hj
section
variable {P : Program}
/-- A table that was made: its numbers. -/
theorem Runs.tab {f : FuncId} {args : Array Value} {b0 b1 b2 : Option ABlk} {N c e : Nat} {R : Nat → Nat → Nat} {H1 : AHeap} (h : Runs P f args #[b0, b1, b2] (slV e N) H1) (p0 : PlO b0) (p1 : PlO b1) (p2 : PlO b2)
    (q0 : H1[0]? = some b0) (q1 : H1[1]? = some b1) (q2 : H1[2]? = some b2) (hr : ∀ j, j < N → H1[c + j]? = some (some (rowJb N (R j)))) (he : H1[e]? = some (some (otJb c N))) (hc : 3 ≤ c) (he3 : 3 ≤ e) (hne : ∀ j, j < N → e ≠ c + j) :
    Runs P f args #[b0, b1, b2] (slV (3 + N) N) (#[b0, b1, b2] ++ (tabJ 3 N R).toArray) := by
  let ρ : Nat → Nat := fun b => if b < 3 then b else if b < 3 + N then b - 3 + c else e
  have hs : (#[b0, b1, b2] ++ (tabJ 3 N R).toArray : AHeap).size = 4 + N := by
    have h1 : (tabJ 3 N R).toArray.size = N + 1 := by rw [List.size_toArray, tab_len]
    rw [Array.size_append, h1]
    show 3 + (N + 1) = 4 + N
    omega
  have r0 : ∀ b, b < 3 → ρ b = b := fun b hb => if_pos hb
  have r1 : ∀ j, j < N → ρ (3 + j) = c + j := fun j hj => by show (if _ then _ else _) = _; rw [if_neg (by omega), if_pos (by omega)]; omega
  have r2 : ρ (3 + N) = e := by show (if _ then _ else _) = _; rw [if_neg (by omega), if_neg (by omega)]
  have sp : ∀ (b : Nat) (B : ABlk), (#[b0, b1, b2] ++ (tabJ 3 N R).toArray : AHeap)[b]? = some (some B) → (b < 3 ∧ (#[b0, b1, b2] : AHeap)[b]? = some (some B)) ∨ (∃ j, j < N ∧ b = 3 + j ∧ B = rowJb N (R j)) ∨ (b = 3 + N ∧ B = otJb 3 N) := fun b B hB => by
    by_cases hb : b < 3
    · rw [Array.getElem?_append_left (by simp; omega)] at hB
      exact .inl ⟨hb, hB⟩
    · rw [Array.getElem?_append_right (by simp; omega), List.getElem?_toArray] at hB
      rcases tab_cases hB with ⟨g1, g2⟩ | ⟨g1, g2⟩
      · exact .inr (.inl ⟨_, g1, by simp; omega, g2⟩)
      · exact .inr (.inr ⟨by simp at g1; omega, g2⟩)
  refine Runs.ren (ρ := ρ) h ⟨fun b hb => ⟨by rw [hs]; simp at hb; omega, r0 b (by simpa using hb)⟩, rfl, ?_, ?_, ?_⟩
  · intro i v2 v1 h2 h1
    match i, h2, h1 with
    | 0, h2, h1 =>
      injection h2 with h2; injection h1 with h1
      subst h2 h1
      rw [hs]
      exact .slice (3 + N) e 0 none _ _ _ (by omega) r2
    | n + 1, h2, _ => simp at h2
  · intro b B hB
    rw [hs]
    rcases sp b B hB with ⟨hb, g⟩ | ⟨j, hj, rfl, rfl⟩ | ⟨rfl, rfl⟩
    · rw [r0 b hb]
      match b, g with
      | 0, g => exact ⟨B, q0.trans (by simpa using g), RelK.plain fun i v hv => p0 B (by simpa using g) i v hv⟩
      | 1, g => exact ⟨B, q1.trans (by simpa using g), RelK.plain fun i v hv => p1 B (by simpa using g) i v hv⟩
      | 2, g => exact ⟨B, q2.trans (by simpa using g), RelK.plain fun i v hv => p2 B (by simpa using g) i v hv⟩
      | n + 3, g => simp at g
    · rw [r1 j hj]
      exact ⟨_, hr j hj, row_relK _ _⟩
    · rw [r2]
      exact ⟨_, he, ot_relK fun j hj => ⟨by omega, r1 j hj⟩⟩
  · intro b b' B B' hB hB' heq
    rcases sp b B hB with ⟨hb, _⟩ | ⟨j, hj, rfl, _⟩ | ⟨rfl, _⟩ <;> rcases sp b' B' hB' with ⟨hb', _⟩ | ⟨j', hj', rfl, _⟩ | ⟨rfl, _⟩
    · rw [r0 b hb, r0 b' hb'] at heq; exact heq
    · rw [r0 b hb, r1 j' hj'] at heq; omega
    · rw [r0 b hb, r2] at heq; omega
    · rw [r1 j hj, r0 b' hb'] at heq; omega
    · rw [r1 j hj, r1 j' hj'] at heq; omega
    · rw [r1 j hj, r2] at heq; exact absurd heq.symm (hne j hj)
    · rw [r2, r0 b' hb'] at heq; omega
    · rw [r2, r1 j' hj'] at heq; exact absurd heq (hne j' hj')
    · rfl
/-- A table that is made, in any memory. -/
theorem Runs.tabAt {f : FuncId} {args2 args1 : Array Value} {c0 c1 c2 B0 B1 B2 : ABlk} {N : Nat} {R : Nat → Nat → Nat} {H : AHeap} {bo bu bx : Nat} (h : Runs P f args2 #[some c0, some c1, some c2] (slV (3 + N) N) (#[some c0, some c1, some c2] ++ (tabJ 3 N R).toArray))
    (o0 : c0.own = false) (o1 : c1.own = false) (o2 : c2.own = false) (p0 : PlainB c0) (p1 : PlainB c1) (p2 : PlainB c2) (hH : AllFrozen H) (h0 : H[bo]? = some (some c0)) (h1 : H[bu]? = some (some c1)) (h2 : H[bx]? = some (some c2)) (n1 : bo ≠ bu) (n2 : bo ≠ bx) (n3 : bu ≠ bx)
    (ha : RelAs 3 (fun b => if b = 0 then bo else if b = 1 then bu else bx) args2.toList args1.toList) : Runs P f args1 H (slV (H.size + N) N) (H ++ (tabJ H.size N R).toArray) := by
  obtain ⟨g1, g2⟩ := relAs_at ha
  have rs : RelS 0 (fun b => if b = 0 then bo else if b = 1 then bu else bx) args2.toList #[some c0, some c1, some c2] args1.toList H := by
    refine rel2 g1 g2 (fun b B h => ?_) (fun b b' B B' h h' he => ?_)
    · match b, h with
      | 0, h => injection h with h; injection h with h; subst h; exact ⟨_, h0, RelK.plain p0⟩
      | 1, h => injection h with h; injection h with h; subst h; exact ⟨_, h1, RelK.plain p1⟩
      | 2, h => injection h with h; injection h with h; subst h; exact ⟨_, h2, RelK.plain p2⟩
      | n + 3, h => simp at h
    · match b, b', h, h' with
      | 0, 0, _, _ => rfl
      | 1, 1, _, _ => rfl
      | 2, 2, _, _ => rfl
      | 0, 1, _, _ => exact absurd he n1
      | 0, 2, _, _ => exact absurd he n2
      | 1, 0, _, _ => exact absurd he.symm n1
      | 1, 2, _, _ => exact absurd he n3
      | 2, 0, _, _ => exact absurd he.symm n2
      | 2, 1, _, _ => exact absurd he.symm n3
      | n + 3, _, h, _ => simp at h
      | 0, n + 3, _, h => simp at h
      | 1, n + 3, _, h => simp at h
      | 2, n + 3, _, h => simp at h
  have hl1 : (tabJ H.size N R).toArray.size = N + 1 := by rw [List.size_toArray, tab_len]
  have hl2 : (tabJ 3 N R).toArray.size = N + 1 := by rw [List.size_toArray, tab_len]
  have s3 : (#[some c0, some c1, some c2] : AHeap).size = 3 := rfl
  have rh : ∀ j, rhoN H.size 3 (3 + (N + 1)) (H.size + j) = 3 + j := fun j => by unfold rhoN; rw [if_neg (by omega)]; omega
  have hf3 : AllFrozen #[some c0, some c1, some c2] := by
    intro b B hB
    match b, hB with
    | 0, hB => injection hB with hB; injection hB with hB; subst hB; exact o0
    | 1, hB => injection hB with hB; injection hB with hB; subst hB; exact o1
    | 2, hB => injection hB with hB; injection hB with hB; subst hB; exact o2
    | n + 3, hB => simp at hB
  refine Runs.viewN h hf3 hH rs ?_ ⟨by rw [hl1, hl2], fun j B1 hj => ?_⟩
  · rw [hl1, hl2, s3]
    exact .slice (H.size + N) (3 + N) 0 none _ _ _ (by omega) (rh N)
  · rw [hl1, hl2, s3]
    rw [List.getElem?_toArray] at hj
    rcases tab_cases hj with ⟨g, rfl⟩ | ⟨rfl, rfl⟩
    · exact ⟨_, by rw [List.getElem?_toArray]; exact tab_row g, row_relK _ _⟩
    · exact ⟨_, by rw [List.getElem?_toArray]; exact tab_ot 3 _ R, ot_relK fun i hi => ⟨by omega, rh i⟩⟩
end

end Go.Proofs.Ytdlinjijccnaeaa
