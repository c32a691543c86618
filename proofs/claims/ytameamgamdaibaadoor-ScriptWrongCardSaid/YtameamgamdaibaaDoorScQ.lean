/- The parser's take, begins, script's numbers, in any memory. -/
import Derived.Test.YtameamgamdaibaaDoorScN
namespace Go.Proofs.YtameamgamdaibaaDoor
open Go
set_option linter.unusedVariables false
set_option linter.unusedSimpArgs false
set_option maxRecDepth 100000

/-- A parser's block and its lines' in a memory. -/
structure PsAt (H : AHeap) (bp bl : Nat) (L : List (List UInt8)) (k : Nat) : Prop where
  ne : bp ≠ bl
  ps : ∃ o c, H[bp]? = some (psB (.slice (some ⟨bl, 0, none⟩) L.length c) (k : Nat) o)
  ln : ∃ o, H[bl]? = some (stB L o)
theorem RelK.cells1 {z : Nat} {ρ : Nat → Nat} {c2 c1 : Array Value} {t : TypeId} {k : Nat} {o1 : Bool} (hs : c2.size ≤ c1.size) (h : ∀ (i : Nat) (x y : Value), c2[i]? = some x → c1[i]? = some y → RelA z ρ x y) : RelK z ρ ⟨c2, t, k, false⟩ ⟨c1, t, k, o1⟩ where
  own := fun h => by cases h
  elem := rfl
  esz := rfl
  size := hs
  cells := h
def rho2 (a b : Nat) (i : Nat) : Nat := if i = 0 then a else b
theorem ps_rel {H : AHeap} {bp bl : Nat} {L : List (List UInt8)} {k : Nat} (h : PsAt H bp bl L k) {ex : List Value} (hex : ∀ v ∈ ex, closN 4 v = true) : RelS 0 (rho2 bp bl) (p0 :: ex) (tkH L k) (.pointer (some ⟨bp, 0, none⟩) :: ex) H := by
  obtain ⟨o, c, h1⟩ := h.ps
  obtain ⟨o2, h2⟩ := h.ln
  refine ⟨fun b hb => by omega, rfl, fun i v2 v1 e2 e1 => ?_, fun b B2 hb => ?_, fun b b' B B' hb hb' he => ?_⟩
  · match i, e2, e1 with
    | 0, e2, e1 =>
      simp only [List.getElem?_cons_zero, Option.some.injEq] at e2 e1
      subst e2 e1
      exact .ptr 0 bp 0 none (show (0 : Nat) < 2 by decide) rfl
    | i + 1, e2, e1 =>
      simp only [List.getElem?_cons_succ] at e2 e1
      rw [e2] at e1
      injection e1 with e1
      subst e1
      exact .clos (hex _ (List.mem_of_getElem? e2))
  · match b, hb with
    | 0, hb =>
      have e : B2 = ⟨#[sl1 L.length, .int .i64 (k : Nat)], 48, 0, false⟩ := by injection hb with hb; injection hb with hb; exact hb.symm
      subst e
      refine ⟨_, h1, .cells1 (Nat.le_refl _) fun i x y hx hy => ?_⟩
      match i, hx, hy with
      | 0, hx, hy =>
        simp only [List.getElem?_toArray, List.getElem?_cons_zero, Option.some.injEq] at hx hy
        subst hx hy
        exact .slice 1 bl 0 none _ _ _ (show (1 : Nat) < 2 by decide) rfl
      | 1, hx, hy =>
        simp only [List.getElem?_toArray, List.getElem?_cons_succ, List.getElem?_cons_zero, Option.some.injEq] at hx hy
        subst hx hy
        exact .clos rfl
      | i + 2, hx, hy => simp at hx
    | 1, hb =>
      have e : B2 = ⟨(L.flatMap stC).toArray, 9, 1, false⟩ := by injection hb with hb; injection hb with hb; exact hb.symm
      subst e
      refine ⟨_, h2, .cells1 (Nat.le_refl _) fun i x y hx hy => ?_⟩
      rw [hx] at hy
      injection hy with hy
      subst hy
      exact .clos (st_clos L i x hx)
    | b + 2, hb => simp [tkH] at hb
  · have l1 := lt_of_get hb
    have l2 := lt_of_get hb'
    have hn := h.ne
    simp only [tkH, List.size_toArray, List.length_cons, List.length_nil] at l1 l2
    unfold rho2 at he
    by_cases c1 : b = 0
    · by_cases c2 : b' = 0
      · omega
      · rw [if_pos c1, if_neg c2] at he; omega
    · by_cases c2 : b' = 0
      · rw [if_neg c1, if_pos c2] at he; omega
      · omega
theorem tk_frozen (L : List (List UInt8)) (k : Int) : AllFrozen (tkH L k) := fun b B h => by
  match b, h with
  | 0, h => injection h with h; injection h with h; subst h; rfl
  | 1, h => injection h with h; injection h with h; subst h; rfl
  | b + 2, h => simp [tkH] at h

section
variable {H : AHeap} {bp bl : Nat} {L : List (List UInt8)} {k : Nat} {f : List UInt8} {m : Int}
theorem take_none (h : PsAt H bp bl L k) (hL : ∀ x ∈ L, x.length < 4294967280) (hk : (k : Int) < 4611686018427387904) (ht : takeP L k f m = none) :
    Runs Tryd.prog 25 #[.pointer (some ⟨bp, 0, none⟩), stL f, .int .i64 m] H nilF H := by
  have hq := take_q (f := f) (m := m) hL hk
  rw [ht] at hq
  exact Runs.view hq (tk_frozen L k) (by rfl) (ps_rel h (ex := [stL f, .int .i64 m]) (by intro v hv; simp at hv; rcases hv with rfl | rfl <;> rfl))
theorem take_some (h : PsAt H bp bl L k) (hf : AllFrozen H) (hL : ∀ x ∈ L, x.length < 4294967280) (hk : (k : Int) < 4611686018427387904) {ws : List (List UInt8)} (ht : takeP L k f m = some ws) :
    Runs Tryd.prog 25 #[.pointer (some ⟨bp, 0, none⟩), stL f, .int .i64 m] H (.tuple #[.slice (some ⟨H.size, 1, none⟩) ws.length ws.length, .bool true]) (H ++ #[stB (f :: ws) true]) := by
  have hq := take_q (f := f) (m := m) hL hk
  rw [ht] at hq
  refine Runs.viewN (bs2 := #[stB (f :: ws) true]) hq (tk_frozen L k) hf (ps_rel h (ex := [stL f, .int .i64 m]) (by intro v hv; simp at hv; rcases hv with rfl | rfl <;> rfl)) ?_ ?_
  · refine .tuple rfl fun i h1 h2 => ?_
    match i, h1, h2 with
    | 0, _, _ => exact .slice H.size 2 1 none _ _ _ (by simp) (by unfold rhoN; simp [tkH])
    | 1, _, _ => exact .clos rfl
  · refine ⟨rfl, fun j B1 hj => ?_⟩
    match j, hj with
    | 0, hj =>
      have e : B1 = ⟨((f :: ws).flatMap stC).toArray, 9, 1, true⟩ := by injection hj with hj; injection hj with hj; exact hj.symm
      subst e
      exact ⟨_, rfl, .plain (st_clos (f :: ws))⟩
    | j + 1, hj => simp at hj
theorem begins_at (h : PsAt H bp bl L k) (hL : ∀ x ∈ L, x.length < 4294967280) (hk : (k : Int) < 4611686018427387904) :
    Runs Tryd.prog 16 #[.pointer (some ⟨bp, 0, none⟩), stL f] H (.bool (beginP L k f)) H :=
  Runs.view (begins_q hL hk) (tk_frozen L k) (by rfl) (ps_rel h (ex := [stL f]) (by intro v hv; simp at hv; subst hv; rfl))
end

/-- A row of words in a memory, as an argument. -/
theorem ws_rel {H : AHeap} {bw : Nat} {W : List (List UInt8)} {n : Nat} {o : Bool} (h : H[bw]? = some (stB W o)) {ex : List Value} (hex : ∀ v ∈ ex, closN 4 v = true) : RelS 0 (fun _ => bw) (ws0 n :: ex) #[stB W false] (.slice (some ⟨bw, 1, none⟩) n n :: ex) H := by
  refine ⟨fun b hb => by omega, rfl, fun i v2 v1 e2 e1 => ?_, fun b B2 hb => ?_, fun b b' B B' hb hb' he => ?_⟩
  · match i, e2, e1 with
    | 0, e2, e1 =>
      simp only [List.getElem?_cons_zero, Option.some.injEq] at e2 e1
      subst e2 e1
      exact .slice 0 bw 1 none _ _ _ (show (0 : Nat) < 1 by decide) rfl
    | i + 1, e2, e1 =>
      simp only [List.getElem?_cons_succ] at e2 e1
      rw [e2] at e1
      injection e1 with e1
      subst e1
      exact .clos (hex _ (List.mem_of_getElem? e2))
  · match b, hb with
    | 0, hb =>
      have e : B2 = ⟨(W.flatMap stC).toArray, 9, 1, false⟩ := by injection hb with hb; injection hb with hb; exact hb.symm
      subst e
      refine ⟨_, h, .cells1 (Nat.le_refl _) fun i x y hx hy => ?_⟩
      rw [hx] at hy
      injection hy with hy
      subst hy
      exact .clos (st_clos W i x hx)
    | b + 1, hb => simp at hb
  · have l1 := lt_of_get hb
    have l2 := lt_of_get hb'
    simp only [List.size_toArray, List.length_cons, List.length_nil] at l1 l2
    omega
theorem one_frozen (W : List (List UInt8)) : AllFrozen #[stB W false] := fun b B h => by
  match b, h with
  | 0, h => injection h with h; injection h with h; subst h; rfl
  | b + 1, h => simp at h
section
variable {H : AHeap} {bw : Nat} {w0 : List UInt8} {ws : List (List UInt8)} {o : Bool}
theorem numsI_none {rdP : List UInt8 → Int × Bool} (h : H[bw]? = some (stB (w0 :: ws) o)) (hrd : ∀ x ∈ ws, Runs Tryd.prog 27 #[stL x] #[] (prV (rdP x)) #[]) (hlim : ws.length < 16777216) (hpos : 1 ≤ ws.length) (ha : allP rdP ws = none) :
    Runs Tryd.prog 26 #[.slice (some ⟨bw, 1, none⟩) ws.length ws.length, fnI] H nilF H := by
  have hq := numsI_q (w0 := w0) hrd hlim hpos
  rw [ha] at hq
  exact Runs.view hq (one_frozen _) (by rfl) (ws_rel h (ex := [fnI]) (by intro v hv; simp at hv; subst hv; rfl))
theorem numsF_none {rdP : List UInt8 → Nat × Bool} (h : H[bw]? = some (stB (w0 :: ws) o)) (hrd : ∀ x ∈ ws, Runs Tryd.prog 31 #[stL x] #[] (flV (rdP x)) #[]) (hlim : ws.length < 16777216) (hpos : 1 ≤ ws.length) (ha : allP rdP ws = none) :
    Runs Tryd.prog 30 #[.slice (some ⟨bw, 1, none⟩) ws.length ws.length, fnF] H nilF H := by
  have hq := numsF_q (w0 := w0) hrd hlim hpos
  rw [ha] at hq
  exact Runs.view hq (one_frozen _) (by rfl) (ws_rel h (ex := [fnF]) (by intro v hv; simp at hv; subst hv; rfl))
theorem numsI_some {rdP : List UInt8 → Int × Bool} (h : H[bw]? = some (stB (w0 :: ws) o)) (hf : AllFrozen H) (hrd : ∀ x ∈ ws, Runs Tryd.prog 27 #[stL x] #[] (prV (rdP x)) #[]) (hlim : ws.length < 16777216) (hpos : 1 ≤ ws.length) {l : List Int} (ha : allP rdP ws = some l) :
    Runs Tryd.prog 26 #[.slice (some ⟨bw, 1, none⟩) ws.length ws.length, fnI] H (.tuple #[oS H.size ws.length, .bool true]) (H ++ #[oB_I l]) := by
  have hq := numsI_q (w0 := w0) hrd hlim hpos
  rw [ha] at hq
  refine Runs.viewN (bs2 := #[oB_I l]) hq (one_frozen _) hf (ws_rel h (ex := [fnI]) (by intro v hv; simp at hv; subst hv; rfl)) ?_ ?_
  · refine .tuple rfl fun i h1 h2 => ?_
    match i, h1, h2 with
    | 0, _, _ => exact .slice H.size 1 0 none _ _ _ (by simp) (by unfold rhoN; simp)
    | 1, _, _ => exact .clos rfl
  · refine ⟨rfl, fun j B1 hj => ?_⟩
    match j, hj with
    | 0, hj =>
      have e : B1 = ⟨(l.flatMap iC).toArray, 3, 1, true⟩ := by injection hj with hj; injection hj with hj; exact hj.symm
      subst e
      exact ⟨_, rfl, .plain (closI l)⟩
    | j + 1, hj => simp at hj
theorem numsF_some {rdP : List UInt8 → Nat × Bool} (h : H[bw]? = some (stB (w0 :: ws) o)) (hf : AllFrozen H) (hrd : ∀ x ∈ ws, Runs Tryd.prog 31 #[stL x] #[] (flV (rdP x)) #[]) (hlim : ws.length < 16777216) (hpos : 1 ≤ ws.length) {l : List Nat} (ha : allP rdP ws = some l) :
    Runs Tryd.prog 30 #[.slice (some ⟨bw, 1, none⟩) ws.length ws.length, fnF] H (.tuple #[oS H.size ws.length, .bool true]) (H ++ #[oB_F l]) := by
  have hq := numsF_q (w0 := w0) hrd hlim hpos
  rw [ha] at hq
  refine Runs.viewN (bs2 := #[oB_F l]) hq (one_frozen _) hf (ws_rel h (ex := [fnF]) (by intro v hv; simp at hv; subst hv; rfl)) ?_ ?_
  · refine .tuple rfl fun i h1 h2 => ?_
    match i, h1, h2 with
    | 0, _, _ => exact .slice H.size 1 0 none _ _ _ (by simp) (by unfold rhoN; simp)
    | 1, _, _ => exact .clos rfl
  · refine ⟨rfl, fun j B1 hj => ?_⟩
    match j, hj with
    | 0, hj =>
      have e : B1 = ⟨(l.flatMap fC).toArray, 31, 1, true⟩ := by injection hj with hj; injection hj with hj; exact hj.symm
      subst e
      exact ⟨_, rfl, .plain (closF l)⟩
    | j + 1, hj => simp at hj
end

end Go.Proofs.YtameamgamdaibaaDoor
