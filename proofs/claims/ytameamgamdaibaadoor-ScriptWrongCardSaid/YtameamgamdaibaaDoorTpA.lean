/- Fields as data: operations, what they reckon, of numbers of any kind; how they lie in memory; and what questions about such memory come to. -/
import Derived.Test.YtameamgamdaibaaDoorLoop
import Derived.Test.YtameamgamdaibaaDoorWithin
namespace Go.Proofs.YtameamgamdaibaaDoor
open Go
set_option linter.unusedVariables false
set_option linter.unusedSimpArgs false
set_option maxRecDepth 100000

/-- An operation. -/
structure OpD where
  K : Int
  A : Int
  B : Int
  C : Nat

/-- What an operation reckons, of registers r and numbers x. -/
def stepT {T : Type} (cf : Nat → T) (op2 : Int → T → T → T) (x r : Nat → T) (o : OpD) : T :=
  if o.K = 0 then cf o.C else if o.K = 1 then x o.A.toNat else op2 o.K (r o.A.toNat) (r o.B.toNat)
/-- Registers, one after the other. -/
def runL {T : Type} (d : T) (cf : Nat → T) (op2 : Int → T → T → T) (x : Nat → T) : List OpD → List T → List T
  | [], r => r
  | o :: l, r => runL d cf op2 x l (r ++ [stepT cf op2 x (fun i => r.getD i d) o])
def regT {T : Type} (d : T) (cf : Nat → T) (op2 : Int → T → T → T) (x : Nat → T) (l : List OpD) (k : Nat) : T := (runL d cf op2 x l []).getD k d

/-- May an operation be, behind k others, of n variables? -/
def opOkD (k n : Nat) (o : OpD) : Prop := o.K = 0 ∨ (o.K = 1 ∧ 0 ≤ o.A ∧ o.A < n) ∨ (2 ≤ o.K ∧ o.K ≤ 5 ∧ 0 ≤ o.A ∧ o.A < k ∧ 0 ≤ o.B ∧ o.B < k)

theorem runL_pre {T : Type} (d : T) (cf : Nat → T) (op2 : Int → T → T → T) (x : Nat → T) : ∀ (l : List OpD) (r : List T) (k : Nat), k < r.length → (runL d cf op2 x l r).getD k d = r.getD k d
  | [], r, k, h => rfl
  | o :: l, r, k, h => by
    rw [runL, runL_pre d cf op2 x l _ k (by simp; omega)]
    simp only [List.getD_eq_getElem?_getD]
    rw [List.getElem?_append_left h]
theorem runL_at {T : Type} (d : T) (cf : Nat → T) (op2 : Int → T → T → T) (x : Nat → T) : ∀ (l : List OpD) (r : List T) (i : Nat) (o : OpD), l[i]? = some o → (o.K = 0 ∨ o.K = 1 ∨ (o.A.toNat < r.length + i ∧ o.B.toNat < r.length + i)) →
    (runL d cf op2 x l r).getD (r.length + i) d = stepT cf op2 x (fun j => (runL d cf op2 x l r).getD j d) o
  | [], r, i, o, h, _ => by simp at h
  | p :: l, r, 0, o, h, hk => by
    simp only [List.getElem?_cons_zero, Option.some.injEq] at h
    subst h
    have hpre := fun (k : Nat) (hk : k < (r ++ [stepT cf op2 x (fun i => r.getD i d) p]).length) => runL_pre d cf op2 x l _ k hk
    rw [runL, Nat.add_zero, hpre r.length (by simp)]
    have e1 : (r ++ [stepT cf op2 x (fun i => r.getD i d) p]).getD r.length d = stepT cf op2 x (fun i => r.getD i d) p := by
      simp [List.getD_eq_getElem?_getD]
    rw [e1]
    unfold stepT
    by_cases h0 : p.K = 0
    · rw [if_pos h0, if_pos h0]
    rw [if_neg h0, if_neg h0]
    by_cases h1 : p.K = 1
    · rw [if_pos h1, if_pos h1]
    rw [if_neg h1, if_neg h1]
    have hh := (hk.resolve_left h0).resolve_left h1
    have e2 : ∀ k, k < r.length → (runL d cf op2 x l (r ++ [stepT cf op2 x (fun i => r.getD i d) p])).getD k d = r.getD k d := by
      intro k hk
      rw [hpre k (by simp; omega)]
      simp only [List.getD_eq_getElem?_getD]
      rw [List.getElem?_append_left hk]
    unfold stepT at e2
    simp only [if_neg h0, if_neg h1] at e2 ⊢
    rw [e2 _ (by omega), e2 _ (by omega)]
  | p :: l, r, i + 1, o, h, hk => by
    simp only [List.getElem?_cons_succ] at h
    have := runL_at d cf op2 x l (r ++ [stepT cf op2 x (fun i => r.getD i d) p]) i o h (by simp only [List.length_append, List.length_singleton]; omega)
    simp only [List.length_append, List.length_singleton, show r.length + 1 + i = r.length + (i + 1) by omega] at this
    exact this
theorem regT_at {T : Type} {d : T} {cf : Nat → T} {op2 : Int → T → T → T} {x : Nat → T} {l : List OpD} {k n : Nat} {o : OpD} (h : l[k]? = some o) (ho : opOkD k n o) : regT d cf op2 x l k = stepT cf op2 x (regT d cf op2 x l) o := by
  have := runL_at d cf op2 x l [] k o h (by
    rcases ho with h | h | h
    · exact .inl h
    · exact .inr (.inl h.1)
    · refine .inr (.inr ?_)
      simp only [List.length_nil]
      omega)
  rw [List.length_nil, Nat.zero_add] at this
  exact this
theorem runL_length {T : Type} (d : T) (cf : Nat → T) (op2 : Int → T → T → T) (x : Nat → T) : ∀ (l : List OpD) (r : List T), (runL d cf op2 x l r).length = r.length + l.length
  | [], r => by simp [runL]
  | o :: l, r => by rw [runL, runL_length d cf op2 x l]; simp; omega

/-! ### in memory -/
def opC (o : OpD) : List Value := [.int .i64 o.K, .int .i64 o.A, .int .i64 o.B, .float .f64 o.C]
def fC (x : Nat) : List Value := [.float .f64 x]
def iC (x : Int) : List Value := [.int .i64 x]
def pC (X : Nat × Nat) : List Value := [.float .f64 X.1, .float .f64 X.2]
/-- A block that was handed in. -/
def roB {α : Type} (f : α → List Value) (t : TypeId) (z : Nat) (l : List α) : Option ABlk := some ⟨(l.flatMap f).toArray, t, z, false⟩

theorem flat_cut {α : Type} (f : α → List Value) (n : Nat) (hf : ∀ a, (f a).length = n) : ∀ (l : List α) (k : Nat) (a : α), l[k]? = some a → ((l.flatMap f).drop (k * n)).take n = f a
  | [], k, a, h => by simp at h
  | b :: l, 0, a, h => by
    simp only [List.getElem?_cons_zero, Option.some.injEq] at h
    subst h
    simp only [Nat.zero_mul, List.drop_zero, List.flatMap_cons]
    rw [List.take_append_of_le_length (by rw [hf]; exact Nat.le_refl _), List.take_of_length_le (by rw [hf]; exact Nat.le_refl _)]
  | b :: l, k + 1, a, h => by
    simp only [List.getElem?_cons_succ] at h
    have := flat_cut f n hf l k a h
    rw [List.flatMap_cons, List.drop_append]
    rw [show (k + 1) * n = n + k * n by rw [Nat.add_mul, Nat.one_mul, Nat.add_comm], hf, Nat.add_sub_cancel_left, List.drop_of_length_le (by rw [hf]; omega), List.nil_append]
    exact this
theorem flat_len {α : Type} (f : α → List Value) (n : Nat) (hf : ∀ a, (f a).length = n) : ∀ (l : List α), (l.flatMap f).length = l.length * n
  | [] => by simp
  | b :: l => by rw [List.flatMap_cons, List.length_append, hf, flat_len f n hf l, List.length_cons, Nat.add_mul, Nat.one_mul, Nat.add_comm]

section
variable {P : Program}
/-- A struct that lies whole. -/
theorem rd_agg {α : Type} {f : α → List Value} {n : Nat} (hf : ∀ a, (f a).length = n) {t : TypeId} {fs : Array Field} {i : TypeInfo} (hu : P.underlying t = some (.struct fs)) (hi : P.info? t = some i) (hn : i.size = n)
    {H : AHeap} {b k : Nat} {B : ABlk} {l : List α} {a : α} (hb : H[b]? = some (some B)) (hc : B.cells = (l.flatMap f).toArray) (hk : l[k]? = some a) {o : Nat} (ho : o = k * n) : readVar P H t ⟨b, o, none⟩ = some (.agg (f a).toArray) := by
  subst ho
  unfold readVar
  simp only [hb, hu, hi]
  have hlt : k < l.length := (List.getElem?_eq_some_iff.1 hk).1
  rw [if_pos]
  · unfold cut
    rw [hc, hn, List.toList_toArray, flat_cut f n hf l k a hk]
  · rw [hc, hn, List.size_toArray, flat_len f n hf]
    have : (k + 1) * n ≤ l.length * n := Nat.mul_le_mul_right n hlt
    rw [Nat.add_mul, Nat.one_mul] at this
    exact this
/-- One cell. -/
theorem rd_one {α : Type} {g : α → Value} {t : TypeId} (hu : ∃ u, P.underlying t = some u ∧ (∀ fs, u ≠ .struct fs) ∧ ∀ n e, u ≠ .array n e)
    {H : AHeap} {b k : Nat} {B : ABlk} {l : List α} {a : α} (hb : H[b]? = some (some B)) (hc : B.cells = (l.flatMap fun x => [g x]).toArray) (hk : l[k]? = some a) {o : Nat} (ho : o = k) : readVar P H t ⟨b, o, none⟩ = some (g a) := by
  subst ho
  obtain ⟨u, h1, h2, h3⟩ := hu
  have hcell : B.cells[o]? = some (g a) := by
    rw [hc]
    have := flat_cut (fun x => [g x]) 1 (fun _ => rfl) l o a hk
    rw [Nat.mul_one] at this
    have h4 : (l.flatMap fun x => [g x])[o]? = some (g a) := by
      have h5 := congrArg (fun z => z[0]?) this
      simpa [List.getElem?_take, List.getElem?_drop] using h5
    simpa using h4
  unfold readVar
  simp only [hb]
  rw [h1]
  cases u with
  | struct fs => exact absurd rfl (h2 fs)
  | array n e => exact absurd rfl (h3 n e)
  | _ => exact hcell

/-- A place in a slice. -/
theorem ix_slice {t e : TypeId} {i : TypeInfo} {z : Nat} (hu : P.underlying t = some (.slice e)) (hi : P.info? e = some i) (hz : i.size = z) {b n c : Nat} {A : Int} (h0 : 0 ≤ A) (h1 : A < n) {o : Nat} (ho : o = A.toNat * z) :
    indexAddrV P t (.slice (some ⟨b, 0, none⟩) n c) (.int .i64 A) = some (.pointer (some ⟨b, o, none⟩)) := by
  subst ho
  unfold indexAddrV
  simp only [hu, hi]
  rw [if_pos, hz]
  · simp only [Nat.zero_add]
  · unfold ltI
    match A, h0, h1 with
    | .ofNat a, _, h1 => exact Nat.ble_eq_true_of_le (Int.ofNat_lt.1 h1)
end

/-- A list, but for what does not count: its head, its last, and how long it is. -/
theorem list_parts {α : Type} (d : α) (l a : List α) (n m : Nat) (z : α) (h1 : l.take n = a) (h2 : l.length = n + m + 1) (h3 : l.getLast? = some z) : l = a ++ (List.range m).map (fun i => l.getD (n + i) d) ++ [z] := by
  apply List.ext_getElem?
  intro i
  have ha : a.length = n := by rw [← h1, List.length_take]; omega
  by_cases c1 : i < n
  · rw [List.append_assoc, List.getElem?_append_left (by omega), ← h1, List.getElem?_take, if_pos c1]
  rw [List.append_assoc, List.getElem?_append_right (by omega), ha]
  by_cases c2 : i < n + m
  · rw [List.getElem?_append_left (by simp; omega), List.getElem?_map, List.getElem?_range (by omega)]
    simp only [Option.map_some, List.getD_eq_getElem?_getD, show n + (i - n) = i by omega]
    rw [List.getElem?_eq_getElem (by omega)]
    rfl
  rw [List.getElem?_append_right (by simp; omega)]
  simp only [List.length_map, List.length_range]
  by_cases c3 : i = n + m
  · subst c3
    rw [show n + m - n - m = 0 by omega]
    rw [List.getLast?_eq_getElem?, h2, show n + m + 1 - 1 = n + m by omega] at h3
    rw [h3]
    rfl
  · rw [List.getElem?_eq_none (by omega), List.getElem?_eq_none (by simp; omega)]

theorem getT_eq : ∀ (l : List Value) (i : Nat), getT l i = l.getD i undef
  | [], i => by cases i <;> rfl
  | v :: l, 0 => rfl
  | v :: l, i + 1 => by rw [getT, getT_eq l i]; rfl
theorem tm_eq {l : List Value} {n : Nat} (h : l.length = n) : l = (List.range n).map (getT l) := by
  apply List.ext_getElem?
  intro i
  rw [List.getElem?_map]
  by_cases c : i < n
  · rw [List.getElem?_range c, Option.map_some, getT_eq, List.getD_eq_getElem?_getD, List.getElem?_eq_getElem (by omega)]; rfl
  · rw [List.getElem?_eq_none (by omega), List.getElem?_eq_none (by simp; omega)]; rfl

/-- The loops of a piece of code, those that stand in no other. -/
def loopsOf : Code → List Code
  | .seq a b => loopsOf a ++ loopsOf b
  | .cond _ a b => loopsOf a ++ loopsOf b
  | .block _ b => loopsOf b
  | .loop b => [b]
  | _ => []
def bodyAt (P : Program) (f : FuncId) (i : Nat) : Code :=
  match P.funcs[f]? with
  | some fn => match fn.body with
    | some c => (loopsOf c).getD i .skip
    | none => .skip
  | none => .skip

/-- A round, of what is left that which counts. -/
theorem rnd_part {ask : FuncId → Nat} {askC : BinOp → Value → Value → Bool} {c : Code} {tm : List Value} {H : AHeap} {s : List Ans} {ls : List (Option LpA)} {e : AExit} {l : List Obl} {α : Type} {g : List Value → AHeap → α} {x : α}
    (h : (rndT ask askC c tm H s ls).map (fun r => (r.1, g r.2.1 r.2.2.1, r.2.2.2)) = some (e, x, l, [])) (hl : okAll Tryd.prog l) : ∃ tm' H', g tm' H' = x ∧ evR Tryd.prog (Runs Tryd.prog) (orcD 12) q1 c tm H (e, tm', H') := by
  simp only [Option.map_eq_some_iff] at h
  obtain ⟨⟨e1, tm1, H1, l1, lo1⟩, h1, h2⟩ := h
  simp only [Prod.mk.injEq] at h2
  obtain ⟨rfl, h3, rfl, rfl⟩ := h2
  exact ⟨tm1, H1, h3, rndT_rel h1 hl (fun x h => by cases h)⟩

end Go.Proofs.YtameamgamdaibaaDoor
