/- The parser's take and begins: what they tell of a line. -/
import Derived.Test.YtameamgamdaibaaDoorScF
import Derived.Test.YtameamgamdaibaaDoorGenT
import Derived.Test.YtameamgamdaibaaDoorApp
namespace Go.Proofs.YtameamgamdaibaaDoor
open Go
set_option linter.unusedVariables false
set_option linter.unusedSimpArgs false
set_option maxRecDepth 100000

def psB (sl : Value) (k : Int) (o : Bool) : Option ABlk := some ⟨#[sl, .int .i64 k], 48, 0, o⟩
def stC (l : List UInt8) : List Value := [stL l]
def stB (L : List (List UInt8)) (o : Bool) : Option ABlk := some ⟨(L.flatMap stC).toArray, 9, 1, o⟩
def p0 : Value := .pointer (some ⟨0, 0, none⟩)
def sl1 (n : Nat) : Value := .slice (some ⟨1, 0, none⟩) n n
noncomputable def askTk (g : FuncId) : Nat := if g == 49 then 1 else if [1000027, 1000028, 1000052].contains g then 7 else 0
def cmTk : BinOp → Value → Value → Bool
  | _, .int _ _, _ => true
  | _, .string _, _ => true
  | _, _, _ => false
def nilF : Value := .tuple #[.slice none 0 0, .bool false]
def spA (w0 : List UInt8) (ws : List (List UInt8)) : Ans := ⟨fun k => .slice (some ⟨k, 0, none⟩) (ws.length + 1) (ws.length + 1), [stB (w0 :: ws) true]⟩
noncomputable def stTk (p : Addr) (x w0 : List UInt8) (ws : List (List UInt8)) : List Ans := [yes false, anV (.pointer (some p)), anV (stL x), spA w0 ws]
noncomputable def obTk (H : AHeap) (k : Int) (n : Nat) (p : Addr) (x w0 : List UInt8) (ws : List (List UInt8)) : List Obl :=
  [obC .geq k n false, .ex (indexAddrV Tryd.prog 23 (sl1 n) (.int .i64 k) = some (.pointer (some p))), .ex (readVar Tryd.prog H 9 p = some (stL x)),
   .run 49 #[stL x, s1 32] H (.slice (some ⟨2, 0, none⟩) (ws.length + 1) (ws.length + 1)) (H.push (stB (w0 :: ws) true))]
def obS (a b : List UInt8) (c : Bool) : Obl := .bin binIv .neq 9 (stL a) (stL b) c
def lenM (n : Nat) : Int := IntKind.i64.wrap (((n + 1 : Nat) : Int) - 1)
def RunTk (s : Value → List Ans) (l : List UInt8 → List UInt8 → Nat → Int → Value → List Obl) (v : Value → Value) : Prop := ∀ (k m : Int) (n : Nat) (lc : Array Value) (f x w0 : List UInt8) (ws : List (List UInt8)) (p : Addr) (u : Value),
  (askN askTk cmTk 1 25 #[p0, stL f, .int .i64 m] #[psB (sl1 n) k false, some ⟨lc, 9, 1, false⟩] (stTk p x w0 ws ++ s u)).map (fun r => (r.1, r.2.1, r.2.2)) =
    some (v u, #[psB (sl1 n) k false, some ⟨lc, 9, 1, false⟩, stB (w0 :: ws) true], obTk #[psB (sl1 n) k false, some ⟨lc, 9, 1, false⟩] k n p x w0 ws ++ l w0 f ws.length m u)
theorem tk_1 (k m : Int) (n : Nat) (lb : Option ABlk) (f : List UInt8) : (askN askTk cmTk 1 25 #[p0, stL f, .int .i64 m] #[psB (sl1 n) k false, lb] [yes true]).map (fun r => (r.1, r.2.2)) = some (nilF, [obC .geq k n true]) := by kernel_rfl
theorem tk_0 (m : Int) (f : List UInt8) : (askN askTk noC 1 25 #[p0, stL f, .int .i64 m] #[psB (.slice none 0 0) 0 false] []).map (fun r => (r.1, r.2.2)) = some (nilF, []) := by kernel_rfl
theorem tk_2 : RunTk (fun _ => [yes true]) (fun w0 f n m u => [obS w0 f true]) (fun _ => nilF) := fun _ _ _ _ _ _ _ _ _ _ => by kernel_rfl
theorem tk_3 : RunTk (fun _ => [yes false, yes true, yes true]) (fun w0 f n m u => [obS w0 f false, obC .geq m 0 true, obC .neq (lenM n) m true]) (fun _ => nilF) := fun _ _ _ _ _ _ _ _ _ _ => by kernel_rfl
theorem tk_4 : RunTk (fun _ => [yes false, yes true, yes false, yes true]) (fun w0 f n m u => [obS w0 f false, obC .geq m 0 true, obC .neq (lenM n) m false, obC .lss ((n + 1 : Nat) : Int) 2 true]) (fun _ => nilF) := fun _ _ _ _ _ _ _ _ _ _ => by kernel_rfl
theorem tk_5 : RunTk (fun _ => [yes false, yes false, yes true]) (fun w0 f n m u => [obS w0 f false, obC .geq m 0 false, obC .lss ((n + 1 : Nat) : Int) 2 true]) (fun _ => nilF) := fun _ _ _ _ _ _ _ _ _ _ => by kernel_rfl
noncomputable def obSl (n : Nat) (u : Value) : Obl := .ex (sliceV Tryd.prog 23 (.slice (some ⟨2, 0, none⟩) (n + 1) (n + 1)) (some (.int .i64 1)) none none = some u)
theorem tk_6 : RunTk (fun u => [yes false, yes true, yes false, yes false, anV u]) (fun w0 f n m u => [obS w0 f false, obC .geq m 0 true, obC .neq (lenM n) m false, obC .lss ((n + 1 : Nat) : Int) 2 false, obSl n u]) (fun u => .tuple #[u, .bool true]) := fun _ _ _ _ _ _ _ _ _ _ => by kernel_rfl
theorem tk_7 : RunTk (fun u => [yes false, yes false, yes false, anV u]) (fun w0 f n m u => [obS w0 f false, obC .geq m 0 false, obC .lss ((n + 1 : Nat) : Int) 2 false, obSl n u]) (fun u => .tuple #[u, .bool true]) := fun _ _ _ _ _ _ _ _ _ _ => by kernel_rfl

/-! ### begins -/
noncomputable def askBg (g : FuncId) : Nat := if g == 28 then 1 else if [1000027, 1000028].contains g then 7 else 0
theorem bg_1 (k : Int) (n : Nat) (lb : Option ABlk) (f : List UInt8) : (askN askBg cmTk 1 16 #[p0, stL f] #[psB (sl1 n) k false, lb] [yes true]).map (fun r => (r.1, r.2.2)) = some (.bool false, [obC .geq k n true]) := by kernel_rfl
theorem bg_2 (k : Int) (n : Nat) (lb : Option ABlk) (f x a b : List UInt8) (t c : Bool) (p : Addr) :
  (askN askBg cmTk 1 16 #[p0, stL f] #[psB (sl1 n) k false, lb] [yes false, anV (.pointer (some p)), anV (stL x), anV (ctV a b t), yes c]).map (fun r => (r.1, r.2.2)) =
    some (.bool c, [obC .geq k n false, .ex (indexAddrV Tryd.prog 23 (sl1 n) (.int .i64 k) = some (.pointer (some p))), .ex (readVar Tryd.prog #[psB (sl1 n) k false, lb] 9 p = some (stL x)),
      .run 28 #[stL x, s1 32] #[] (ctV a b t) #[], .bin binIv .eql 9 (stL a) (stL f) c]) := by kernel_rfl

/-! ### what they tell -/
/-- A line's words behind the first, if it is the one, and there are as many as must be (below 0: one or more). -/
def takeP (L : List (List UInt8)) (k : Nat) (f : List UInt8) (m : Int) : Option (List (List UInt8)) := match L[k]? with
  | none => none
  | some x => match splitC 0 32 x with
    | w0 :: ws => if w0 = f ∧ ¬ (m ≥ 0 ∧ (ws.length : Int) ≠ m) ∧ 1 ≤ ws.length then some ws else none
    | [] => none
theorem splitC_cons (sv c : Nat) (l : List UInt8) : ∃ w0 ws, splitC sv c l = w0 :: ws := by
  cases l with
  | nil => exact ⟨_, _, rfl⟩
  | cons x l =>
    rw [splitC]
    split
    · exact ⟨_, _, rfl⟩
    · split
      · exact ⟨_, _, rfl⟩
      · exact ⟨_, _, rfl⟩
theorem map_st (L : List (List UInt8)) : L.map stL = L.flatMap stC := by
  induction L with
  | nil => rfl
  | cons x l ih => rw [List.map_cons, List.flatMap_cons, ih]; rfl
theorem ty_s : isPlainB Tryd.prog 9 = true := by kernel_rfl
theorem sz_s : sizeB Tryd.prog 9 1 = true := by kernel_rfl
theorem ty_ss : isSliceB Tryd.prog 23 9 = true := by kernel_rfl
theorem rdS {H : AHeap} {b k : Nat} {B : ABlk} {l : List (List UInt8)} {a : List UInt8} (hb : H[b]? = some (some B)) (hc : B.cells = (l.flatMap stC).toArray) (hk : l[k]? = some a) {o : Nat} (ho : o = k) : readVar Tryd.prog H 9 ⟨b, o, none⟩ = some (stL a) :=
  rd_one (g := fun x => stL x) (isPlainB_ex ty_s) hb hc hk ho
theorem ixS {b n c f : Nat} {A : Int} (h0 : 0 ≤ A) (h1 : A < n) {o : Nat} (ho : o = A.toNat) : indexAddrV Tryd.prog 23 (.slice (some ⟨b, 0, none⟩) n c) (.int .i64 A) = some (.pointer (some ⟨b, o, none⟩)) := by
  obtain ⟨i, hi, hz⟩ := sizeB_ex sz_s
  exact ix_slice (isSliceB_ex ty_ss) hi hz h0 h1 (by omega)
theorem neqS (u w : List UInt8) (c : Bool) (h : eqU u w = !c) : (obS u w c).ok Tryd.prog := by
  show binIv .neq 9 (stL u) (stL w) = some (.bool c)
  show some (Value.bool (!eqU u w)) = _
  rw [h, Bool.not_not]
theorem cmp_neqI (x y : Int) : cmpV Tryd.prog .neq 3 (.int .i64 x) (.int .i64 y) = some (!decide (x = y)) := by kernel_rfl
theorem eqU_ne {u w : List UInt8} (h : u ≠ w) : eqU u w = false := by
  rw [Bool.eq_false_iff]; intro e; exact h (eqU_iff.1 e)
theorem lenM_eq {n : Nat} (h : n < 4294967281) : lenM n = n := by
  unfold lenM
  rw [wrap_id (by omega) (by omega)]
  omega
theorem split_q (x w0 : List UInt8) (ws : List (List UInt8)) (hx : x.length < 4294967281) (hs : splitC 0 32 x = w0 :: ws) (H : AHeap) :
    Runs Tryd.prog 49 #[stL x, s1 32] H (.slice (some ⟨H.size, 0, none⟩) (ws.length + 1) (ws.length + 1)) (H.push (stB (w0 :: ws) true)) := by
  have h := split1 ⟨x.toArray⟩ 32 hx H
  have e : (32 : UInt8).toNat = 32 := rfl
  rw [bs_st, e] at h
  unfold piecesV at h
  rw [hs, map_st] at h
  exact h
theorem splitC_len (sv c : Nat) : ∀ x : List UInt8, (splitC sv c x).length ≤ x.length + 1
  | [] => by simp [splitC]
  | x :: l => by
    have ih := splitC_len sv c l
    rw [splitC]
    split
    · simp; omega
    · obtain ⟨w0, ws, e⟩ := splitC_cons sv c l
      rw [e] at ih ⊢
      simp at ih ⊢
      omega
theorem slice_one (n : Nat) (h : 1 ≤ n) : sliceV Tryd.prog 23 (.slice (some ⟨2, 0, none⟩) (n + 1) (n + 1)) (some (.int .i64 1)) none none = some (.slice (some ⟨2, 1, none⟩) n n) := by
  obtain ⟨i, hi, hz⟩ := sizeB_ex sz_s
  unfold sliceV
  simp only [isSliceB_ex ty_ss, hi, hz, optInt, intOf?]
  rw [if_neg (by decide), if_pos (by simp; omega), if_neg (by decide), if_neg (by omega)]
  simp

section
variable {L : List (List UInt8)} {k : Nat} {f : List UInt8} {m : Int}
def tkH (L : List (List UInt8)) (k : Int) : AHeap := #[psB (sl1 L.length) k false, stB L false]
theorem take_q (hL : ∀ x ∈ L, x.length < 4294967280) (hk : (k : Int) < 4611686018427387904) :
    match takeP L k f m with
    | none => Runs Tryd.prog 25 #[p0, stL f, .int .i64 m] (tkH L k) nilF (tkH L k)
    | some ws => Runs Tryd.prog 25 #[p0, stL f, .int .i64 m] (tkH L k) (.tuple #[.slice (some ⟨2, 1, none⟩) ws.length ws.length, .bool true]) ((tkH L k).push (stB (f :: ws) true)) := by
  have fz : froze (tkH L k) = tkH L k := rfl
  have drop : ∀ {H'}, Runs Tryd.prog 25 #[p0, stL f, .int .i64 m] (tkH L k) nilF H' → Runs Tryd.prog 25 #[p0, stL f, .int .i64 m] (tkH L k) nilF (tkH L k) :=
    fun h => Runs.reads (by rw [fz]; exact h) (by rfl)
  unfold takeP
  cases hx : L[k]? with
  | none =>
    simp only
    have hn : L.length ≤ k := by
      rcases Nat.lt_or_ge k L.length with h | h
      · rw [List.getElem?_eq_getElem h] at hx; cases hx
      · exact h
    obtain ⟨H', h⟩ := tells_of (tk_1 k m L.length (stB L false) f) ⟨(cmp_geqI _ _).trans (by simp; omega), trivial⟩
    exact drop h
  | some x =>
    have hkl : k < L.length := by
      rcases Nat.lt_or_ge k L.length with h | h
      · exact h
      · rw [List.getElem?_eq_none h] at hx; cases hx
    have hxl := hL x (List.mem_of_getElem? hx)
    obtain ⟨w0, ws, hs⟩ := splitC_cons 0 32 x
    have hwl := splitC_len 0 32 x
    simp only [hs]
    rw [hs, List.length_cons] at hwl
    have b1 : cmpV Tryd.prog .geq 3 (.int .i64 (k : Nat)) (.int .i64 (L.length : Nat)) = some false := (cmp_geqI _ _).trans (by simp; omega)
    have b2 : indexAddrV Tryd.prog 23 (sl1 L.length) (.int .i64 (k : Nat)) = some (.pointer (some ⟨1, k, none⟩)) := ixS (f := 0) (by omega) (by omega) (by omega)
    have b3 : readVar Tryd.prog (tkH L k) 9 ⟨1, k, none⟩ = some (stL x) := rdS (B := ⟨(L.flatMap stC).toArray, 9, 1, false⟩) rfl rfl hx rfl
    have b4 := split_q x w0 ws (by omega) hs (tkH L k)
    have hlm := lenM_eq (n := ws.length) (by omega)
    have base : ∀ {s l v} (u : Value), RunTk s l v → okAll Tryd.prog (l w0 f ws.length m u) → Runs Tryd.prog 25 #[p0, stL f, .int .i64 m] (tkH L k) (v u) ((tkH L k).push (stB (w0 :: ws) true)) := by
      intro s l v u hr hl
      have h1 := hr k m L.length (L.flatMap stC).toArray f x w0 ws ⟨1, k, none⟩ u
      simp only [Option.map_eq_some_iff] at h1
      obtain ⟨⟨v1, H1, l1⟩, h2, h3⟩ := h1
      simp only [Prod.mk.injEq] at h3
      obtain ⟨rfl, rfl, rfl⟩ := h3
      exact askN_runs h2 ⟨b1, b2, b3, b4, hl⟩
    by_cases hf : w0 = f
    · subst hf
      have e1 := neqS w0 w0 false (eqU_iff.2 rfl)
      by_cases hm : m ≥ 0
      · have e2 : cmpV Tryd.prog .geq 3 (.int .i64 m) (.int .i64 0) = some true := (cmp_geqI _ _).trans (by simp [hm])
        by_cases hn : (ws.length : Int) = m
        · have e3 : cmpV Tryd.prog .neq 3 (.int .i64 (lenM ws.length)) (.int .i64 m) = some false := (cmp_neqI _ _).trans (by simp [hlm, hn])
          by_cases h1 : 1 ≤ ws.length
          · rw [if_pos ⟨rfl, by omega, h1⟩]
            exact base _ tk_6 ⟨e1, e2, e3, (cmp_lss _ _).trans (by simp; omega), slice_one _ h1, trivial⟩
          · rw [if_neg (fun h => h1 h.2.2)]
            exact drop (base undef tk_4 ⟨e1, e2, e3, (cmp_lss _ _).trans (by simp; omega), trivial⟩)
        · rw [if_neg (fun h => h.2.1 ⟨hm, hn⟩)]
          exact drop (base undef tk_3 ⟨e1, e2, (cmp_neqI _ _).trans (by simp [hlm, hn]), trivial⟩)
      · have e2 : cmpV Tryd.prog .geq 3 (.int .i64 m) (.int .i64 0) = some false := (cmp_geqI _ _).trans (by simp; omega)
        by_cases h1 : 1 ≤ ws.length
        · rw [if_pos ⟨rfl, fun h => hm h.1, h1⟩]
          exact base _ tk_7 ⟨e1, e2, (cmp_lss _ _).trans (by simp; omega), slice_one _ h1, trivial⟩
        · rw [if_neg (fun h => h1 h.2.2)]
          exact drop (base undef tk_5 ⟨e1, e2, (cmp_lss _ _).trans (by simp; omega), trivial⟩)
    · rw [if_neg (fun h => hf h.1)]
      exact drop (base undef tk_2 ⟨neqS w0 f true (eqU_ne hf), trivial⟩)

/-- Whether a line begins so. -/
def beginP (L : List (List UInt8)) (k : Nat) (f : List UInt8) : Bool := match L[k]? with
  | none => false
  | some x => eqU (cutC 32 x).1 f
theorem begins_q (hL : ∀ x ∈ L, x.length < 4294967280) (hk : (k : Int) < 4611686018427387904) : Runs Tryd.prog 16 #[p0, stL f] (tkH L k) (.bool (beginP L k f)) (tkH L k) := by
  have fz : froze (tkH L k) = tkH L k := rfl
  have drop : ∀ {H' b}, Runs Tryd.prog 16 #[p0, stL f] (tkH L k) (.bool b) H' → Runs Tryd.prog 16 #[p0, stL f] (tkH L k) (.bool b) (tkH L k) :=
    fun h => Runs.reads (by rw [fz]; exact h) (by rfl)
  unfold beginP
  cases hx : L[k]? with
  | none =>
    have hn : L.length ≤ k := by
      rcases Nat.lt_or_ge k L.length with h | h
      · rw [List.getElem?_eq_getElem h] at hx; cases hx
      · exact h
    obtain ⟨H', h⟩ := tells_of (bg_1 k L.length (stB L false) f) ⟨(cmp_geqI _ _).trans (by simp; omega), trivial⟩
    exact drop h
  | some x =>
    have hkl : k < L.length := by
      rcases Nat.lt_or_ge k L.length with h | h
      · exact h
      · rw [List.getElem?_eq_none h] at hx; cases hx
    have hxl := hL x (List.mem_of_getElem? hx)
    have b1 : cmpV Tryd.prog .geq 3 (.int .i64 (k : Nat)) (.int .i64 (L.length : Nat)) = some false := (cmp_geqI _ _).trans (by simp; omega)
    have b2 : indexAddrV Tryd.prog 23 (sl1 L.length) (.int .i64 (k : Nat)) = some (.pointer (some ⟨1, k, none⟩)) := ixS (f := 0) (by omega) (by omega) (by omega)
    have b3 : readVar Tryd.prog (tkH L k) 9 ⟨1, k, none⟩ = some (stL x) := rdS (B := ⟨(L.flatMap stC).toArray, 9, 1, false⟩) rfl rfl hx rfl
    have b4 := cut_q x 32 (by omega)
    have e : (32 : UInt8).toNat = 32 := rfl
    rw [e] at b4
    obtain ⟨H', h⟩ := tells_of (bg_2 k L.length (stB L false) f x _ _ _ (eqU (cutC 32 x).1 f) ⟨1, k, none⟩) ⟨b1, b2, b3, b4, eqlS _ _, trivial⟩
    exact drop h
end

end Go.Proofs.YtameamgamdaibaaDoor
