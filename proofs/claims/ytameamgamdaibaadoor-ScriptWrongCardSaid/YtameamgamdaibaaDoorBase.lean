/- The interpreter at this seat's program: the model's own rows, the modes of its functions, and that its regions may be taken in the text's order. -/
import Derived.Test.YtameamgamdaibaaDoorProg
import Derived.Test.YtameamgamdaibaaDoorAbsL
import Derived.KernelRfl
import Derived.Laws.StandIn
import Derived.Laws.StructEq
namespace Go.Proofs.YtameamgamdaibaaDoor
open Go
set_option linter.unusedVariables false

def bitsRow : Array Value → Option Value
  | ⟨[.float .f64 b]⟩ => if isNan .f64 b then none else some (.int .u64 b)
  | _ => none
def fromRow : Array Value → Option Value
  | ⟨[.int .u64 n]⟩ => some (.float .f64 n.toNat)
  | _ => none

def floorRow : Array Value → Option Value
  | ⟨[.float .f64 b]⟩ => if isNan .f64 b then none else some (.float .f64 (FloatKind.f64.encode ((FloatKind.f64.decode b).integral .down)))
  | _ => none

def countRow : Array Value → Option Value
  | ⟨[.string s, .int .u8 c]⟩ => some (.int .i64 (s.data.toList.foldl (fun n x => if x == c.toNat.toUInt8 then n + 1 else n) (0 : Nat)))
  | _ => none
/-- The place of the first that is it. -/
def findB (c : UInt8) : List UInt8 → Nat → Int
  | [], _ => -1
  | x :: l, n => if x == c then n else findB c l (n + 1)
def byteRow : Array Value → Option Value
  | ⟨[.string s, .int .u8 c]⟩ => some (.int .i64 (findB c.toNat.toUInt8 s.data.toList 0))
  | _ => none

/-- What the model has by rows of its own. -/
def rows0 (f : FuncId) (args : Array Value) : Option Value :=
  if f = 42 then bitsRow args else
  if f = 45 then fromRow args else
  if f = 64 then countRow args else
  if f = 82 then byteRow args else
  none

theorem run_bits (b : Nat) (w : World) : (callFunc 42 #[.float .f64 b]).run Tryd.prog w = .ok (.value (.int .u64 b)) w := by kernel_rfl
theorem run_from (n : Int) (w : World) : (callFunc 45 #[.int .u64 n]).run Tryd.prog w = .ok (.value (.float .f64 n.toNat)) w := by kernel_rfl


theorem foldl_bytes {β : Type} (f : β → UInt8 → β) (b : β) (s : ByteArray) : s.foldl f b = s.data.toList.foldl f b := by
  have key : ∀ (i j : Nat) (b : β), i + j = s.size → ByteArray.foldlM.loop (m := _root_.Id) f s s.size (Nat.le_refl _) i j b = (s.data.toList.drop j).foldl f b := by
    intro i
    induction i with
    | zero =>
      intro j b h
      have : s.data.toList.length ≤ j := by have : s.size = s.data.toList.length := rfl; omega
      unfold ByteArray.foldlM.loop
      rw [List.drop_of_length_le this]
      split <;> rfl
    | succ k ih =>
      intro j b h
      have hl : j < s.data.toList.length := by have : s.size = s.data.toList.length := rfl; omega
      have hl' : j < s.size := hl
      unfold ByteArray.foldlM.loop
      rw [dif_pos hl', List.drop_eq_getElem_cons hl]
      exact ih (j + 1) _ (by omega)
  have : s.foldl f b = ByteArray.foldlM.loop (m := _root_.Id) f s s.size (Nat.le_refl _) s.size 0 b := by
    unfold ByteArray.foldl ByteArray.foldlM
    simp [_root_.Id.run]; rfl
  rw [this, key s.size 0 b (by omega)]
  rfl
theorem first_find (s : ByteArray) (c : UInt8) : firstIdx s c = findB c s.data.toList 0 := by
  have key : ∀ (n j : Nat), j + n = s.size → (match (List.range' j n).find? (fun i => s[i]! == c) with | some i => (i : Int) | none => -1) = findB c (s.data.toList.drop j) j := by
    intro n
    induction n with
    | zero =>
      intro j h
      have : s.data.toList.length ≤ j := by have : s.size = s.data.toList.length := rfl; omega
      rw [List.drop_of_length_le this]
      rfl
    | succ k ih =>
      intro j h
      have hl : j < s.data.toList.length := by have : s.size = s.data.toList.length := rfl; omega
      have hl' : j < s.size := hl
      have e : s[j]! = s.data.toList[j] := by
        rw [getElem!_pos s j hl']; rfl
      rw [List.drop_eq_getElem_cons hl, List.range'_succ, List.find?_cons, e]
      unfold findB
      cases s.data.toList[j] == c with
      | true => rfl
      | false => exact ih (j + 1) (by omega)
  have := key s.size 0 (by omega)
  rw [← List.range_eq_range'] at this
  exact this
theorem run_countS (s : ByteArray) (c : Int) (w : World) : (callFunc 64 #[.string s, .int .u8 c]).run Tryd.prog w = .ok (.value (.int .i64 (s.data.toList.foldl (fun n x => if x == c.toNat.toUInt8 then n + 1 else n) (0 : Nat)))) w := by
  have h0 : (callFunc 64 #[.string s, .int .u8 c]).run Tryd.prog w = .ok (.value (.int .i64 (s.foldl (fun n x => if x == c.toNat.toUInt8 then n + 1 else n) (0 : Nat)))) w := by kernel_rfl
  rw [h0, foldl_bytes]
theorem run_byteS (s : ByteArray) (c : Int) (w : World) : (callFunc 82 #[.string s, .int .u8 c]).run Tryd.prog w = .ok (.value (.int .i64 (findB c.toNat.toUInt8 s.data.toList 0))) w := by
  rw [run_callFunc_indexByte Tryd.func82 (by kernel_rfl) (by kernel_rfl) (by kernel_rfl) (by kernel_rfl), run_indexByte_string]
  simp only [Result.andThen_ok, first_find]

theorem vrs_two {m : Mp} {x1 x2 : Value} {ys : Array Value} (h : VRs m #[x1, x2] ys) : ∃ y1 y2, ys = #[y1, y2] ∧ VR m x1 y1 ∧ VR m x2 y2 := by
  have hs := h.1
  simp at hs
  refine ⟨ys[0]'(by omega), ys[1]'(by omega), ?_, h.2 0 (by simp) (by omega), h.2 1 (by simp) (by omega)⟩
  apply Array.ext
  · simp; omega
  · intro i h1 h2
    have : i = 0 ∨ i = 1 := by omega
    rcases this with rfl | rfl <;> simp

theorem vr_two {m : Mp} {a b : Nat} {v : Value} (h : VR m (.agg #[.float .f64 a, .float .f64 b]) v) : ∃ a' b', v = .agg #[.float .f64 a', .float .f64 b'] ∧ alikeF .f64 a a' ∧ alikeF .f64 b b' := by
  cases h with
  | @agg _ ys h1 h2 =>
    simp at h1
    have g1 := h2 0 (by simp) (by omega)
    have g2 := h2 1 (by simp) (by omega)
    have hy : ys = #[ys[0]'(by omega), ys[1]'(by omega)] := by
      apply Array.ext
      · simp; omega
      · intro i q1 q2
        have : i = 0 ∨ i = 1 := by omega
        rcases this with rfl | rfl <;> simp
    generalize ys[0]'(by omega) = y0 at g1 hy
    generalize ys[1]'(by omega) = y1 at g2 hy
    cases g1 with
    | @float _ _ a' e1 => cases g2 with
      | @float _ _ b' e2 => exact ⟨a', b', by rw [hy], e1, e2⟩

theorem vrs_one {m : Mp} {x : Value} {ys : Array Value} (h : VRs m #[x] ys) : ∃ y, ys = #[y] ∧ VR m x y := by
  have hs := h.1
  simp at hs
  refine ⟨ys[0]'(by omega), ?_, h.2 0 (by simp) (by omega)⟩
  apply Array.ext
  · simp; omega
  · intro i h1 h2
    have : i = 0 := by omega
    subst this
    simp

theorem rows0_ok {f : FuncId} {args : Array Value} {v : Value} (h : rows0 f args = some v) (m : Mp) (args' : Array Value) (hv : VRs m args args') (w : World) : ∃ v', (callFunc f args').run Tryd.prog w = .ok (.value v') w ∧ VR m v v' := by
  unfold rows0 at h
  split at h
  · rename_i hf
    subst hf
    unfold bitsRow at h
    split at h
    · rename_i b
      obtain ⟨y, rfl, hy⟩ := vrs_one hv
      cases hy with
      | @float _ _ b' hb =>
        split at h
        · cases h
        · rename_i hn
          injection h with h; subst h
          rcases hb with rfl | ⟨h1, _⟩
          · exact ⟨_, run_bits b w, .int _ _⟩
          · exact absurd h1 hn
    · cases h
  split at h
  · rename_i hf
    subst hf
    unfold fromRow at h
    split at h
    · rename_i n
      obtain ⟨y, rfl, hy⟩ := vrs_one hv
      cases hy
      injection h with h; subst h
      exact ⟨_, run_from n w, .float _ (.refl _ _)⟩
    · cases h
  split at h
  · rename_i hf
    subst hf
    unfold countRow at h
    split at h
    · rename_i s c
      obtain ⟨y1, y2, rfl, h1, h2⟩ := vrs_two hv
      cases h1
      cases h2
      injection h with h; subst h
      exact ⟨_, run_countS s c w, .int _ _⟩
    · cases h
  split at h
  · rename_i hf
    subst hf
    unfold byteRow at h
    split at h
    · rename_i s c
      obtain ⟨y1, y2, rfl, h1, h2⟩ := vrs_two hv
      cases h1
      cases h2
      injection h with h; subst h
      exact ⟨_, run_byteS s c w, .int _ _⟩
    · cases h
  cases h

/-- Whether two texts are the same, byte by byte. -/
def eqU : List UInt8 → List UInt8 → Bool
  | [], [] => true
  | a :: l, b :: m => Nat.beq a.toNat b.toNat && eqU l m
  | _, _ => false
theorem eqU_iff : ∀ {l m : List UInt8}, eqU l m = true ↔ l = m
  | [], [] => by simp [eqU]
  | [], _ :: _ => by simp [eqU]
  | _ :: _, [] => by simp [eqU]
  | a :: l, b :: m => by
    simp only [eqU, Bool.and_eq_true, List.cons.injEq, eqU_iff (l := l) (m := m)]
    rw [← UInt8.toNat_inj, Nat.beq_eq]
def eqS (a b : ByteArray) : Bool := eqU a.data.toList b.data.toList
theorem eqS_iff {a b : ByteArray} : eqS a b = true ↔ a = b := by
  unfold eqS
  rw [eqU_iff]
  constructor
  · intro h; cases a; cases b; congr 1; exact Array.toList_inj.1 h
  · rintro rfl; rfl
theorem eqS_eq (a b : ByteArray) : (a.toList == b.toList) = eqS a b := by
  rw [Bool.eq_iff_iff, eqS, eqU_iff, beq_iff_eq, ByteArray.toList_eq, ByteArray.toList_eq]
theorem run_eqS (t : TypeId) (x y : Operand) (a b : ByteArray) (w : World) : (do eqGuard .eql t x y (.string a) (.string b); binOp .eql t (.string a) (.string b)).run Tryd.prog w = .ok (.bool (a.toList == b.toList)) w := by
  rw [binOp_string_eql]; rfl
theorem run_neS (t : TypeId) (x y : Operand) (a b : ByteArray) (w : World) : (do eqGuard .neq t x y (.string a) (.string b); binOp .neq t (.string a) (.string b)).run Tryd.prog w = .ok (.bool (!(a.toList == b.toList))) w := by
  rw [binOp_string_neq]; rfl
theorem run_addS (t : TypeId) (x y : Operand) (a b : ByteArray) (hle : a.data.toList.length + b.data.toList.length ≤ 9223372036854775807) (w : World) : (do eqGuard .add t x y (.string a) (.string b); binOp .add t (.string a) (.string b)).run Tryd.prog w = .ok (.string ⟨(a.data.toList ++ b.data.toList).toArray⟩) w := by
  have e : a ++ b = ⟨(a.data.toList ++ b.data.toList).toArray⟩ := by
    rw [ByteArray.ext_iff, ByteArray.data_append]
    exact Array.toList_inj.1 (by simp)
  rw [← e]
  have h1 : a.size = a.data.toList.length := rfl
  have h2 : b.size = b.data.toList.length := rfl
  simp [eqGuard, binOp, Op.stringOp]
  omega
theorem run_eqI (x y : Operand) (t : TypeId) (v : Value) (w : World) : (do eqGuard .eql 94 x y (.iface t v) .nilIface; binOp .eql 94 (.iface t v) .nilIface).run Tryd.prog w = .ok (.bool false) w := by kernel_rfl
theorem run_neI (x y : Operand) (t : TypeId) (v : Value) (w : World) : (do eqGuard .neq 94 x y (.iface t v) .nilIface; binOp .neq 94 (.iface t v) .nilIface).run Tryd.prog w = .ok (.bool true) w := by kernel_rfl

/-- Whether two from-tos are the same, by their ends. -/
def binIv (op : BinOp) (t : TypeId) (x y : Value) : Option Value :=
  match op, x, y with
  | .eql, .agg ⟨[.float .f64 a, .float .f64 b]⟩, .agg ⟨[.float .f64 c, .float .f64 d]⟩ => if t = 59 then some (.bool (Op.floatEq .f64 a c && Op.floatEq .f64 b d)) else none
  | .neq, .bool a, .bool b => if t = 4 then some (.bool (a != b)) else none
  | .eql, .string a, .string b => some (.bool (eqS a b))
  | .add, .string a, .string b => if Nat.ble (a.data.toList.length + b.data.toList.length) 9223372036854775807 then some (.string ⟨(a.data.toList ++ b.data.toList).toArray⟩) else none
  | .neq, .string a, .string b => some (.bool (!eqS a b))
  | .eql, .iface _ _, .nilIface => if t = 94 then some (.bool false) else none
  | .neq, .iface _ _, .nilIface => if t = 94 then some (.bool true) else none
  | _, _, _ => none

theorem run_neBool (x y : Operand) (w : World) : ∀ a b : Bool, (do eqGuard .neq 4 x y (.bool a) (.bool b); binOp .neq 4 (.bool a) (.bool b)).run Tryd.prog w = .ok (.bool (a != b)) w
  | true, true => by kernel_rfl
  | true, false => by kernel_rfl
  | false, true => by kernel_rfl
  | false, false => by kernel_rfl

theorem eq_float (a c : Nat) (w : World) : (Op.equalIn 9999 31 (.float .f64 a) (.float .f64 c)).run Tryd.prog w = .ok (Op.floatEq .f64 a c) w := by kernel_rfl

theorem run_eqIv (a b c d : Nat) (w : World) : (binOp .eql 59 (.agg #[.float .f64 a, .float .f64 b]) (.agg #[.float .f64 c, .float .f64 d])).run Tryd.prog w = .ok (.bool (Op.floatEq .f64 a c && Op.floatEq .f64 b d)) w := by
  have hS : Tryd.prog.underlying 59 = some (.struct (Tryd.prog.fieldsOf 59)) := by kernel_rfl
  have hp : Tryd.prog.stoodInHeld 59 = false := by kernel_rfl
  have p1 : ∀ (x y : Nat) (w : World), (part 31 #[.float .f64 x, .float .f64 y] 0).run Tryd.prog w = .ok (.float .f64 x) w := fun x y w => by kernel_rfl
  have p2 : ∀ (x y : Nat) (w : World), (part 31 #[.float .f64 x, .float .f64 y] 1).run Tryd.prog w = .ok (.float .f64 y) w := fun x y w => by kernel_rfl
  have hf : ∃ n1 n2 : String, (Tryd.prog.fieldsOf 59).toList.map (fun f => (f.name, f.type, f.offset)) = [(n1, 31, 0), (n2, 31, 1)] ∧ n1 ≠ "_" ∧ n2 ≠ "_" := ⟨"Lo", "Hi", by kernel_rfl, by decide, by decide⟩
  rw [run_eql_struct, show (10000 : Nat) = 9999 + 1 from rfl, run_equalIn_agg w 9999 59 _ _ hS hp]
  obtain ⟨n1, n2, hl, h1, h2⟩ := hf
  generalize (Tryd.prog.fieldsOf 59).toList = fs at hl
  have hlen : fs.length = 2 := by have := congrArg List.length hl; simpa using this
  obtain ⟨f1, f2, rfl⟩ : ∃ f1 f2, fs = [f1, f2] := by
    match fs, hlen with
    | [f1, f2], _ => exact ⟨f1, f2, rfl⟩
  simp only [List.map_cons, List.map_nil, List.cons.injEq, Prod.mk.injEq, and_true] at hl
  obtain ⟨⟨a1, a2, a3⟩, b1, b2, b3⟩ := hl
  simp only [Op.eqFields, a1, a2, a3, b1, b2, b3, ne_eq, h1, h2, not_false_eq_true, if_true, Sem.run_bind, p1, p2, Result.andThen_ok, eq_float, Sem.run_ite, Sem.run_pure]
  cases Op.floatEq .f64 a c <;> cases Op.floatEq .f64 b d <;> simp

theorem binIv_ok {op : BinOp} {t : TypeId} {a b v : Value} (h : binIv op t a b = some v) (m : Mp) (a' b' : Value) (ha : VR m a a') (hb : VR m b b') (x y : Operand) (w : World) :
    ∃ v', (do eqGuard op t x y a' b'; binOp op t a' b').run Tryd.prog w = .ok v' w ∧ VR m v v' := by
  unfold binIv at h
  split at h
  · rename_i a b c d
    split at h
    · rename_i ht
      subst ht
      injection h with h
      subst h
      obtain ⟨a1, b1, rfl, h1, h2⟩ := vr_two ha
      obtain ⟨c1, d1, rfl, h3, h4⟩ := vr_two hb
      refine ⟨_, ?_, .bool _⟩
      have hg : Tryd.prog.eqGuardType Tryd.prog.depth 59 = false := by kernel_rfl
      rw [Sem.run_bind, run_eqGuard_agg w .eql _ x y _ _ hg, Result.andThen_ok, run_eqIv]
      have e1 := order_alike (k := .f64) h1 h3
      have e2 := order_alike (k := .f64) h2 h4
      unfold Op.floatEq
      rw [e1, e2]
    · cases h
  · rename_i a b
    split at h
    · rename_i ht
      subst ht
      injection h with h
      subst h
      cases ha
      cases hb
      exact ⟨_, run_neBool x y w _ _, .bool _⟩
    · cases h
  · rename_i a b
    injection h with h
    subst h
    cases ha
    cases hb
    exact ⟨_, by rw [← eqS_eq]; exact run_eqS t x y _ _ w, .bool _⟩
  · rename_i a b
    split at h
    · rename_i hle
      injection h with h
      subst h
      cases ha
      cases hb
      exact ⟨_, run_addS t x y _ _ (by rw [Nat.ble_eq] at hle; exact hle) w, .string _⟩
    · cases h
  · rename_i a b
    injection h with h
    subst h
    cases ha
    cases hb
    exact ⟨_, by rw [← eqS_eq]; exact run_neS t x y _ _ w, .bool _⟩
  · split at h
    · rename_i ht
      subst ht
      injection h with h
      subst h
      cases ha
      cases hb
      exact ⟨_, run_eqI x y _ _ w, .bool _⟩
    · cases h
  · split at h
    · rename_i ht
      subst ht
      injection h with h
      subst h
      cases ha
      cases hb
      exact ⟨_, run_neI x y _ _ w, .bool _⟩
    · cases h
  · cases h

def base0 : Orc := ⟨fun _ _ _ => none, rows0, binIv⟩
theorem base0_ok : OrcOK Tryd.prog base0 := ⟨fun _ _ _ _ _ h => (by cases h), fun f args v h m args' hv w => rows0_ok h m args' hv w, fun _ _ _ _ _ h m a' b' ha hb x y w => binIv_ok h m a' b' ha hb x y w⟩

theorem mixed0 : Tryd.prog.follows .mixedOrders = true := by kernel_rfl

end Go.Proofs.YtameamgamdaibaaDoor
