/- Abstract values and heaps for the model's memory, and how they stand to real ones: the first text of an interpreter that is proved sound against 'Calls'. -/
import Derived.Orders
import Derived.Calls
import Derived.OwnWalk
import Derived.Laws.CopyRow
import Derived.Deep.AppendSrc
import Derived.Laws.FloatArith
namespace Go.Proofs.Ytclphdmaedpipaa
open Go
set_option linter.unusedVariables false

/-! ### floats: two words are alike when they are one, or both are none -/

def isNan (k : FloatKind) (b : Nat) : Bool := (k.decode b).isNaN
def alikeF (k : FloatKind) (x y : Nat) : Prop := x = y ∨ (isNan k x = true ∧ isNan k y = true)
theorem alikeF.refl (k : FloatKind) (x : Nat) : alikeF k x x := .inl rfl

theorem datum_nan {d : Ieee.Datum} (h : d.isNaN = true) : ∃ s t, d = .nan s t := by
  cases d <;> simp [Ieee.Datum.isNaN] at h
  exact ⟨_, _, rfl⟩
theorem sum_nan_l {d e : Ieee.Datum} (h : d.isNaN = true) : d.sum e = none := by
  obtain ⟨s, t, rfl⟩ := datum_nan h; simp [Ieee.Datum.sum]
theorem sum_nan_r {d e : Ieee.Datum} (h : e.isNaN = true) : d.sum e = none := by
  obtain ⟨s, t, rfl⟩ := datum_nan h; cases d <;> simp [Ieee.Datum.sum]
theorem product_nan_l {d e : Ieee.Datum} (h : d.isNaN = true) : d.product e = none := by
  obtain ⟨s, t, rfl⟩ := datum_nan h; simp [Ieee.Datum.product]
theorem product_nan_r {d e : Ieee.Datum} (h : e.isNaN = true) : d.product e = none := by
  obtain ⟨s, t, rfl⟩ := datum_nan h; cases d <;> simp [Ieee.Datum.product]
theorem quotient_nan_l {d e : Ieee.Datum} (n : Nat) (h : d.isNaN = true) : d.quotient n e = none := by
  obtain ⟨s, t, rfl⟩ := datum_nan h; simp [Ieee.Datum.quotient]
theorem quotient_nan_r {d e : Ieee.Datum} (n : Nat) (h : e.isNaN = true) : d.quotient n e = none := by
  obtain ⟨s, t, rfl⟩ := datum_nan h; cases d <;> simp [Ieee.Datum.quotient]
theorem order_nan_l {d e : Ieee.Datum} (h : d.isNaN = true) : d.order e = none := by
  obtain ⟨s, t, rfl⟩ := datum_nan h; simp [Ieee.Datum.order]
theorem order_nan_r {d e : Ieee.Datum} (h : e.isNaN = true) : d.order e = none := by
  obtain ⟨s, t, rfl⟩ := datum_nan h; cases d <;> simp [Ieee.Datum.order]
theorem opposite_nan {d : Ieee.Datum} (h : d.isNaN = true) : d.opposite.isNaN = true := by
  obtain ⟨s, t, rfl⟩ := datum_nan h; rfl

theorem floatBits_nan_l {op : BinOp} {k : FloatKind} {x y : Nat} (h : isNan k x = true) : floatBits op k x y = none := by
  unfold isNan FloatKind.decode at h
  cases op <;> simp [floatBits, Ieee.Format.add, Ieee.Format.sub, Ieee.Format.mul, Ieee.Format.div, sum_nan_l h, product_nan_l h, quotient_nan_l _ h]
theorem floatBits_nan_r {op : BinOp} {k : FloatKind} {x y : Nat} (h : isNan k y = true) : floatBits op k x y = none := by
  unfold isNan FloatKind.decode at h
  cases op <;> simp [floatBits, Ieee.Format.add, Ieee.Format.sub, Ieee.Format.mul, Ieee.Format.div, sum_nan_r h, sum_nan_r (opposite_nan h), product_nan_r h, quotient_nan_r _ h]
theorem floatBits_alike {op : BinOp} {k : FloatKind} {x x' y y' : Nat} (hx : alikeF k x x') (hy : alikeF k y y') : floatBits op k x' y' = floatBits op k x y := by
  rcases hx with rfl | ⟨a, b⟩
  · rcases hy with rfl | ⟨c, d⟩
    · rfl
    · rw [floatBits_nan_r c, floatBits_nan_r d]
  · rw [floatBits_nan_l a, floatBits_nan_l b]
theorem order_alike {k : FloatKind} {x x' y y' : Nat} (hx : alikeF k x x') (hy : alikeF k y y') : k.format.order x' y' = k.format.order x y := by
  unfold Ieee.Format.order
  rcases hx with rfl | ⟨a, b⟩
  · rcases hy with rfl | ⟨c, d⟩
    · rfl
    · unfold isNan FloatKind.decode at c d; rw [order_nan_r c, order_nan_r d]
  · unfold isNan FloatKind.decode at a b; rw [order_nan_l a, order_nan_l b]

/-- The word that stands here for all that are no numbers. -/
def nanW : FloatKind → Nat
  | .f32 => 0x7fc00000
  | .f64 => 0x7ff8000000000000
theorem isNan_nanW (k : FloatKind) : isNan k (nanW k) = true := by cases k <;> decide +kernel
/-- What an operation of two words gives here. -/
def fop (op : BinOp) (k : FloatKind) (x y : Nat) : Nat := (floatBits op k x y).getD (nanW k)

/-- The answer of the tape to 'which word, that is none'. -/
theorem nanBits_cut (k : FloatKind) (x y t : Nat) : isNan k ((Question.nanBits k x y).cut t) = true := by
  unfold isNan FloatKind.decode Ieee.Format.read
  cases k
  · have h1 : t / 2 % (2 ^ 23 - 1) < 2 ^ 23 - 1 := Nat.mod_lt _ (by decide)
    have h2 : t % 2 < 2 := Nat.mod_lt _ (by decide)
    generalize hz : t / 2 % (2 ^ 23 - 1) = z at *
    generalize hu : t % 2 = u at *
    have he : (Question.nanBits .f32 x y).cut t = u * 2147483648 + 2139095041 + z := by simp [Question.cut, hz, hu, Nat.add_assoc]
    have hs : FloatKind.f32.format.signWeight = 2147483648 := by decide
    have hb : FloatKind.f32.format.binade = 8388608 := by decide
    have hi : FloatKind.f32.format.infRung = 2139095040 := by decide
    rw [he, hs, hb, hi]
    have hm : (u * 2147483648 + 2139095041 + z) % 2147483648 = 2139095041 + z := by omega
    simp only [hm]
    rw [if_neg (by omega), if_neg (by omega), if_neg (by omega)]
    rfl
  · have h1 : t / 2 % (2 ^ 52 - 1) < 2 ^ 52 - 1 := Nat.mod_lt _ (by decide)
    have h2 : t % 2 < 2 := Nat.mod_lt _ (by decide)
    generalize hz : t / 2 % (2 ^ 52 - 1) = z at *
    generalize hu : t % 2 = u at *
    have he : (Question.nanBits .f64 x y).cut t = u * 9223372036854775808 + 9218868437227405313 + z := by simp [Question.cut, hz, hu, Nat.add_assoc]
    have hs : FloatKind.f64.format.signWeight = 9223372036854775808 := by decide
    have hb : FloatKind.f64.format.binade = 4503599627370496 := by decide
    have hi : FloatKind.f64.format.infRung = 9218868437227405312 := by decide
    rw [he, hs, hb, hi]
    have hm : (u * 9223372036854775808 + 9218868437227405313 + z) % 9223372036854775808 = 9218868437227405313 + z := by omega
    simp only [hm]
    rw [if_neg (by omega), if_neg (by omega), if_neg (by omega)]
    rfl

theorem run_floatArith {P : Program} (op : BinOp) (t : TypeId) (k : FloatKind) (x x' y y' : Nat) (hop : op = .add ∨ op = .sub ∨ op = .mul ∨ op = .quo) (hx : alikeF k x x') (hy : alikeF k y y') (w : World) :
    ∃ r n, (binOp op t (.float k x') (.float k y')).run P w = .ok (.float k r) { w with drawn := n } ∧ alikeF k (fop op k x y) r := by
  have hb := floatBits_alike (op := op) hx hy
  cases hr : floatBits op k x y with
  | some r =>
    rw [hr] at hb
    refine ⟨r, w.drawn, run_float_arith (P := P) w op t k x' y' r hb, ?_⟩
    simp [fop, hr, alikeF.refl]
  | none =>
    rw [hr] at hb
    refine ⟨(Question.nanBits k x' y').cut (w.tape w.drawn (.nanBits k x' y')), w.drawn + 1, ?_, ?_⟩
    · unfold floatBits at hb
      rcases hop with rfl | rfl | rfl | rfl <;> simp only at hb <;> simp [binOp, Op.floatArith, hb, choose, Sem.run, Question.forced]
    · exact .inr ⟨by simp [fop, hr, isNan_nanW], nanBits_cut _ _ _ _⟩

/-! ### where a block of here lies in real memory -/

structure Loc where
  blk : Nat
  base : Nat
  size : Nat
  esz : Nat
  own : Bool
  elem : TypeId
  live : Bool

abbrev Mp := Array Loc

def tr (m : Mp) (a : Addr) : Option Addr :=
  match m[a.block]? with
  | some l => if l.live && a.spot.isNone then some ⟨l.blk, l.base + a.off, none⟩ else none
  | none => none

def Ext (m m' : Mp) : Prop := ∀ (b : Nat) (l : Loc), m[b]? = some l → m'[b]? = some l
/-- What is live stays as it is. -/
def ExtL (m m' : Mp) : Prop := ∀ (b : Nat) (l : Loc), m[b]? = some l → l.live = true → m'[b]? = some l
theorem Ext.toL {m m' : Mp} (h : Ext m m') : ExtL m m' := fun b l hb _ => h b l hb
theorem Ext.refl (m : Mp) : Ext m m := fun _ _ h => h
theorem Ext.trans {a b c : Mp} (h : Ext a b) (h' : Ext b c) : Ext a c := fun _ _ hx => h' _ _ (h _ _ hx)
theorem Ext.push (m : Mp) (l : Loc) : Ext m (m.push l) := fun b x hx => by
  have hlt : b < m.size := by
    rcases Nat.lt_or_ge b m.size with h | h
    · exact h
    · simp [Array.getElem?_eq_none h] at hx
  rw [Array.getElem?_push_lt hlt, ← Array.getElem?_eq_getElem hlt, hx]
theorem ExtL.tr {m m' : Mp} (h : ExtL m m') {a a' : Addr} (ht : tr m a = some a') : tr m' a = some a' := by
  unfold Go.Proofs.Ytclphdmaedpipaa.tr at *
  split at ht
  · rename_i l hl
    split at ht
    · rename_i hc
      have hlive : l.live = true := by simp only [Bool.and_eq_true] at hc; exact hc.1
      rw [h _ _ hl hlive]
      simp only
      rw [if_pos hc]
      exact ht
    · cases ht
  · cases ht
theorem tr_live {m : Mp} {a a' : Addr} (ht : tr m a = some a') : ∃ l, m[a.block]? = some l ∧ l.live = true := by
  unfold tr at ht
  split at ht
  · rename_i l hl
    split at ht
    · rename_i hc
      simp only [Bool.and_eq_true] at hc
      exact ⟨l, hl, hc.1⟩
    · cases ht
  · cases ht

/-- How a value of here stands to a real one. -/
inductive VR (m : Mp) : Value → Value → Prop
  | bool (b : Bool) : VR m (.bool b) (.bool b)
  | int (k : IntKind) (n : Int) : VR m (.int k n) (.int k n)
  | float (k : FloatKind) {x y : Nat} (h : alikeF k x y) : VR m (.float k x) (.float k y)
  | string (s : ByteArray) : VR m (.string s) (.string s)
  | nilptr : VR m (.pointer none) (.pointer none)
  | ptr {a a' : Addr} (h : tr m a = some a') : VR m (.pointer (some a)) (.pointer (some a'))
  | nilslice : VR m (.slice none 0 0) (.slice none 0 0)
  | loose (a : Option Addr) (c : Nat) : VR m (.slice none 0 1) (.slice a 0 c)
  | slice {a a' : Addr} {n c c' : Nat} (h : tr m a = some a') (hn : n ≤ c')
      (hr : ∀ l, m[a.block]? = some l → l.own = true → a.off = 0 → c' * l.esz ≤ l.size) : VR m (.slice (some a) n c) (.slice (some a') n c')
  | nilfunc : VR m .nilFunc .nilFunc
  | niliface : VR m .nilIface .nilIface
  | func (fn : Fn) {xs ys us vs : Array Value} (h1 : xs.size = ys.size) (h2 : ∀ i (h : i < xs.size) (h' : i < ys.size), VR m xs[i] ys[i])
      (h3 : us.size = vs.size) (h4 : ∀ i (h : i < us.size) (h' : i < vs.size), VR m us[i] vs[i]) : VR m (.func fn xs us) (.func fn ys vs)
  | iface (t : TypeId) {x y : Value} (h : VR m x y) : VR m (.iface t x) (.iface t y)
  | agg {xs ys : Array Value} (h1 : xs.size = ys.size) (h2 : ∀ i (h : i < xs.size) (h' : i < ys.size), VR m xs[i] ys[i]) : VR m (.agg xs) (.agg ys)
  | tuple {xs ys : Array Value} (h1 : xs.size = ys.size) (h2 : ∀ i (h : i < xs.size) (h' : i < ys.size), VR m xs[i] ys[i]) : VR m (.tuple xs) (.tuple ys)

/-- Rows of values, one by one. -/
def VRs (m : Mp) (xs ys : Array Value) : Prop := xs.size = ys.size ∧ ∀ i (h : i < xs.size) (h' : i < ys.size), VR m xs[i] ys[i]

theorem VR.monoL {m m' : Mp} (he : ExtL m m') {x y : Value} (h : VR m x y) : VR m' x y := by
  induction h with
  | bool b => exact .bool b
  | int k n => exact .int k n
  | float k h => exact .float k h
  | string s => exact .string s
  | nilptr => exact .nilptr
  | ptr h => exact .ptr (he.tr h)
  | nilslice => exact .nilslice
  | loose a c => exact .loose a c
  | @slice a a' n c c' h hn hr =>
    refine .slice (he.tr h) hn fun l hl ho h0 => ?_
    obtain ⟨l0, h1, h2⟩ := tr_live h
    have h3 := he _ _ h1 h2
    rw [hl] at h3
    injection h3 with h3
    subst h3
    exact hr l h1 ho h0
  | nilfunc => exact .nilfunc
  | niliface => exact .niliface
  | func fn h1 _ h3 _ ih2 ih4 => exact .func fn h1 ih2 h3 ih4
  | iface t _ ih => exact .iface t ih
  | agg h1 _ ih => exact .agg h1 ih
  | tuple h1 _ ih => exact .tuple h1 ih

theorem VR.mono {m m' : Mp} (he : Ext m m') {x y : Value} (h : VR m x y) : VR m' x y := h.monoL he.toL
theorem VRs.mono {m m' : Mp} (he : Ext m m') {x y : Array Value} (h : VRs m x y) : VRs m' x y := ⟨h.1, fun i a b => (h.2 i a b).mono he⟩

/-- No place of memory within. -/
def closN : Nat → Value → Bool
  | 0, _ => false
  | d + 1, v => match v with
    | .bool _ | .int .. | .float .. | .string _ | .pointer none | .slice none 0 0 | .nilFunc | .nilIface => true
    | .func _ xs ys => xs.toList.all (closN d) && ys.toList.all (closN d)
    | .iface _ x => closN d x
    | .agg xs | .tuple xs => xs.toList.all (closN d)
    | _ => false

theorem VR.of_clos (m : Mp) : ∀ (d : Nat) (v : Value), closN d v = true → VR m v v
  | 0, _, h => by cases h
  | d + 1, v, h => by
    have ih := VR.of_clos m d
    cases v with
    | bool b => exact .bool b
    | int k n => exact .int k n
    | float k b => exact .float k (.refl _ _)
    | complex k a b => cases h
    | string s => exact .string s
    | pointer a => cases a with
      | none => exact .nilptr
      | some a => cases h
    | slice a n c =>
      cases a with
      | some a => cases h
      | none => cases n with
        | succ n => cases h
        | zero => cases c with
          | zero => exact .nilslice
          | succ c => cases h
    | map r => cases h
    | chan r => cases h
    | func fn xs ys =>
      simp only [closN, Bool.and_eq_true, Array.all_toList, Array.all_eq_true] at h
      exact .func fn rfl (fun i hi _ => ih _ (h.1 i hi)) rfl (fun i hi _ => ih _ (h.2 i hi))
    | nilFunc => exact .nilfunc
    | iface t x => exact .iface t (ih x h)
    | nilIface => exact .niliface
    | agg xs =>
      simp only [closN, Array.all_toList, Array.all_eq_true] at h
      exact .agg rfl fun i hi _ => ih _ (h i hi)
    | tuple xs =>
      simp only [closN, Array.all_toList, Array.all_eq_true] at h
      exact .tuple rfl fun i hi _ => ih _ (h i hi)

/-- What holds of a value without places holds wherever it is. -/
theorem VR.clos_any {m m2 : Mp} : ∀ (d : Nat) (v v' : Value), closN d v = true → VR m v v' → VR m2 v v'
  | 0, _, _, h, _ => by cases h
  | d + 1, v, v', h, r => by
    have ih := fun v v' => VR.clos_any (m := m) (m2 := m2) d v v'
    cases r with
    | bool b => exact .bool b
    | int k n => exact .int k n
    | float k hf => exact .float k hf
    | string s => exact .string s
    | nilptr => exact .nilptr
    | ptr _ => cases h
    | nilslice => exact .nilslice
    | loose a c => cases h
    | slice _ _ _ => cases h
    | nilfunc => exact .nilfunc
    | niliface => exact .niliface
    | func fn h1 h2 h3 h4 =>
      simp only [closN, Bool.and_eq_true, Array.all_toList, Array.all_eq_true] at h
      exact .func fn h1 (fun i hi hi' => ih _ _ (h.1 i hi) (h2 i hi hi')) h3 (fun i hi hi' => ih _ _ (h.2 i hi) (h4 i hi hi'))
    | iface t hx => exact .iface t (ih _ _ h hx)
    | agg h1 h2 =>
      simp only [closN, Array.all_toList, Array.all_eq_true] at h
      exact .agg h1 fun i hi hi' => ih _ _ (h i hi) (h2 i hi hi')
    | tuple h1 h2 =>
      simp only [closN, Array.all_toList, Array.all_eq_true] at h
      exact .tuple h1 fun i hi hi' => ih _ _ (h i hi) (h2 i hi hi')

/-- Just one real value stands to it: no place, and no number that is none. -/
def exactN : Nat → Value → Bool
  | 0, _ => false
  | d + 1, v => match v with
    | .float k b => !isNan k b
    | .bool _ | .int .. | .string _ | .pointer none | .slice none 0 0 | .nilFunc | .nilIface => true
    | .func _ xs ys => xs.toList.all (exactN d) && ys.toList.all (exactN d)
    | .iface _ x => exactN d x
    | .agg xs | .tuple xs => xs.toList.all (exactN d)
    | _ => false

theorem array_eq_of {xs ys : Array Value} (h1 : xs.size = ys.size) (h2 : ∀ i (h : i < xs.size) (h' : i < ys.size), xs[i] = ys[i]) : xs = ys :=
  Array.ext h1 h2

theorem VR.exact {m : Mp} : ∀ (d : Nat) (v v' : Value), exactN d v = true → VR m v v' → v = v'
  | 0, _, _, h, _ => by cases h
  | d + 1, v, v', h, r => by
    have ih := fun v v' => VR.exact (m := m) d v v'
    cases r with
    | bool b => rfl
    | int k n => rfl
    | float k hf =>
      rcases hf with rfl | ⟨ha, _⟩
      · rfl
      · simp [exactN, ha] at h
    | string s => rfl
    | nilptr => rfl
    | ptr _ => cases h
    | nilslice => rfl
    | loose a c => cases h
    | slice _ _ _ => cases h
    | nilfunc => rfl
    | niliface => rfl
    | func fn h1 h2 h3 h4 =>
      simp only [exactN, Bool.and_eq_true, Array.all_toList, Array.all_eq_true] at h
      rw [array_eq_of h1 fun i hi hi' => ih _ _ (h.1 i hi) (h2 i hi hi'), array_eq_of h3 fun i hi hi' => ih _ _ (h.2 i hi) (h4 i hi hi')]
    | iface t hx => rw [ih _ _ h hx]
    | agg h1 h2 =>
      simp only [exactN, Array.all_toList, Array.all_eq_true] at h
      rw [array_eq_of h1 fun i hi hi' => ih _ _ (h i hi) (h2 i hi hi')]
    | tuple h1 h2 =>
      simp only [exactN, Array.all_toList, Array.all_eq_true] at h
      rw [array_eq_of h1 fun i hi hi' => ih _ _ (h i hi) (h2 i hi hi')]

theorem VR.cells_size {m : Mp} {x y : Value} (h : VR m x y) : x.cells.size = y.cells.size := by
  cases h <;> simp [Value.cells, *]
theorem VR.cells {m : Mp} {x y : Value} (h : VR m x y) : VRs m x.cells y.cells := by
  refine ⟨h.cells_size, ?_⟩
  cases h with
  | agg h1 h2 => exact h2
  | _ =>
    intro i hi hi'
    simp only [Value.cells, List.size_toArray, List.length_cons, List.length_nil] at hi
    have : i = 0 := by omega
    subst this
    simp only [Value.cells, List.getElem_toArray, List.getElem_cons_zero]
    first
      | exact .bool _
      | exact .int _ _
      | exact .float _ (by assumption)
      | exact .string _
      | exact .nilptr
      | exact .ptr (by assumption)
      | exact .nilslice
      | exact .loose _ _
      | exact .slice (by assumption) (by assumption) (by assumption)
      | exact .nilfunc
      | exact .niliface
      | exact .func _ (by assumption) (by assumption) (by assumption) (by assumption)
      | exact .iface _ (by assumption)
      | exact .tuple (by assumption) (by assumption)

end Go.Proofs.Ytclphdmaedpipaa
