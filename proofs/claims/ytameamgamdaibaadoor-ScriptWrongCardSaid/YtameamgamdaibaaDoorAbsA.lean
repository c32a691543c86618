/- AbsA / AbsB / AbsC / AbsD / AbsE / AbsF / AbsG / AbsH: several texts in one. -/
import Derived.Orders
import Derived.Calls
import Derived.OwnWalk
import Derived.Laws.CopyRow
import Derived.Deep.AppendSrc
import Derived.Laws.FloatArith
import Derived.Laws.MakeOwn
import Derived.Laws.BytesString
import Derived.Laws.Strings2
import Derived.Lib.ConvBytes
import Derived.Lib.LaidTab
import Derived.Lib.ItoaNum
import Derived.Test.YtameamgamdaibaaDoorProg
/-!  Abstract values and heaps for the model's memory, and how they stand to real ones: the first text of an interpreter that is proved sound against 'Calls'. -/
namespace Go.Proofs.YtameamgamdaibaaDoor
open Go
set_option linter.unusedVariables false

/-! ### floats: two words are alike when they are one, or both are none -/

def isNan (k : FloatKind) (b : Nat) : Bool := (k.decode b).isNaN
def alikeF (k : FloatKind) (x y : Nat) : Prop := x = y ∨ (isNan k x = true ∧ isNan k y = true)
theorem alikeF.refl (k : FloatKind) (x : Nat) : alikeF k x x := .inl rfl

theorem datum_nan {d : Ieee.Datum} (h : d.isNaN = true) : ∃ s t, d = .nan s t := by
  cases d <;> simp [Ieee.Datum.isNaN] at h
  exact ⟨_, _, rfl⟩
theorem sum_nan_l {d e : Ieee.Datum} (h : d.isNaN = true) : d.sum e = none := by
  obtain ⟨s, t, rfl⟩ := datum_nan h; simp [Ieee.Datum.sum]
theorem sum_nan_r {d e : Ieee.Datum} (h : e.isNaN = true) : d.sum e = none := by
  obtain ⟨s, t, rfl⟩ := datum_nan h; cases d <;> simp [Ieee.Datum.sum]
theorem product_nan_l {d e : Ieee.Datum} (h : d.isNaN = true) : d.product e = none := by
  obtain ⟨s, t, rfl⟩ := datum_nan h; simp [Ieee.Datum.product]
theorem product_nan_r {d e : Ieee.Datum} (h : e.isNaN = true) : d.product e = none := by
  obtain ⟨s, t, rfl⟩ := datum_nan h; cases d <;> simp [Ieee.Datum.product]
theorem quotient_nan_l {d e : Ieee.Datum} (n : Nat) (h : d.isNaN = true) : d.quotient n e = none := by
  obtain ⟨s, t, rfl⟩ := datum_nan h; simp [Ieee.Datum.quotient]
theorem quotient_nan_r {d e : Ieee.Datum} (n : Nat) (h : e.isNaN = true) : d.quotient n e = none := by
  obtain ⟨s, t, rfl⟩ := datum_nan h; cases d <;> simp [Ieee.Datum.quotient]
theorem order_nan_l {d e : Ieee.Datum} (h : d.isNaN = true) : d.order e = none := by
  obtain ⟨s, t, rfl⟩ := datum_nan h; simp [Ieee.Datum.order]
theorem order_nan_r {d e : Ieee.Datum} (h : e.isNaN = true) : d.order e = none := by
  obtain ⟨s, t, rfl⟩ := datum_nan h; cases d <;> simp [Ieee.Datum.order]
theorem opposite_nan {d : Ieee.Datum} (h : d.isNaN = true) : d.opposite.isNaN = true := by
  obtain ⟨s, t, rfl⟩ := datum_nan h; rfl

theorem floatBits_nan_l {op : BinOp} {k : FloatKind} {x y : Nat} (h : isNan k x = true) : floatBits op k x y = none := by
  unfold isNan FloatKind.decode at h
  cases op <;> simp [floatBits, Ieee.Format.add, Ieee.Format.sub, Ieee.Format.mul, Ieee.Format.div, sum_nan_l h, product_nan_l h, quotient_nan_l _ h]
theorem floatBits_nan_r {op : BinOp} {k : FloatKind} {x y : Nat} (h : isNan k y = true) : floatBits op k x y = none := by
  unfold isNan FloatKind.decode at h
  cases op <;> simp [floatBits, Ieee.Format.add, Ieee.Format.sub, Ieee.Format.mul, Ieee.Format.div, sum_nan_r h, sum_nan_r (opposite_nan h), product_nan_r h, quotient_nan_r _ h]
theorem floatBits_alike {op : BinOp} {k : FloatKind} {x x' y y' : Nat} (hx : alikeF k x x') (hy : alikeF k y y') : floatBits op k x' y' = floatBits op k x y := by
  rcases hx with rfl | ⟨a, b⟩
  · rcases hy with rfl | ⟨c, d⟩
    · rfl
    · rw [floatBits_nan_r c, floatBits_nan_r d]
  · rw [floatBits_nan_l a, floatBits_nan_l b]
theorem order_alike {k : FloatKind} {x x' y y' : Nat} (hx : alikeF k x x') (hy : alikeF k y y') : k.format.order x' y' = k.format.order x y := by
  unfold Ieee.Format.order
  rcases hx with rfl | ⟨a, b⟩
  · rcases hy with rfl | ⟨c, d⟩
    · rfl
    · unfold isNan FloatKind.decode at c d; rw [order_nan_r c, order_nan_r d]
  · unfold isNan FloatKind.decode at a b; rw [order_nan_l a, order_nan_l b]

/-- The word that stands here for all that are no numbers. -/
def nanW : FloatKind → Nat
  | .f32 => 0x7fc00000
  | .f64 => 0x7ff8000000000000
theorem isNan_nanW (k : FloatKind) : isNan k (nanW k) = true := by cases k <;> decide +kernel
/-- What an operation of two words gives here. -/
def fop (op : BinOp) (k : FloatKind) (x y : Nat) : Nat := (floatBits op k x y).getD (nanW k)

/-- The answer of the tape to 'which word, that is none'. -/
theorem nanBits_cut (k : FloatKind) (x y t : Nat) : isNan k ((Question.nanBits k x y).cut t) = true := by
  unfold isNan FloatKind.decode Ieee.Format.read
  cases k
  · have h1 : t / 2 % (2 ^ 23 - 1) < 2 ^ 23 - 1 := Nat.mod_lt _ (by decide)
    have h2 : t % 2 < 2 := Nat.mod_lt _ (by decide)
    generalize hz : t / 2 % (2 ^ 23 - 1) = z at *
    generalize hu : t % 2 = u at *
    have he : (Question.nanBits .f32 x y).cut t = u * 2147483648 + 2139095041 + z := by simp [Question.cut, hz, hu, Nat.add_assoc]
    have hs : FloatKind.f32.format.signWeight = 2147483648 := by decide
    have hb : FloatKind.f32.format.binade = 8388608 := by decide
    have hi : FloatKind.f32.format.infRung = 2139095040 := by decide
    rw [he, hs, hb, hi]
    have hm : (u * 2147483648 + 2139095041 + z) % 2147483648 = 2139095041 + z := by omega
    simp only [hm]
    rw [if_neg (by omega), if_neg (by omega), if_neg (by omega)]
    rfl
  · have h1 : t / 2 % (2 ^ 52 - 1) < 2 ^ 52 - 1 := Nat.mod_lt _ (by decide)
    have h2 : t % 2 < 2 := Nat.mod_lt _ (by decide)
    generalize hz : t / 2 % (2 ^ 52 - 1) = z at *
    generalize hu : t % 2 = u at *
    have he : (Question.nanBits .f64 x y).cut t = u * 9223372036854775808 + 9218868437227405313 + z := by simp [Question.cut, hz, hu, Nat.add_assoc]
    have hs : FloatKind.f64.format.signWeight = 9223372036854775808 := by decide
    have hb : FloatKind.f64.format.binade = 4503599627370496 := by decide
    have hi : FloatKind.f64.format.infRung = 9218868437227405312 := by decide
    rw [he, hs, hb, hi]
    have hm : (u * 9223372036854775808 + 9218868437227405313 + z) % 9223372036854775808 = 9218868437227405313 + z := by omega
    simp only [hm]
    rw [if_neg (by omega), if_neg (by omega), if_neg (by omega)]
    rfl

theorem run_floatArith {P : Program} (op : BinOp) (t : TypeId) (k : FloatKind) (x x' y y' : Nat) (hop : op = .add ∨ op = .sub ∨ op = .mul ∨ op = .quo) (hx : alikeF k x x') (hy : alikeF k y y') (w : World) :
    ∃ r n, (binOp op t (.float k x') (.float k y')).run P w = .ok (.float k r) { w with drawn := n } ∧ alikeF k (fop op k x y) r := by
  have hb := floatBits_alike (op := op) hx hy
  cases hr : floatBits op k x y with
  | some r =>
    rw [hr] at hb
    refine ⟨r, w.drawn, run_float_arith (P := P) w op t k x' y' r hb, ?_⟩
    simp [fop, hr, alikeF.refl]
  | none =>
    rw [hr] at hb
    refine ⟨(Question.nanBits k x' y').cut (w.tape w.drawn (.nanBits k x' y')), w.drawn + 1, ?_, ?_⟩
    · unfold floatBits at hb
      rcases hop with rfl | rfl | rfl | rfl <;> simp only at hb <;> simp [binOp, Op.floatArith, hb, choose, Sem.run, Question.forced]
    · exact .inr ⟨by simp [fop, hr, isNan_nanW], nanBits_cut _ _ _ _⟩

/-! ### where a block of here lies in real memory -/

structure Loc where
  blk : Nat
  base : Nat
  size : Nat
  esz : Nat
  own : Bool
  elem : TypeId
  live : Bool

abbrev Mp := Array Loc

def tr (m : Mp) (a : Addr) : Option Addr :=
  match m[a.block]? with
  | some l => if l.live && a.spot.isNone then some ⟨l.blk, l.base + a.off, none⟩ else none
  | none => none

def Ext (m m' : Mp) : Prop := ∀ (b : Nat) (l : Loc), m[b]? = some l → m'[b]? = some l
/-- What is live stays as it is. -/
def ExtL (m m' : Mp) : Prop := ∀ (b : Nat) (l : Loc), m[b]? = some l → l.live = true → m'[b]? = some l
theorem Ext.toL {m m' : Mp} (h : Ext m m') : ExtL m m' := fun b l hb _ => h b l hb
theorem Ext.refl (m : Mp) : Ext m m := fun _ _ h => h
theorem Ext.trans {a b c : Mp} (h : Ext a b) (h' : Ext b c) : Ext a c := fun _ _ hx => h' _ _ (h _ _ hx)
theorem Ext.push (m : Mp) (l : Loc) : Ext m (m.push l) := fun b x hx => by
  have hlt : b < m.size := by
    rcases Nat.lt_or_ge b m.size with h | h
    · exact h
    · simp [Array.getElem?_eq_none h] at hx
  rw [Array.getElem?_push_lt hlt, ← Array.getElem?_eq_getElem hlt, hx]
theorem ExtL.tr {m m' : Mp} (h : ExtL m m') {a a' : Addr} (ht : tr m a = some a') : tr m' a = some a' := by
  unfold Go.Proofs.YtameamgamdaibaaDoor.tr at *
  split at ht
  · rename_i l hl
    split at ht
    · rename_i hc
      have hlive : l.live = true := by simp only [Bool.and_eq_true] at hc; exact hc.1
      rw [h _ _ hl hlive]
      simp only
      rw [if_pos hc]
      exact ht
    · cases ht
  · cases ht
theorem tr_live {m : Mp} {a a' : Addr} (ht : tr m a = some a') : ∃ l, m[a.block]? = some l ∧ l.live = true := by
  unfold tr at ht
  split at ht
  · rename_i l hl
    split at ht
    · rename_i hc
      simp only [Bool.and_eq_true] at hc
      exact ⟨l, hl, hc.1⟩
    · cases ht
  · cases ht

/-- How a value of here stands to a real one. -/
inductive VR (m : Mp) : Value → Value → Prop
  | bool (b : Bool) : VR m (.bool b) (.bool b)
  | int (k : IntKind) (n : Int) : VR m (.int k n) (.int k n)
  | float (k : FloatKind) {x y : Nat} (h : alikeF k x y) : VR m (.float k x) (.float k y)
  | string (s : ByteArray) : VR m (.string s) (.string s)
  | nilptr : VR m (.pointer none) (.pointer none)
  | ptr {a a' : Addr} (h : tr m a = some a') : VR m (.pointer (some a)) (.pointer (some a'))
  | nilslice : VR m (.slice none 0 0) (.slice none 0 0)
  | loose (a : Option Addr) (c : Nat) : VR m (.slice none 0 1) (.slice a 0 c)
  | slice {a a' : Addr} {n c c' : Nat} (h : tr m a = some a') (hn : n ≤ c')
      (hr : ∀ l, m[a.block]? = some l → l.own = true → a.off = 0 → c' * l.esz ≤ l.size) : VR m (.slice (some a) n c) (.slice (some a') n c')
  | nilfunc : VR m .nilFunc .nilFunc
  | niliface : VR m .nilIface .nilIface
  | func (fn : Fn) {xs ys us vs : Array Value} (h1 : xs.size = ys.size) (h2 : ∀ i (h : i < xs.size) (h' : i < ys.size), VR m xs[i] ys[i])
      (h3 : us.size = vs.size) (h4 : ∀ i (h : i < us.size) (h' : i < vs.size), VR m us[i] vs[i]) : VR m (.func fn xs us) (.func fn ys vs)
  | iface (t : TypeId) {x y : Value} (h : VR m x y) : VR m (.iface t x) (.iface t y)
  | agg {xs ys : Array Value} (h1 : xs.size = ys.size) (h2 : ∀ i (h : i < xs.size) (h' : i < ys.size), VR m xs[i] ys[i]) : VR m (.agg xs) (.agg ys)
  | tuple {xs ys : Array Value} (h1 : xs.size = ys.size) (h2 : ∀ i (h : i < xs.size) (h' : i < ys.size), VR m xs[i] ys[i]) : VR m (.tuple xs) (.tuple ys)
  | any (v : Value) : VR m (.map none) v

/-- What nothing is known of. -/
def anyV : Value := .map none
def notAny : Value → Bool
  | .map none => false
  | _ => true
def oneC (v : Value) : Bool := v.oneCell' && notAny v

/-- Rows of values, one by one. -/
def VRs (m : Mp) (xs ys : Array Value) : Prop := xs.size = ys.size ∧ ∀ i (h : i < xs.size) (h' : i < ys.size), VR m xs[i] ys[i]

theorem VR.monoL {m m' : Mp} (he : ExtL m m') {x y : Value} (h : VR m x y) : VR m' x y := by
  induction h with
  | bool b => exact .bool b
  | int k n => exact .int k n
  | float k h => exact .float k h
  | string s => exact .string s
  | nilptr => exact .nilptr
  | ptr h => exact .ptr (he.tr h)
  | nilslice => exact .nilslice
  | loose a c => exact .loose a c
  | @slice a a' n c c' h hn hr =>
    refine .slice (he.tr h) hn fun l hl ho h0 => ?_
    obtain ⟨l0, h1, h2⟩ := tr_live h
    have h3 := he _ _ h1 h2
    rw [hl] at h3
    injection h3 with h3
    subst h3
    exact hr l h1 ho h0
  | nilfunc => exact .nilfunc
  | niliface => exact .niliface
  | func fn h1 _ h3 _ ih2 ih4 => exact .func fn h1 ih2 h3 ih4
  | iface t _ ih => exact .iface t ih
  | agg h1 _ ih => exact .agg h1 ih
  | tuple h1 _ ih => exact .tuple h1 ih
  | any v => exact .any v

theorem VR.mono {m m' : Mp} (he : Ext m m') {x y : Value} (h : VR m x y) : VR m' x y := h.monoL he.toL
theorem VRs.mono {m m' : Mp} (he : Ext m m') {x y : Array Value} (h : VRs m x y) : VRs m' x y := ⟨h.1, fun i a b => (h.2 i a b).mono he⟩

/-- No place of memory within. -/
def closN : Nat → Value → Bool
  | 0, _ => false
  | d + 1, v => match v with
    | .bool _ | .int .. | .float .. | .string _ | .pointer none | .slice none 0 0 | .nilFunc | .nilIface => true
    | .func _ xs ys => xs.toList.all (closN d) && ys.toList.all (closN d)
    | .iface _ x => closN d x
    | .agg xs | .tuple xs => xs.toList.all (closN d)
    | _ => false

theorem VR.of_clos (m : Mp) : ∀ (d : Nat) (v : Value), closN d v = true → VR m v v
  | 0, _, h => by cases h
  | d + 1, v, h => by
    have ih := VR.of_clos m d
    cases v with
    | bool b => exact .bool b
    | int k n => exact .int k n
    | float k b => exact .float k (.refl _ _)
    | complex k a b => cases h
    | string s => exact .string s
    | pointer a => cases a with
      | none => exact .nilptr
      | some a => cases h
    | slice a n c =>
      cases a with
      | some a => cases h
      | none => cases n with
        | succ n => cases h
        | zero => cases c with
          | zero => exact .nilslice
          | succ c => cases h
    | map r => cases h
    | chan r => cases h
    | func fn xs ys =>
      simp only [closN, Bool.and_eq_true, Array.all_toList, Array.all_eq_true] at h
      exact .func fn rfl (fun i hi _ => ih _ (h.1 i hi)) rfl (fun i hi _ => ih _ (h.2 i hi))
    | nilFunc => exact .nilfunc
    | iface t x => exact .iface t (ih x h)
    | nilIface => exact .niliface
    | agg xs =>
      simp only [closN, Array.all_toList, Array.all_eq_true] at h
      exact .agg rfl fun i hi _ => ih _ (h i hi)
    | tuple xs =>
      simp only [closN, Array.all_toList, Array.all_eq_true] at h
      exact .tuple rfl fun i hi _ => ih _ (h i hi)

/-- What holds of a value without places holds wherever it is. -/
theorem VR.clos_any {m m2 : Mp} : ∀ (d : Nat) (v v' : Value), closN d v = true → VR m v v' → VR m2 v v'
  | 0, _, _, h, _ => by cases h
  | d + 1, v, v', h, r => by
    have ih := fun v v' => VR.clos_any (m := m) (m2 := m2) d v v'
    cases r with
    | bool b => exact .bool b
    | int k n => exact .int k n
    | float k hf => exact .float k hf
    | string s => exact .string s
    | nilptr => exact .nilptr
    | ptr _ => cases h
    | nilslice => exact .nilslice
    | loose a c => cases h
    | slice _ _ _ => cases h
    | nilfunc => exact .nilfunc
    | niliface => exact .niliface
    | func fn h1 h2 h3 h4 =>
      simp only [closN, Bool.and_eq_true, Array.all_toList, Array.all_eq_true] at h
      exact .func fn h1 (fun i hi hi' => ih _ _ (h.1 i hi) (h2 i hi hi')) h3 (fun i hi hi' => ih _ _ (h.2 i hi) (h4 i hi hi'))
    | iface t hx => exact .iface t (ih _ _ h hx)
    | agg h1 h2 =>
      simp only [closN, Array.all_toList, Array.all_eq_true] at h
      exact .agg h1 fun i hi hi' => ih _ _ (h i hi) (h2 i hi hi')
    | tuple h1 h2 =>
      simp only [closN, Array.all_toList, Array.all_eq_true] at h
      exact .tuple h1 fun i hi hi' => ih _ _ (h i hi) (h2 i hi hi')
    | any v => cases h

/-- Just one real value stands to it: no place, and no number that is none. -/
def exactN : Nat → Value → Bool
  | 0, _ => false
  | d + 1, v => match v with
    | .float k b => !isNan k b
    | .bool _ | .int .. | .string _ | .pointer none | .slice none 0 0 | .nilFunc | .nilIface => true
    | .func _ xs ys => xs.toList.all (exactN d) && ys.toList.all (exactN d)
    | .iface _ x => exactN d x
    | .agg xs | .tuple xs => xs.toList.all (exactN d)
    | _ => false

theorem array_eq_of {xs ys : Array Value} (h1 : xs.size = ys.size) (h2 : ∀ i (h : i < xs.size) (h' : i < ys.size), xs[i] = ys[i]) : xs = ys :=
  Array.ext h1 h2

theorem VR.exact {m : Mp} : ∀ (d : Nat) (v v' : Value), exactN d v = true → VR m v v' → v = v'
  | 0, _, _, h, _ => by cases h
  | d + 1, v, v', h, r => by
    have ih := fun v v' => VR.exact (m := m) d v v'
    cases r with
    | bool b => rfl
    | int k n => rfl
    | float k hf =>
      rcases hf with rfl | ⟨ha, _⟩
      · rfl
      · simp [exactN, ha] at h
    | string s => rfl
    | nilptr => rfl
    | ptr _ => cases h
    | nilslice => rfl
    | loose a c => cases h
    | slice _ _ _ => cases h
    | nilfunc => rfl
    | niliface => rfl
    | func fn h1 h2 h3 h4 =>
      simp only [exactN, Bool.and_eq_true, Array.all_toList, Array.all_eq_true] at h
      rw [array_eq_of h1 fun i hi hi' => ih _ _ (h.1 i hi) (h2 i hi hi'), array_eq_of h3 fun i hi hi' => ih _ _ (h.2 i hi) (h4 i hi hi')]
    | iface t hx => rw [ih _ _ h hx]
    | agg h1 h2 =>
      simp only [exactN, Array.all_toList, Array.all_eq_true] at h
      rw [array_eq_of h1 fun i hi hi' => ih _ _ (h i hi) (h2 i hi hi')]
    | tuple h1 h2 =>
      simp only [exactN, Array.all_toList, Array.all_eq_true] at h
      rw [array_eq_of h1 fun i hi hi' => ih _ _ (h i hi) (h2 i hi hi')]
    | any v => cases h

theorem VR.cells_size {m : Mp} {x y : Value} (h : VR m x y) (hn : notAny x = true) : x.cells.size = y.cells.size := by
  cases h <;> first | (simp [Value.cells, *]; done) | cases hn
theorem VR.cells {m : Mp} {x y : Value} (h : VR m x y) (hn : notAny x = true) : VRs m x.cells y.cells := by
  refine ⟨h.cells_size hn, ?_⟩
  cases h with
  | agg h1 h2 => exact h2
  | any v => cases hn
  | _ =>
    intro i hi hi'
    simp only [Value.cells, List.size_toArray, List.length_cons, List.length_nil] at hi
    have : i = 0 := by omega
    subst this
    simp only [Value.cells, List.getElem_toArray, List.getElem_cons_zero]
    first
      | exact .bool _
      | exact .int _ _
      | exact .float _ (by assumption)
      | exact .string _
      | exact .nilptr
      | exact .ptr (by assumption)
      | exact .nilslice
      | exact .loose _ _
      | exact .slice (by assumption) (by assumption) (by assumption)
      | exact .nilfunc
      | exact .niliface
      | exact .func _ (by assumption) (by assumption) (by assumption) (by assumption)
      | exact .iface _ (by assumption)
      | exact .tuple (by assumption) (by assumption)

end Go.Proofs.YtameamgamdaibaaDoor

/-!  Abstract heaps: how a heap of here stands to real memory, and what keeps that: a new block, a store, a block given up for a longer one. -/
namespace Go.Proofs.YtameamgamdaibaaDoor
open Go
set_option linter.unusedVariables false

structure ABlk where
  cells : Array Value
  elem : TypeId
  esz : Nat
  own : Bool

abbrev AHeap := Array (Option ABlk)

/-- The blocks that the run may write. -/
def FP (H : AHeap) (m : Mp) (g : Nat) : Prop := ∃ (b : Nat) (B : ABlk) (l : Loc), H[b]? = some (some B) ∧ B.own = true ∧ m[b]? = some l ∧ l.blk = g

/-- A block of here and the real one. -/
structure BR (m : Mp) (w : World) (B : ABlk) (l : Loc) (cs : Array Value) (fr : Nat × Nat) : Prop where
  real : w.heap[l.blk]? = some (.cells cs l.elem fr)
  size : cs.size = l.size
  own : B.own = true → l.own = true
  mine : B.own = true → fr = (0, 0) ∧ l.base = 0 ∧ l.elem = B.elem ∧ l.esz = B.esz
  fits : l.base + B.cells.size ≤ cs.size
  vals : ∀ (i : Nat) (v : Value), B.cells[i]? = some v → ∃ v', cs[l.base + i]? = some v' ∧ VR m v v'
  live : l.live = true

/-- Package-level variables lie in the first blocks; what those of Go's library hold that this seat's walks may meet. -/
noncomputable def NG : Nat := Tryd.prog.globals.size
structure Lay (w : World) : Prop where
  size : NG ≤ w.heap.size
  tab : Lib.TabIs Tryd.prog w "internal/strconv.uint64pow10" .u64 Lib.pow10Tab
  most : ∃ m, w.cell? ⟨1, 0, none⟩ = some (.int .i64 m)
  syn : ∃ tp p, w.var? Tryd.prog "strconv.ErrSyntax" = some #[.iface tp p]
  ran : ∃ tp p, w.var? Tryd.prog "strconv.ErrRange" = some #[.iface tp p]
theorem globalNamed_lt {P : Program} {n : String} {g : Nat} (h : P.globalNamed n = some g) : g < P.globals.size := by
  unfold Program.globalNamed at h
  split at h
  · rename_i x e
    injection h with h; subst h
    have : x ∈ (List.range P.globals.size).filter fun g => (P.globals[g]?).any (·.name == n) := by rw [e]; simp
    rw [List.mem_filter, List.mem_range] at this
    exact this.1
  · cases h
theorem var_same {w w' : World} (hs : ∀ g, g < NG → w'.heap[g]? = w.heap[g]?) (n : String) : w'.var? Tryd.prog n = w.var? Tryd.prog n := by
  unfold World.var?
  cases h : Tryd.prog.globalNamed n with
  | none => rfl
  | some g => simp only [Option.bind_some]; rw [hs g (globalNamed_lt h)]

structure HR0 (H : AHeap) (m : Mp) (w : World) : Prop where
  size : m.size = H.size
  old : ∀ (b : Nat) (l : Loc), m[b]? = some l → l.live = true → l.blk < w.heap.size
  blk : ∀ (b : Nat) (B : ABlk), H[b]? = some (some B) → ∃ l cs fr, m[b]? = some l ∧ BR m w B l cs fr
  inj : ∀ (b b' : Nat) (B B' : ABlk) (l l' : Loc), H[b]? = some (some B) → H[b']? = some (some B') → m[b]? = some l → m[b']? = some l' → B.own = true → l.blk = l'.blk → b = b'

theorem HR0.oldB {H : AHeap} {m : Mp} {w : World} (h : HR0 H m w) {b : Nat} {B : ABlk} {l : Loc} (hb : H[b]? = some (some B)) (hl : m[b]? = some l) : l.blk < w.heap.size := by
  obtain ⟨l', cs, fr, hl', r⟩ := h.blk b B hb
  rw [hl] at hl'
  injection hl' with e
  subst e
  exact h.old b l hl r.live

structure Step (H : AHeap) (m : Mp) (w : World) (H' : AHeap) (m' : Mp) (w' : World) : Prop where
  ext : Ext m m'
  os : w'.os = w.os
  tape : w'.tape = w.tape
  output : w'.output = w.output
  size : w.heap.size ≤ w'.heap.size
  keep : ∀ g, g < w.heap.size → ¬ FP H m g → w'.heap[g]? = w.heap[g]?
  fp : ∀ g, FP H' m' g → FP H m g ∨ w.heap.size ≤ g

theorem Step.refl (H : AHeap) (m : Mp) (w : World) : Step H m w H m w :=
  ⟨.refl m, rfl, rfl, rfl, Nat.le_refl _, fun _ _ _ => rfl, fun _ h => .inl h⟩

theorem Step.trans {H H1 H2 : AHeap} {m m1 m2 : Mp} {w w1 w2 : World} (a : Step H m w H1 m1 w1) (b : Step H1 m1 w1 H2 m2 w2) : Step H m w H2 m2 w2 where
  ext := a.ext.trans b.ext
  os := b.os.trans a.os
  tape := b.tape.trans a.tape
  output := b.output.trans a.output
  size := Nat.le_trans a.size b.size
  keep := fun g hg hn => (b.keep g (Nat.lt_of_lt_of_le hg a.size) (fun h => (a.fp g h).elim hn (fun h' => absurd hg (by omega)))).trans (a.keep g hg hn)
  fp := fun g h => (b.fp g h).elim (a.fp g) (fun h' => .inr (Nat.le_trans a.size h'))

structure HR (H : AHeap) (m : Mp) (w : World) : Prop extends HR0 H m w where
  lay : Lay w
  far : ∀ g, g < NG → ¬ FP H m g
theorem ng_most : 1 < NG := by decide +kernel
theorem Lay.lt {w : World} (h : Lay w) {g : Nat} (hg : g < NG) : g < w.heap.size := Nat.lt_of_lt_of_le hg h.size
theorem Lay.same {w w' : World} (h : Lay w) (hz : w.heap.size ≤ w'.heap.size) (e : ∀ g, g < NG → w'.heap[g]? = w.heap[g]?) : Lay w' := by
  refine ⟨Nat.le_trans h.size hz, ?_, ?_, ?_, ?_⟩
  · unfold Lib.TabIs; rw [var_same e]; exact h.tab
  · obtain ⟨m, hm⟩ := h.most
    exact ⟨m, by unfold World.cell? at hm ⊢; rw [e _ ng_most]; exact hm⟩
  · rw [var_same e]; exact h.syn
  · rw [var_same e]; exact h.ran
theorem HR.step {H H' : AHeap} {m m' : Mp} {w w' : World} (h : HR H m w) (h0 : HR0 H' m' w') (hz : w.heap.size ≤ w'.heap.size) (keep : ∀ g, g < w.heap.size → ¬ FP H m g → w'.heap[g]? = w.heap[g]?) (fp : ∀ g, FP H' m' g → FP H m g ∨ w.heap.size ≤ g) : HR H' m' w' :=
  ⟨h0, h.lay.same hz fun g hg => keep g (h.lay.lt hg) (h.far g hg), fun g hg f => (fp g f).elim (h.far g hg) fun hle => by have := h.lay.lt hg; omega⟩
theorem HR.pair {H H' : AHeap} {m m' : Mp} {w w' : World} (h : HR H m w) (x : HR0 H' m' w' ∧ Step H m w H' m' w') : HR H' m' w' ∧ Step H m w H' m' w' := ⟨h.step x.1 x.2.size x.2.keep x.2.fp, x.2⟩

theorem Step.drawn (H : AHeap) (m : Mp) (w : World) (n : Nat) : Step H m w H m { w with drawn := n } :=
  ⟨.refl m, rfl, rfl, rfl, Nat.le_refl _, fun _ _ _ => rfl, fun _ h => .inl h⟩
theorem HR0.drawn {H : AHeap} {m : Mp} {w : World} (h : HR0 H m w) (n : Nat) : HR0 H m { w with drawn := n } :=
  ⟨h.size, h.old, fun b B hb => let ⟨l, cs, fr, hl, r⟩ := h.blk b B hb; ⟨l, cs, fr, hl, ⟨r.real, r.size, r.own, r.mine, r.fits, r.vals, r.live⟩⟩, h.inj⟩

theorem lt_of_get {α : Type} {a : Array α} {i : Nat} {x : α} (h : a[i]? = some x) : i < a.size := by
  rcases Nat.lt_or_ge i a.size with hl | hl
  · exact hl
  · rw [Array.getElem?_eq_none hl] at h; cases h

theorem get_push {α : Type} (a : Array α) (x : α) (i : Nat) (y : α) (h : (a.push x)[i]? = some y) : a[i]? = some y ∨ (i = a.size ∧ x = y) := by
  rcases Nat.lt_trichotomy i a.size with hl | hl | hl
  · rw [Array.getElem?_push_lt hl, ← Array.getElem?_eq_getElem hl] at h; exact .inl h
  · subst hl; simp at h; exact .inr ⟨rfl, h⟩
  · rw [Array.getElem?_eq_none (by simp; omega)] at h; cases h
theorem push_get {α : Type} {a : Array α} {x : α} {i : Nat} {y : α} (h : a[i]? = some y) : (a.push x)[i]? = some y := by
  have hl := lt_of_get h
  rw [Array.getElem?_push_lt hl, ← Array.getElem?_eq_getElem hl]; exact h
theorem push_new {α : Type} (a : Array α) (x : α) : (a.push x)[a.size]? = some x := by simp

theorem BR.mono {m m' : Mp} {w w' : World} {B : ABlk} {l : Loc} {cs : Array Value} {fr : Nat × Nat} (h : BR m w B l cs fr) (he : Ext m m')
    (hw : w'.heap[l.blk]? = w.heap[l.blk]?) : BR m' w' B l cs fr :=
  ⟨hw.trans h.real, h.size, h.own, h.mine, h.fits, fun i v hv => let ⟨v', a, b⟩ := h.vals i v hv; ⟨v', a, b.mono he⟩, h.live⟩

theorem BR.monoL {m m' : Mp} {w w' : World} {B : ABlk} {l : Loc} {cs : Array Value} {fr : Nat × Nat} (h : BR m w B l cs fr) (he : ExtL m m')
    (hw : w'.heap[l.blk]? = w.heap[l.blk]?) : BR m' w' B l cs fr :=
  ⟨hw.trans h.real, h.size, h.own, h.mine, h.fits, fun i v hv => let ⟨v', a, b⟩ := h.vals i v hv; ⟨v', a, b.monoL he⟩, h.live⟩

theorem alloc_new (w : World) (o : Obj) : (w.alloc o).heap[w.heap.size]? = some o := by
  show (w.heap.push o)[w.heap.size]? = _
  simp
theorem alloc_old (w : World) (o : Obj) {r : Nat} (h : r < w.heap.size) : (w.alloc o).heap[r]? = w.heap[r]? := by
  show (w.heap.push o)[r]? = _
  rw [Array.getElem?_push_lt h, Array.getElem?_eq_getElem h]

/-- A NEW BLOCK. -/
theorem HR0.alloc {H : AHeap} {m : Mp} {w : World} (h : HR0 H m w) (cells cs : Array Value) (elem : TypeId) (esz : Nat) (hle : cells.size ≤ cs.size)
    (hv : ∀ (i : Nat) (v : Value), cells[i]? = some v → ∃ v', cs[i]? = some v' ∧ VR m v v') :
    HR0 (H.push (some ⟨cells, elem, esz, true⟩)) (m.push ⟨w.heap.size, 0, cs.size, esz, true, elem, true⟩) (w.alloc (.cells cs elem)) ∧
    Step H m w (H.push (some ⟨cells, elem, esz, true⟩)) (m.push ⟨w.heap.size, 0, cs.size, esz, true, elem, true⟩) (w.alloc (.cells cs elem)) := by
  have he : Ext m (m.push ⟨w.heap.size, 0, cs.size, esz, true, elem, true⟩) := .push _ _
  have hnew : (w.alloc (.cells cs elem)).heap[w.heap.size]? = some (.cells cs elem (0, 0)) := alloc_new w _
  refine ⟨⟨by simp [h.size], ?_, ?_, ?_⟩, ⟨he, rfl, rfl, rfl, by simp, fun g hg _ => alloc_old w _ hg, ?_⟩⟩
  · intro b l hl hv2
    rcases get_push _ _ _ _ hl with h1 | ⟨rfl, rfl⟩
    · have := h.old b l h1 hv2; simp; omega
    · simp
  · intro b B hb
    rcases get_push _ _ _ _ hb with h1 | ⟨rfl, hB⟩
    · obtain ⟨l, cs', fr, hl, r⟩ := h.blk b B h1
      exact ⟨l, cs', fr, push_get hl, r.mono he (alloc_old w _ (h.old b l hl r.live))⟩
    · injection hB with hB; subst hB
      refine ⟨⟨w.heap.size, 0, cs.size, esz, true, elem, true⟩, cs, (0, 0), ?_, ⟨hnew, rfl, fun _ => rfl, fun _ => ⟨rfl, rfl, rfl, rfl⟩, by simpa using hle, ?_, rfl⟩⟩
      · rw [← h.size]; exact push_new _ _
      · intro i v hi
        obtain ⟨v', h1, h2⟩ := hv i v hi
        exact ⟨v', by simpa using h1, h2.mono he⟩
  · intro b b' B B' l l' hb hb' hl hl' ho heq
    rcases get_push _ _ _ _ hb with h1 | ⟨rfl, hB⟩ <;> rcases get_push _ _ _ _ hb' with h1' | ⟨rfl, hB'⟩ <;> rcases get_push _ _ _ _ hl with h2 | ⟨e2, rfl⟩ <;> rcases get_push _ _ _ _ hl' with h2' | ⟨e2', rfl⟩
    · exact h.inj b b' B B' l l' h1 h1' h2 h2' ho heq
    · have := lt_of_get h1'; rw [← h.size] at this; omega
    · have := lt_of_get h1; rw [← h.size] at this; omega
    · have := lt_of_get h1; rw [← h.size] at this; omega
    · have := lt_of_get h2'; rw [h.size] at this; omega
    · have := h.oldB h1 h2; simp at heq; omega
    · have := lt_of_get h1; rw [← h.size] at this; omega
    · have := lt_of_get h1; rw [← h.size] at this; omega
    · have := lt_of_get h2; rw [h.size] at this; omega
    · have := lt_of_get h2; rw [h.size] at this; omega
    · have := h.oldB h1' h2'; simp at heq; omega
    · have := lt_of_get h1'; rw [← h.size] at this; omega
    · rfl
    · rfl
    · rfl
    · rfl
  · rintro g ⟨b, B, l, hb, ho, hl, rfl⟩
    rcases get_push _ _ _ _ hl with h2 | ⟨rfl, rfl⟩
    · rcases get_push _ _ _ _ hb with h1 | ⟨rfl, hB⟩
      · exact .inl ⟨b, B, l, h1, ho, h2, rfl⟩
      · have := lt_of_get h2; rw [h.size] at this; omega
    · exact .inr (Nat.le_refl _)

/-- A new block that is not to be written, in a world that is told by its blocks. -/
theorem HR0.allocW {H : AHeap} {m : Mp} {w w' : World} (h : HR0 H m w) (cells cs : Array Value) (elem : TypeId) (esz : Nat) (fr : Nat × Nat) (hle : cells.size ≤ cs.size)
    (hv : ∀ (i : Nat) (v : Value), cells[i]? = some v → ∃ v', cs[i]? = some v' ∧ VR m v v') (hos : w'.os = w.os) (htp : w'.tape = w.tape) (hou : w'.output = w.output) (hsz : w'.heap.size = w.heap.size + 1)
    (hold : ∀ j, j < w.heap.size → w'.heap[j]? = w.heap[j]?) (hnew : w'.heap[w.heap.size]? = some (.cells cs elem fr)) :
    HR0 (H.push (some ⟨cells, elem, esz, false⟩)) (m.push ⟨w.heap.size, 0, cs.size, esz, false, elem, true⟩) w' ∧
    Step H m w (H.push (some ⟨cells, elem, esz, false⟩)) (m.push ⟨w.heap.size, 0, cs.size, esz, false, elem, true⟩) w' := by
  have he : Ext m (m.push ⟨w.heap.size, 0, cs.size, esz, false, elem, true⟩) := .push _ _
  refine ⟨⟨by simp [h.size], ?_, ?_, ?_⟩, ⟨he, hos, htp, hou, by omega, fun g hg _ => hold g hg, ?_⟩⟩
  · intro b l hl hv2
    rcases get_push _ _ _ _ hl with h1 | ⟨rfl, rfl⟩
    · have := h.old b l h1 hv2; omega
    · show w.heap.size < _; omega
  · intro b B hb
    rcases get_push _ _ _ _ hb with h1 | ⟨rfl, hB⟩
    · obtain ⟨l, cs', fr', hl, r⟩ := h.blk b B h1
      exact ⟨l, cs', fr', push_get hl, r.mono he (hold _ (h.old b l hl r.live))⟩
    · injection hB with hB; subst hB
      refine ⟨⟨w.heap.size, 0, cs.size, esz, false, elem, true⟩, cs, fr, ?_, ⟨hnew, rfl, (fun h => by cases h), (fun h => by cases h), by simpa using hle, ?_, rfl⟩⟩
      · rw [← h.size]; exact push_new _ _
      · intro i v hi
        obtain ⟨v', h1, h2⟩ := hv i v hi
        exact ⟨v', by simpa using h1, h2.mono he⟩
  · intro b b' B B' l l' hb hb' hl hl' ho heq
    rcases get_push _ _ _ _ hb with h1 | ⟨rfl, hB⟩
    · rcases get_push _ _ _ _ hl with h2 | ⟨e2, rfl⟩
      · rcases get_push _ _ _ _ hb' with h1' | ⟨rfl, hB'⟩
        · rcases get_push _ _ _ _ hl' with h2' | ⟨e2', rfl⟩
          · exact h.inj b b' B B' l l' h1 h1' h2 h2' ho heq
          · have := lt_of_get h1'; rw [← h.size] at this; omega
        · rcases get_push _ _ _ _ hl' with h2' | ⟨e2', rfl⟩
          · have := lt_of_get h2'; rw [h.size] at this; omega
          · have := h.oldB h1 h2; simp at heq; omega
      · have := lt_of_get h1; rw [← h.size] at this; omega
    · injection hB with hB; subst hB; cases ho
  · rintro g ⟨b, B, l, hb, ho, hl, rfl⟩
    rcases get_push _ _ _ _ hb with h1 | ⟨rfl, hB⟩
    · rcases get_push _ _ _ _ hl with h2 | ⟨e2, rfl⟩
      · exact .inl ⟨b, B, l, h1, ho, h2, rfl⟩
      · have := lt_of_get h1; rw [← h.size] at this; omega
    · injection hB with hB; subst hB; cases ho

theorem size_setRow (w : World) (g : Nat) (cs : Array Value) : (w.setRow g cs).heap.size = w.heap.size := by simp [World.setRow]

/-- A STORE into a block of the run's own. -/
theorem HR0.store {H : AHeap} {m : Mp} {w : World} (h : HR0 H m w) {b : Nat} {B : ABlk} {l : Loc} (hb : H[b]? = some (some B)) (ho : B.own = true) (hl : m[b]? = some l)
    {cs : Array Value} (r : BR m w B l cs (0, 0)) (cells' cs' : Array Value) (hsz : cs'.size = cs.size) (hle : cells'.size ≤ cs'.size)
    (hv : ∀ (i : Nat) (v : Value), cells'[i]? = some v → ∃ v', cs'[i]? = some v' ∧ VR m v v') :
    HR0 (H.setIfInBounds b (some { B with cells := cells' })) m (w.setRow l.blk cs') ∧ Step H m w (H.setIfInBounds b (some { B with cells := cells' })) m (w.setRow l.blk cs') := by
  have hlt := lt_of_get hb
  have hreal := r.real
  have hset : (w.setRow l.blk cs').heap[l.blk]? = some (.cells cs' l.elem (0, 0)) := setRow_heap w l.blk cs cs' l.elem (0, 0) hreal
  have hget : ∀ (b' : Nat) (B' : ABlk), (H.setIfInBounds b (some { B with cells := cells' }))[b']? = some (some B') → (b' = b ∧ B' = { B with cells := cells' }) ∨ (b' ≠ b ∧ H[b']? = some (some B')) := by
    intro b' B' hb'
    by_cases e : b = b'
    · subst e
      rw [Array.getElem?_setIfInBounds_self_of_lt hlt] at hb'
      injection hb' with hb'; injection hb' with hb'
      exact .inl ⟨rfl, hb'.symm⟩
    · rw [Array.getElem?_setIfInBounds_ne e] at hb'
      exact .inr ⟨fun h => e h.symm, hb'⟩
  refine ⟨⟨by simp [h.size], fun b' l' hl' hv2 => by rw [size_setRow]; exact h.old b' l' hl' hv2, ?_, ?_⟩, ⟨.refl m, rfl, rfl, rfl, by rw [size_setRow]; exact Nat.le_refl _, ?_, ?_⟩⟩
  · intro b' B' hb'
    rcases hget b' B' hb' with ⟨rfl, rfl⟩ | ⟨hne, h1⟩
    · have hm := r.mine ho
      refine ⟨l, cs', (0, 0), hl, ⟨hset, hsz.trans r.size, r.own, fun _ => ⟨rfl, hm.2.1, hm.2.2⟩, ?_, ?_, r.live⟩⟩
      · simpa [hm.2.1] using hle
      · intro i v hi
        simpa [hm.2.1] using hv i v hi
    · obtain ⟨l', cs'', fr', hl', r'⟩ := h.blk b' B' h1
      have hdiff : l'.blk ≠ l.blk := fun e => hne (h.inj b b' B B' l l' hb h1 hl hl' ho e.symm).symm
      exact ⟨l', cs'', fr', hl', r'.mono (.refl m) (setRow_other w l.blk l'.blk _ hdiff)⟩
  · intro b1 b2 B1 B2 l1 l2 h1 h2 hl1 hl2 ho1 heq
    rcases hget b1 B1 h1 with ⟨rfl, rfl⟩ | ⟨_, h1'⟩ <;> rcases hget b2 B2 h2 with ⟨rfl, rfl⟩ | ⟨_, h2'⟩
    · rfl
    · exact h.inj _ _ _ _ _ _ hb h2' hl1 hl2 ho heq
    · exact h.inj _ _ _ _ _ _ h1' hb hl1 hl2 ho1 heq
    · exact h.inj _ _ _ _ _ _ h1' h2' hl1 hl2 ho1 heq
  · intro g hg hn
    exact setRow_other w l.blk g _ (fun e => hn ⟨b, B, l, hb, ho, hl, e.symm⟩)
  · rintro g ⟨b', B', l', hb', ho', hl', rfl⟩
    rcases hget b' B' hb' with ⟨rfl, rfl⟩ | ⟨_, h1⟩
    · exact .inl ⟨_, B, l', hb, ho, hl', rfl⟩
    · exact .inl ⟨_, B', l', h1, ho', hl', rfl⟩

/-- A block is given up. -/
theorem HR0.kill {H : AHeap} {m : Mp} {w : World} (h : HR0 H m w) (b : Nat) : HR0 (H.setIfInBounds b none) m w ∧ Step H m w (H.setIfInBounds b none) m w := by
  have hget : ∀ (b' : Nat) (B' : ABlk), (H.setIfInBounds b none)[b']? = some (some B') → b' ≠ b ∧ H[b']? = some (some B') := by
    intro b' B' hb'
    by_cases e : b = b'
    · subst e
      have hlt : b < H.size := by have := lt_of_get hb'; simpa using this
      rw [Array.getElem?_setIfInBounds_self_of_lt hlt] at hb'
      injection hb' with hb'; cases hb'
    · rw [Array.getElem?_setIfInBounds_ne e] at hb'
      exact ⟨fun h => e h.symm, hb'⟩
  refine ⟨⟨by simp [h.size], h.old, fun b' B' hb' => h.blk b' B' (hget b' B' hb').2, fun b1 b2 B1 B2 l1 l2 h1 h2 => h.inj b1 b2 B1 B2 l1 l2 (hget _ _ h1).2 (hget _ _ h2).2⟩,
    ⟨.refl m, rfl, rfl, rfl, Nat.le_refl _, fun _ _ _ => rfl, ?_⟩⟩
  rintro g ⟨b', B', l', hb', ho', hl', rfl⟩
  exact .inl ⟨b', B', l', (hget _ _ hb').2, ho', hl', rfl⟩

/-- A block is given up for a new one that lies in the same real block, which has been written behind it. -/
theorem HR0.grow {H : AHeap} {m : Mp} {w : World} (h : HR0 H m w) {b : Nat} {B : ABlk} {l : Loc} (hb : H[b]? = some (some B)) (ho : B.own = true) (hl : m[b]? = some l)
    {cs : Array Value} (r : BR m w B l cs (0, 0)) (cells' cs' : Array Value) (hsz : cs'.size = cs.size) (hle : cells'.size ≤ cs'.size)
    (hv : ∀ (i : Nat) (v : Value), cells'[i]? = some v → ∃ v', cs'[i]? = some v' ∧ VR m v v') :
    HR0 ((H.setIfInBounds b none).push (some { B with cells := cells' })) (m.push l) (w.setRow l.blk cs') ∧
    Step H m w ((H.setIfInBounds b none).push (some { B with cells := cells' })) (m.push l) (w.setRow l.blk cs') := by
  have hlt := lt_of_get hb
  have hm := r.mine ho
  have he : Ext m (m.push l) := .push _ _
  have hset : (w.setRow l.blk cs').heap[l.blk]? = some (.cells cs' l.elem (0, 0)) := setRow_heap w l.blk cs cs' l.elem (0, 0) r.real
  have hget : ∀ (b' : Nat) (B' : ABlk), ((H.setIfInBounds b none).push (some { B with cells := cells' }))[b']? = some (some B') → (b' = m.size ∧ B' = { B with cells := cells' }) ∨ (b' ≠ b ∧ b' < m.size ∧ H[b']? = some (some B')) := by
    intro b' B' hb'
    rcases get_push _ _ _ _ hb' with h1 | ⟨h1, h2⟩
    · by_cases e : b = b'
      · subst e
        rw [Array.getElem?_setIfInBounds_self_of_lt hlt] at h1
        injection h1 with h1; cases h1
      · rw [Array.getElem?_setIfInBounds_ne e] at h1
        exact .inr ⟨fun h => e h.symm, by rw [h.size]; exact lt_of_get h1, h1⟩
    · injection h2 with h2
      exact .inl ⟨by rw [h1, h.size]; simp, h2.symm⟩
  have hpl : ∀ (b' : Nat) (l' : Loc), (m.push l)[b']? = some l' → b' < m.size → m[b']? = some l' := by
    intro b' l' h1 h2
    rcases get_push _ _ _ _ h1 with h3 | ⟨h3, _⟩
    · exact h3
    · omega
  have hpn : ∀ (l' : Loc), (m.push l)[m.size]? = some l' → l' = l := by
    intro l' h1
    rw [push_new] at h1; injection h1 with h1; exact h1.symm
  refine ⟨⟨by simp [h.size], ?_, ?_, ?_⟩, ⟨he, rfl, rfl, rfl, by rw [size_setRow]; exact Nat.le_refl _, ?_, ?_⟩⟩
  · intro b' l' hl' hv2
    rw [size_setRow]
    rcases get_push _ _ _ _ hl' with h3 | ⟨_, rfl⟩
    · exact h.old _ _ h3 hv2
    · exact h.old _ _ hl hv2
  · intro b' B' hb'
    rcases hget b' B' hb' with ⟨rfl, rfl⟩ | ⟨hne, hlt', h1⟩
    · refine ⟨l, cs', (0, 0), push_new _ _, ⟨hset, hsz.trans r.size, r.own, fun _ => ⟨rfl, hm.2.1, hm.2.2⟩, ?_, ?_, r.live⟩⟩
      · simpa [hm.2.1] using hle
      · intro i v hi
        obtain ⟨v', a, c⟩ := hv i v hi
        exact ⟨v', by simpa [hm.2.1] using a, c.mono he⟩
    · obtain ⟨l', cs'', fr', hl', r'⟩ := h.blk b' B' h1
      have hdiff : l'.blk ≠ l.blk := fun e => hne (h.inj b b' B B' l l' hb h1 hl hl' ho e.symm).symm
      exact ⟨l', cs'', fr', push_get hl', r'.mono he (setRow_other w l.blk l'.blk _ hdiff)⟩
  · intro b1 b2 B1 B2 l1 l2 h1 h2 hl1 hl2 ho1 heq
    rcases hget b1 B1 h1 with ⟨rfl, rfl⟩ | ⟨n1, k1, h1'⟩ <;> rcases hget b2 B2 h2 with ⟨rfl, rfl⟩ | ⟨n2, k2, h2'⟩
    · rfl
    · have e1 := hpn _ hl1
      subst e1
      exact absurd (h.inj _ _ _ _ _ _ hb h2' hl (hpl _ _ hl2 k2) ho heq).symm n2
    · have e2 := hpn _ hl2
      subst e2
      exact absurd (h.inj _ _ _ _ _ _ h1' hb (hpl _ _ hl1 k1) hl ho1 heq) n1
    · exact h.inj _ _ _ _ _ _ h1' h2' (hpl _ _ hl1 k1) (hpl _ _ hl2 k2) ho1 heq
  · intro g hg hn
    exact setRow_other w l.blk g _ (fun e => hn ⟨b, B, l, hb, ho, hl, e.symm⟩)
  · rintro g ⟨b', B', l', hb', ho', hl', rfl⟩
    rcases hget b' B' hb' with ⟨rfl, rfl⟩ | ⟨_, k1, h1⟩
    · have e1 := hpn _ hl'
      subst e1
      exact .inl ⟨b, B, l', hb, ho, hl, rfl⟩
    · exact .inl ⟨_, B', l', h1, ho', hpl _ _ hl' k1, rfl⟩

/-! ### reading -/

theorem HR0.at_ {H : AHeap} {m : Mp} {w : World} (h : HR0 H m w) {a a' : Addr} (ht : tr m a = some a') {B : ABlk} (hb : H[a.block]? = some (some B)) :
    ∃ l cs fr, m[a.block]? = some l ∧ BR m w B l cs fr ∧ a' = ⟨l.blk, l.base + a.off, none⟩ := by
  obtain ⟨l, cs, fr, hl, r⟩ := h.blk _ _ hb
  refine ⟨l, cs, fr, hl, r, ?_⟩
  unfold tr at ht
  rw [hl] at ht
  simp only at ht
  split at ht
  · injection ht with ht; exact ht.symm
  · cases ht

theorem add_plain (g o n : Nat) : (⟨g, o, none⟩ : Addr).add n = ⟨g, o + n, none⟩ := by unfold Addr.add; split <;> simp_all

/-- Cells from a place on, read. -/
theorem HR0.load {H : AHeap} {m : Mp} {w : World} (h : HR0 H m w) {a a' : Addr} (ht : tr m a = some a') {B : ABlk} (hb : H[a.block]? = some (some B)) (n : Nat) (hn : a.off + n ≤ B.cells.size) :
    ∃ cs : Array Value, cs.size = n ∧ VRs m (B.cells.extract a.off (a.off + n)) cs ∧ ∀ (j : Nat) (v : Value), cs.toList[j]? = some v → w.cell? (a'.add j) = some v := by
  obtain ⟨l, cs, fr, hl, r, rfl⟩ := h.at_ ht hb
  have hf := r.fits
  refine ⟨cs.extract (l.base + a.off) (l.base + a.off + n), by simp; omega, ⟨by simp; omega, ?_⟩, ?_⟩
  · intro i h1 h2
    simp only [Array.getElem_extract]
    have h1' : i < n := by simp at h1; omega
    have hi : a.off + i < B.cells.size := by omega
    obtain ⟨v', e1, e2⟩ := r.vals (a.off + i) _ (Array.getElem?_eq_getElem hi)
    have h3 : l.base + (a.off + i) < cs.size := lt_of_get e1
    rw [Array.getElem?_eq_getElem h3] at e1
    injection e1 with e1
    have : cs[l.base + a.off + i]'(by omega) = v' := by rw [← e1]; congr 1; omega
    rw [this]
    exact e2
  · intro j v hv
    rw [add_plain]
    have hj : j < n := by
      have := List.getElem?_eq_some_iff.1 hv
      obtain ⟨q, _⟩ := this
      simp at q; omega
    have h3 : l.base + a.off + j < cs.size := by omega
    rw [Array.getElem?_toList, Array.getElem?_extract_of_lt (by omega)] at hv
    have hc : w.cell? ⟨l.blk, l.base + a.off + j, none⟩ = cs[l.base + a.off + j]? := by simp [World.cell?, r.real]
    rw [hc, Array.getElem?_eq_getElem h3, hv]

theorem HR0.load1 {H : AHeap} {m : Mp} {w : World} (h : HR0 H m w) {a a' : Addr} (ht : tr m a = some a') {B : ABlk} (hb : H[a.block]? = some (some B)) {v : Value} (hv : B.cells[a.off]? = some v) :
    ∃ v', w.cell? a' = some v' ∧ VR m v v' := by
  obtain ⟨l, cs, fr, hl, r, rfl⟩ := h.at_ ht hb
  obtain ⟨v', e1, e2⟩ := r.vals _ _ hv
  exact ⟨v', by simp [World.cell?, r.real, e1], e2⟩

/-! ### the same memory, not to be written -/

def fz : Option ABlk → Option ABlk
  | some B => some { B with own := false }
  | none => none
def froze (H : AHeap) : AHeap := (H.toList.map fz).toArray
/-- What was there, as it was, and what is new. -/
def thaw (H H1 : AHeap) : AHeap := (H.toList ++ H1.toList.drop H.size).toArray
def isOwn : Option ABlk → Bool
  | some B => B.own
  | none => true

theorem froze_get {H : AHeap} {b : Nat} {B : ABlk} (h : (froze H)[b]? = some (some B)) : B.own = false ∧ ∃ B0, H[b]? = some (some B0) ∧ B = { B0 with own := false } := by
  unfold froze at h
  simp only [List.getElem?_toArray, List.getElem?_map, Array.getElem?_toList, Option.map_eq_some_iff] at h
  obtain ⟨x, hx, hf⟩ := h
  cases x with
  | none => simp [fz] at hf
  | some B0 =>
    simp only [fz] at hf
    injection hf with hf
    subst hf
    exact ⟨rfl, B0, hx, rfl⟩
theorem froze_size (H : AHeap) : (froze H).size = H.size := by simp [froze]

theorem HR0.froze {H : AHeap} {m : Mp} {w : World} (h : HR0 H m w) : HR0 (froze H) m w where
  size := by rw [froze_size]; exact h.size
  old := h.old
  blk := fun b B hb => by
    obtain ⟨_, B0, h0, rfl⟩ := froze_get hb
    obtain ⟨l, cs, fr, hl, r⟩ := h.blk b B0 h0
    exact ⟨l, cs, fr, hl, ⟨r.real, r.size, (fun h => by cases h), (fun h => by cases h), r.fits, r.vals, r.live⟩⟩
  inj := fun b b' B B' l l' hb _ _ _ ho _ => by rw [(froze_get hb).1] at ho; cases ho

theorem FP_froze {H : AHeap} {m : Mp} {g : Nat} : ¬ FP (froze H) m g := by
  rintro ⟨b, B, l, hb, ho, _⟩
  rw [(froze_get hb).1] at ho; cases ho

theorem thaw_get {H H1 : AHeap} (hs : H.size ≤ H1.size) (b : Nat) : (thaw H H1)[b]? = if b < H.size then H[b]? else H1[b]? := by
  unfold thaw
  simp only [List.getElem?_toArray]
  by_cases hb : b < H.size
  · rw [if_pos hb, List.getElem?_append_left (by simpa using hb)]; simp
  · rw [if_neg hb, List.getElem?_append_right (by simp; omega), List.getElem?_drop]
    simp only [Array.length_toList, Array.getElem?_toList]
    congr 1; omega
theorem thaw_size {H H1 : AHeap} (hs : H.size ≤ H1.size) : (thaw H H1).size = H1.size := by
  simp [thaw]; omega

/-- Behind a run that could not write what was there. -/
theorem HR0.thaw {H H1 : AHeap} {m m' : Mp} {w w' : World} (h : HR0 H m w) (h1 : HR0 H1 m' w') (st : Step (Go.Proofs.YtameamgamdaibaaDoor.froze H) m w H1 m' w') (hs : H.size ≤ H1.size) (hown : ((H1.toList.drop H.size).all isOwn) = true) :
    HR0 (Go.Proofs.YtameamgamdaibaaDoor.thaw H H1) m' w' ∧ Step H m w (Go.Proofs.YtameamgamdaibaaDoor.thaw H H1) m' w' := by
  have hk : ∀ g, g < w.heap.size → w'.heap[g]? = w.heap[g]? := fun g hg => st.keep g hg FP_froze
  have hnew : ∀ (b : Nat) (B : ABlk), ¬ b < H.size → H1[b]? = some (some B) → B.own = true := by
    intro b B hb hB
    have hmem : some B ∈ H1.toList.drop H.size := by
      rw [List.mem_iff_getElem?]
      exact ⟨b - H.size, by rw [List.getElem?_drop]; simp only [Array.getElem?_toList]; rw [← hB]; congr 1; omega⟩
    exact (List.all_eq_true.1 hown) _ hmem
  have hfp : ∀ g, FP (Go.Proofs.YtameamgamdaibaaDoor.thaw H H1) m' g → FP H m g ∨ w.heap.size ≤ g := by
    rintro g ⟨b, B, l, hb, ho, hl, rfl⟩
    rw [thaw_get hs] at hb
    by_cases hlt : b < H.size
    · rw [if_pos hlt] at hb
      obtain ⟨l0, cs, fr, hl0, r⟩ := h.blk b B hb
      have := st.ext b l0 hl0
      rw [hl] at this; injection this with this; subst this
      exact .inl ⟨b, B, l, hb, ho, hl0, rfl⟩
    · rw [if_neg hlt] at hb
      exact (st.fp _ ⟨b, B, l, hb, ho, hl, rfl⟩).elim (fun h => absurd h FP_froze) .inr
  refine ⟨⟨by rw [thaw_size hs]; exact h1.size, h1.old, ?_, ?_⟩, ⟨st.ext, st.os, st.tape, st.output, st.size, fun g hg _ => hk g hg, hfp⟩⟩
  · intro b B hb
    rw [thaw_get hs] at hb
    by_cases hlt : b < H.size
    · rw [if_pos hlt] at hb
      obtain ⟨l, cs, fr, hl, r⟩ := h.blk b B hb
      exact ⟨l, cs, fr, st.ext b l hl, r.mono st.ext (hk _ (h.old b l hl r.live))⟩
    · rw [if_neg hlt] at hb
      exact h1.blk b B hb
  · intro b b' B B' l l' hb hb' hl hl' ho heq
    rw [thaw_get hs] at hb hb'
    by_cases hlt : b < H.size
    · rw [if_pos hlt] at hb
      obtain ⟨l0, cs, fr, hl0, r⟩ := h.blk b B hb
      have e1 := st.ext b l0 hl0
      rw [hl] at e1; injection e1 with e1; subst e1
      by_cases hlt' : b' < H.size
      · rw [if_pos hlt'] at hb'
        obtain ⟨l1, cs1, fr1, hl1, r1⟩ := h.blk b' B' hb'
        have e2 := st.ext b' l1 hl1
        rw [hl'] at e2; injection e2 with e2; subst e2
        exact h.inj b b' B B' l l' hb hb' hl0 hl1 ho heq
      · rw [if_neg hlt'] at hb'
        have hge := (st.fp _ ⟨b', B', l', hb', hnew b' B' hlt' hb', hl', rfl⟩).elim (fun h => absurd h FP_froze) id
        have := h.old b l hl0 r.live
        omega
    · rw [if_neg hlt] at hb
      by_cases hlt' : b' < H.size
      · rw [if_pos hlt'] at hb'
        obtain ⟨l1, cs1, fr1, hl1, r1⟩ := h.blk b' B' hb'
        have e2 := st.ext b' l1 hl1
        rw [hl'] at e2; injection e2 with e2; subst e2
        have hge := (st.fp _ ⟨b, B, l, hb, ho, hl, rfl⟩).elim (fun h => absurd h FP_froze) id
        have := h.old b' l' hl1 r1.live
        omega
      · rw [if_neg hlt'] at hb'
        exact h1.inj b b' B B' l l' hb hb' hl hl' ho heq

/-! ### places that are kept for blocks that will be made -/

def deadLoc : Loc := ⟨0, 0, 0, 0, false, 0, false⟩

/-- Places for k blocks. -/
theorem HR0.reserve {H : AHeap} {m : Mp} {w : World} (h : HR0 H m w) : ∀ k : Nat, HR0 (H ++ Array.replicate k none) (m ++ Array.replicate k deadLoc) w ∧ Step H m w (H ++ Array.replicate k none) (m ++ Array.replicate k deadLoc) w := by
  intro k
  have gm : ∀ (b : Nat) (l : Loc), (m ++ Array.replicate k deadLoc)[b]? = some l → m[b]? = some l ∨ (m.size ≤ b ∧ l = deadLoc) := by
    intro b l hb
    rcases Nat.lt_or_ge b m.size with hl | hl
    · rw [Array.getElem?_append_left hl] at hb; exact .inl hb
    · rw [Array.getElem?_append_right hl, Array.getElem?_replicate] at hb
      split at hb
      · injection hb with hb; exact .inr ⟨hl, hb.symm⟩
      · cases hb
  have gH : ∀ (b : Nat) (B : ABlk), (H ++ Array.replicate k none)[b]? = some (some B) → H[b]? = some (some B) := by
    intro b B hb
    rcases Nat.lt_or_ge b H.size with hl | hl
    · rw [Array.getElem?_append_left hl] at hb; exact hb
    · rw [Array.getElem?_append_right hl, Array.getElem?_replicate] at hb
      split at hb
      · injection hb with hb; cases hb
      · cases hb
  have pm : ∀ (b : Nat) (l : Loc), m[b]? = some l → (m ++ Array.replicate k deadLoc)[b]? = some l := by
    intro b l hb
    rw [Array.getElem?_append_left (lt_of_get hb)]; exact hb
  have he : Ext m (m ++ Array.replicate k deadLoc) := fun b l hb => pm b l hb
  have back : ∀ (b : Nat) (B : ABlk) (l : Loc), H[b]? = some (some B) → (m ++ Array.replicate k deadLoc)[b]? = some l → m[b]? = some l := by
    intro b B l hb hl
    rcases gm b l hl with h1 | ⟨h1, _⟩
    · exact h1
    · have := lt_of_get hb; rw [← h.size] at this; omega
  refine ⟨⟨by simp [h.size], ?_, ?_, ?_⟩, ⟨he, rfl, rfl, rfl, Nat.le_refl _, fun _ _ _ => rfl, ?_⟩⟩
  · intro b l hb hv2
    rcases gm b l hb with h1 | ⟨_, rfl⟩
    · exact h.old b l h1 hv2
    · cases hv2
  · intro b B hb
    obtain ⟨l, cs, fr, hl, r⟩ := h.blk b B (gH b B hb)
    exact ⟨l, cs, fr, pm b l hl, r.mono he rfl⟩
  · intro b b' B B' l l' hb hb' hl hl' ho heq
    exact h.inj b b' B B' l l' (gH _ _ hb) (gH _ _ hb') (back _ _ _ (gH _ _ hb) hl) (back _ _ _ (gH _ _ hb') hl') ho heq
  · rintro g ⟨b, B, l, hb, ho, hl, rfl⟩
    exact .inl ⟨b, B, l, gH _ _ hb, ho, back _ _ _ (gH _ _ hb) hl, rfl⟩

/-- The same, where blocks may have been made at places that are kept, from 'base' on. -/
structure StepW (base : Nat) (H : AHeap) (m : Mp) (w : World) (H' : AHeap) (m' : Mp) (w' : World) : Prop where
  ext : ∀ (b : Nat) (l : Loc), m[b]? = some l → l.live = true ∨ b < base → m'[b]? = some l
  os : w'.os = w.os
  tape : w'.tape = w.tape
  output : w'.output = w.output
  size : w.heap.size ≤ w'.heap.size
  keep : ∀ g, g < w.heap.size → ¬ FP H m g → w'.heap[g]? = w.heap[g]?
  fp : ∀ g, FP H' m' g → FP H m g ∨ w.heap.size ≤ g
theorem StepW.toL {base : Nat} {H H' : AHeap} {m m' : Mp} {w w' : World} (s : StepW base H m w H' m' w') : ExtL m m' := fun b l hb hl => s.ext b l hb (.inl hl)
theorem Step.toW {H H' : AHeap} {m m' : Mp} {w w' : World} (s : Step H m w H' m' w') (base : Nat) : StepW base H m w H' m' w' :=
  ⟨fun b l hb _ => s.ext b l hb, s.os, s.tape, s.output, s.size, s.keep, s.fp⟩
theorem StepW.trans {base : Nat} {H H1 H2 : AHeap} {m m1 m2 : Mp} {w w1 w2 : World} (a : StepW base H m w H1 m1 w1) (b : StepW base H1 m1 w1 H2 m2 w2) : StepW base H m w H2 m2 w2 where
  ext := fun x l hx hl => b.ext x l (a.ext x l hx hl) hl
  os := b.os.trans a.os
  tape := b.tape.trans a.tape
  output := b.output.trans a.output
  size := Nat.le_trans a.size b.size
  keep := fun g hg hn => (b.keep g (Nat.lt_of_lt_of_le hg a.size) (fun h => (a.fp g h).elim hn (fun h' => absurd hg (by omega)))).trans (a.keep g hg hn)
  fp := fun g h => (b.fp g h).elim (a.fp g) (fun h' => .inr (Nat.le_trans a.size h'))

/-- A NEW BLOCK at a place that was kept. -/
theorem HR0.fill {H : AHeap} {m : Mp} {w : World} (h : HR0 H m w) {k : Nat} (hk : H[k]? = some none) {l0 : Loc} (hm : m[k]? = some l0) (hd : l0.live = false) {base : Nat} (hbase : base ≤ k) (cells cs : Array Value) (elem : TypeId) (esz : Nat) (hle : cells.size ≤ cs.size)
    (hv : ∀ (i : Nat) (v : Value), cells[i]? = some v → ∃ v', cs[i]? = some v' ∧ VR m v v') :
    HR0 (H.setIfInBounds k (some ⟨cells, elem, esz, true⟩)) (m.setIfInBounds k ⟨w.heap.size, 0, cs.size, esz, true, elem, true⟩) (w.alloc (.cells cs elem)) ∧
    StepW base H m w (H.setIfInBounds k (some ⟨cells, elem, esz, true⟩)) (m.setIfInBounds k ⟨w.heap.size, 0, cs.size, esz, true, elem, true⟩) (w.alloc (.cells cs elem)) := by
  have hkH := lt_of_get hk
  have hkm := lt_of_get hm
  have he : ExtL m (m.setIfInBounds k ⟨w.heap.size, 0, cs.size, esz, true, elem, true⟩) := by
    intro b l hb hl
    by_cases e : k = b
    · subst e
      rw [hm] at hb
      injection hb with hb
      subst hb
      rw [hd] at hl
      cases hl
    · rw [Array.getElem?_setIfInBounds_ne e]; exact hb
  have hnew : (w.alloc (.cells cs elem)).heap[w.heap.size]? = some (.cells cs elem (0, 0)) := alloc_new w _
  have gH : ∀ (b : Nat) (B : ABlk), (H.setIfInBounds k (some ⟨cells, elem, esz, true⟩))[b]? = some (some B) → (b = k ∧ B = ⟨cells, elem, esz, true⟩) ∨ (b ≠ k ∧ H[b]? = some (some B)) := by
    intro b B hb
    by_cases e : k = b
    · subst e
      rw [Array.getElem?_setIfInBounds_self_of_lt hkH] at hb
      injection hb with hb; injection hb with hb
      exact .inl ⟨rfl, hb.symm⟩
    · rw [Array.getElem?_setIfInBounds_ne e] at hb
      exact .inr ⟨fun h => e h.symm, hb⟩
  have gm : ∀ (b : Nat) (l : Loc), (m.setIfInBounds k ⟨w.heap.size, 0, cs.size, esz, true, elem, true⟩)[b]? = some l → (b = k ∧ l = ⟨w.heap.size, 0, cs.size, esz, true, elem, true⟩) ∨ (b ≠ k ∧ m[b]? = some l) := by
    intro b l hb
    by_cases e : k = b
    · subst e
      rw [Array.getElem?_setIfInBounds_self_of_lt hkm] at hb
      injection hb with hb
      exact .inl ⟨rfl, hb.symm⟩
    · rw [Array.getElem?_setIfInBounds_ne e] at hb
      exact .inr ⟨fun h => e h.symm, hb⟩
  refine ⟨⟨by simp [h.size], ?_, ?_, ?_⟩, ⟨?_, rfl, rfl, rfl, by simp, fun g hg _ => alloc_old w _ hg, ?_⟩⟩
  · intro b l hb hv2
    rcases gm b l hb with ⟨_, rfl⟩ | ⟨_, h1⟩
    · simp
    · have := h.old b l h1 hv2; simp; omega
  · intro b B hb
    rcases gH b B hb with ⟨rfl, rfl⟩ | ⟨hne, h1⟩
    · refine ⟨_, cs, (0, 0), Array.getElem?_setIfInBounds_self_of_lt hkm, ⟨hnew, rfl, fun _ => rfl, fun _ => ⟨rfl, rfl, rfl, rfl⟩, by simpa using hle, ?_, rfl⟩⟩
      intro i v hi
      obtain ⟨v', h1, h2⟩ := hv i v hi
      exact ⟨v', by simpa using h1, h2.monoL he⟩
    · obtain ⟨l, cs', fr, hl, r⟩ := h.blk b B h1
      exact ⟨l, cs', fr, he b l hl r.live, r.monoL he (alloc_old w _ (h.old b l hl r.live))⟩
  · intro b b' B B' l l' hb hb' hl hl' ho heq
    rcases gH b B hb with ⟨rfl, _⟩ | ⟨n1, h1⟩ <;> rcases gH b' B' hb' with ⟨rfl, _⟩ | ⟨n2, h2⟩ <;> rcases gm _ l hl with ⟨e3, rfl⟩ | ⟨n3, h3⟩ <;> rcases gm _ l' hl' with ⟨e4, rfl⟩ | ⟨n4, h4⟩
    all_goals first
      | rfl
      | exact absurd rfl n3
      | exact absurd rfl n4
      | exact absurd e3 n1
      | exact absurd e4 n2
      | exact h.inj b b' B B' l l' h1 h2 h3 h4 ho heq
      | (have := h.oldB h2 h4; simp at heq; omega)
      | (have := h.oldB h1 h3; simp at heq; omega)
  · intro b l hb hor
    rcases hor with hl | hl
    · exact he b l hb hl
    · rw [Array.getElem?_setIfInBounds_ne (by omega)]; exact hb
  · rintro g ⟨b, B, l, hb, ho, hl, rfl⟩
    rcases gm b l hl with ⟨_, rfl⟩ | ⟨hne, h2⟩
    · exact .inr (Nat.le_refl _)
    · rcases gH b B hb with ⟨rfl, _⟩ | ⟨_, h1⟩
      · exact absurd rfl hne
      · exact .inl ⟨b, B, l, h1, ho, h2, rfl⟩


/-! the same, the table laid -/
theorem HR.drawn {H : AHeap} {m : Mp} {w : World} (h : HR H m w) (n : Nat) : HR H m { w with drawn := n } := h.step (h.toHR0.drawn n) (Step.drawn H m w n).size (Step.drawn H m w n).keep (Step.drawn H m w n).fp
theorem HR.alloc {H : AHeap} {m : Mp} {w : World} (h : HR H m w) (cells cs : Array Value) (elem : TypeId) (esz : Nat) (hle : cells.size ≤ cs.size)
    (hv : ∀ (i : Nat) (v : Value), cells[i]? = some v → ∃ v', cs[i]? = some v' ∧ VR m v v') :
    HR (H.push (some ⟨cells, elem, esz, true⟩)) (m.push ⟨w.heap.size, 0, cs.size, esz, true, elem, true⟩) (w.alloc (.cells cs elem)) ∧
    Step H m w (H.push (some ⟨cells, elem, esz, true⟩)) (m.push ⟨w.heap.size, 0, cs.size, esz, true, elem, true⟩) (w.alloc (.cells cs elem)) := h.pair (h.toHR0.alloc cells cs elem esz hle hv)
theorem HR.store {H : AHeap} {m : Mp} {w : World} (h : HR H m w) {b : Nat} {B : ABlk} {l : Loc} (hb : H[b]? = some (some B)) (ho : B.own = true) (hl : m[b]? = some l)
    {cs : Array Value} (r : BR m w B l cs (0, 0)) (cells' cs' : Array Value) (hsz : cs'.size = cs.size) (hle : cells'.size ≤ cs'.size)
    (hv : ∀ (i : Nat) (v : Value), cells'[i]? = some v → ∃ v', cs'[i]? = some v' ∧ VR m v v') :
    HR (H.setIfInBounds b (some { B with cells := cells' })) m (w.setRow l.blk cs') ∧ Step H m w (H.setIfInBounds b (some { B with cells := cells' })) m (w.setRow l.blk cs') := h.pair (h.toHR0.store hb ho hl r cells' cs' hsz hle hv)
theorem HR.kill {H : AHeap} {m : Mp} {w : World} (h : HR H m w) (b : Nat) : HR (H.setIfInBounds b none) m w ∧ Step H m w (H.setIfInBounds b none) m w := h.pair (h.toHR0.kill b)
theorem HR.grow {H : AHeap} {m : Mp} {w : World} (h : HR H m w) {b : Nat} {B : ABlk} {l : Loc} (hb : H[b]? = some (some B)) (ho : B.own = true) (hl : m[b]? = some l)
    {cs : Array Value} (r : BR m w B l cs (0, 0)) (cells' cs' : Array Value) (hsz : cs'.size = cs.size) (hle : cells'.size ≤ cs'.size)
    (hv : ∀ (i : Nat) (v : Value), cells'[i]? = some v → ∃ v', cs'[i]? = some v' ∧ VR m v v') :
    HR ((H.setIfInBounds b none).push (some { B with cells := cells' })) (m.push l) (w.setRow l.blk cs') ∧
    Step H m w ((H.setIfInBounds b none).push (some { B with cells := cells' })) (m.push l) (w.setRow l.blk cs') := h.pair (h.toHR0.grow hb ho hl r cells' cs' hsz hle hv)
theorem HR.froze {H : AHeap} {m : Mp} {w : World} (h : HR H m w) : HR (froze H) m w := ⟨h.toHR0.froze, h.lay, fun g _ => FP_froze⟩
theorem HR.thaw {H H1 : AHeap} {m m' : Mp} {w w' : World} (h : HR H m w) (h1 : HR H1 m' w') (st : Step (Go.Proofs.YtameamgamdaibaaDoor.froze H) m w H1 m' w') (hs : H.size ≤ H1.size) (hown : ((H1.toList.drop H.size).all isOwn) = true) :
    HR (Go.Proofs.YtameamgamdaibaaDoor.thaw H H1) m' w' ∧ Step H m w (Go.Proofs.YtameamgamdaibaaDoor.thaw H H1) m' w' := h.pair (h.toHR0.thaw h1.toHR0 st hs hown)
theorem HR.reserve {H : AHeap} {m : Mp} {w : World} (h : HR H m w) (k : Nat) : HR (H ++ Array.replicate k none) (m ++ Array.replicate k deadLoc) w ∧ Step H m w (H ++ Array.replicate k none) (m ++ Array.replicate k deadLoc) w := h.pair (h.toHR0.reserve k)
theorem HR.fill {H : AHeap} {m : Mp} {w : World} (h : HR H m w) {k : Nat} (hk : H[k]? = some none) {l0 : Loc} (hm : m[k]? = some l0) (hd : l0.live = false) {base : Nat} (hbase : base ≤ k) (cells cs : Array Value) (elem : TypeId) (esz : Nat) (hle : cells.size ≤ cs.size)
    (hv : ∀ (i : Nat) (v : Value), cells[i]? = some v → ∃ v', cs[i]? = some v' ∧ VR m v v') :
    HR (H.setIfInBounds k (some ⟨cells, elem, esz, true⟩)) (m.setIfInBounds k ⟨w.heap.size, 0, cs.size, esz, true, elem, true⟩) (w.alloc (.cells cs elem)) ∧
    StepW base H m w (H.setIfInBounds k (some ⟨cells, elem, esz, true⟩)) (m.setIfInBounds k ⟨w.heap.size, 0, cs.size, esz, true, elem, true⟩) (w.alloc (.cells cs elem)) :=
  let x := h.toHR0.fill hk hm hd hbase cells cs elem esz hle hv
  ⟨h.step x.1 x.2.size x.2.keep x.2.fp, x.2⟩

end Go.Proofs.YtameamgamdaibaaDoor

/-!  The interpreter over abstract values and heaps: one operation, a region, a piece of code, a function. -/
namespace Go.Proofs.YtameamgamdaibaaDoor
open Go
set_option linter.unusedVariables false

/-- A program of the model's that touches no memory, run. -/
def pureRun {α : Type} (P : Program) : Sem α → Option α
  | .pure a => some a
  | .program k => pureRun P (k P)
  | .mark _ k => pureRun P k
  | _ => none

theorem pureRun_sound {α : Type} {P : Program} : ∀ (s : Sem α) (a : α), pureRun P s = some a → ∀ w, s.run P w = .ok a w
  | .pure b, a, h, w => by simp only [pureRun] at h; injection h with h; rw [h]; rfl
  | .program k, a, h, w => by simp only [pureRun] at h; simp only [Sem.run]; exact pureRun_sound (k P) a h w
  | .mark _ k, a, h, w => by simp only [pureRun] at h; simp only [Sem.run]; exact pureRun_sound k a h w
  | .load .., a, h, w | .store .., a, h, w | .new .., a, h, w | .shape .., a, h, w | .freeze .., a, h, w | .frozen .., a, h, w | .getObj .., a, h, w | .setObj .., a, h, w
  | .choose .., a, h, w | .sys .., a, h, w | .halt .., a, h, w => by cases h

/-- The same, of a value without places. -/
def pureV (P : Program) (s : Sem Value) : Option Value :=
  match pureRun P s with
  | some v => if closN 4 v then some v else none
  | none => none

theorem pureV_sound {P : Program} {s : Sem Value} {v : Value} (h : pureV P s = some v) (m : Mp) : (∀ w, s.run P w = .ok v w) ∧ VR m v v := by
  unfold pureV at h
  split at h
  · rename_i u hu
    split at h
    · rename_i hc
      injection h with h; subst h
      exact ⟨pureRun_sound _ _ hu, .of_clos m 4 _ hc⟩
    · cases h
  · cases h

/-- What is known ahead: calls, the model's own rows, operations on two values. -/
structure Orc where
  call : FuncId → Array Value → AHeap → Option (Value × AHeap)
  row : FuncId → Array Value → Option Value
  bin : BinOp → TypeId → Value → Value → Option Value

def cut (cs : Array Value) (off n : Nat) : Array Value := ((cs.toList.drop off).take n).toArray

def readVar (P : Program) (H : AHeap) (t : TypeId) (a : Addr) : Option Value :=
  match H[a.block]? with
  | some (some B) =>
    match P.underlying t with
    | some (.struct _) | some (.array _ _) =>
      match P.info? t with
      | some i => if a.off + i.size ≤ B.cells.size then some (.agg (cut B.cells a.off i.size)) else none
      | none => none
    | some _ => B.cells[a.off]?
    | none => none
  | _ => none

def putL (cells : Array Value) : Nat → List Value → Array Value
  | _, [] => cells
  | off, v :: vs => putL (cells.setIfInBounds off v) (off + 1) vs

def writeVar (P : Program) (H : AHeap) (t : TypeId) (a : Addr) (v : Value) : Option AHeap :=
  match H[a.block]?, P.info? t with
  | some (some B), some i =>
    if B.own && notAny v && (v.cells.size == i.size) && decide (a.off + i.size ≤ B.cells.size) && v.cells.toList.all oneC then
      some (H.setIfInBounds a.block (some { B with cells := putL B.cells a.off v.cells.toList }))
    else none
  | _, _ => none

/-- Parts laid over cells, each at its place. -/
def fillL (place : Nat → Option (Nat × Nat)) : Array Value → List (Nat × Value) → Option (Array Value)
  | cells, [] => some cells
  | cells, (i, v) :: rest =>
    match place i with
    | none => none
    | some (off, size) =>
      if notAny v && (v.cells.size == size) && decide (off + size ≤ cells.size) then fillL place (putL cells off v.cells.toList) rest else none

def fieldPlaceL (P : Program) (fs : Array Field) (i : Nat) : Option (Nat × Nat) :=
  match fs[i]? with
  | some f => match P.info? f.type with
    | some inf => some (f.offset, inf.size)
    | none => none
  | none => none

def repL (z : List Value) : Nat → List Value
  | 0 => []
  | n + 1 => z ++ repL z n

def buildV (P : Program) (t : TypeId) (parts : List (Nat × Value)) : Option Value :=
  match P.info? t with
  | some i => match i.zero with
    | some z =>
      if closN 4 z then
        match P.underlying t with
        | some (.struct fs) => if fs.toList.all (fun f => (P.info? f.type).isSome) then (fillL (fieldPlaceL P fs) z.cells parts).map .agg else none
        | some (.array _ e) => match P.info? e with
          | some inf => (fillL (fun j => some (j * inf.size, inf.size)) z.cells parts).map .agg
          | none => none
        | _ => none
      else none
    | none => none
  | none => none

def sliceCells (P : Program) (t : TypeId) (len : Nat) (parts : List (Nat × Value)) : Option (TypeId × TypeInfo × Array Value) :=
  match P.underlying t with
  | some (.slice e) => match P.info? e with
    | some i => match i.zero with
      | some z =>
        if closN 4 z && decide (len * i.size ≤ 16777216) && decide (0 < i.size) && (z.cells.size == i.size) then
          match fillL (fun j => some (j * i.size, i.size)) (repL z.cells.toList len).toArray parts with
          | some cells => some (e, i, cells)
          | none => none
        else none
      | none => none
    | none => none
  | _ => none

def fcmp (op : BinOp) (k : FloatKind) (x y : Nat) : Option Bool :=
  let c := k.format.order x y
  match op with
  | .eql => some (c == some .eq)
  | .neq => some (c != some .eq)
  | .lss => some (c == some .lt)
  | .leq => some (c == some .lt || c == some .eq)
  | .gtr => some (c == some .gt)
  | .geq => some (c == some .gt || c == some .eq)
  | _ => none

def isArith : BinOp → Bool
  | .add | .sub | .mul | .quo => true
  | _ => false

def binV (P : Program) (O : Orc) (op : BinOp) (t : TypeId) (x y : Operand) (a b : Value) : Option Value :=
  match a, b with
  | .float k u, .float k' v =>
    if k = k' then
      if isArith op then some (.float k (fop op k u v)) else (fcmp op k u v).map .bool
    else none
  | .int k m, .int k' n => pureV P (binOp op t (.int k m) (.int k' n))
  | a, b => match O.bin op t a b with
    | some v => some v
    | none => if exactN 3 a && exactN 3 b then pureV P (do eqGuard op t x y a b; binOp op t a b) else none

def convV (P : Program) (s d : TypeId) (v : Value) : Option Value :=
  match v with
  | .float k b =>
    match P.underlying s, P.underlying d with
    | some (.float _), some (.float k') => if k = k' then some (.float k b) else none
    | _, _ => if isNan k b then none else pureV P (convert s d (.float k b))
  | v => if exactN 3 v then pureV P (convert s d v) else none

def intOf? : Value → Option Int
  | .int _ n => some n
  | _ => none

def optInt (x : Option Value) (d : Int) : Option Int :=
  match x with
  | some v => intOf? v
  | none => some d

def newsV (H : AHeap) (size : Nat) (x : Value) : Option (Nat × Array Value) :=
  match x with
  | .slice none 0 0 => some (0, #[])
  | .slice (some a) n _ => match H[a.block]? with
    | some (some B) => if decide (a.off + n * size ≤ B.cells.size) && (cut B.cells a.off (n * size)).toList.all oneC then some (n, cut B.cells a.off (n * size)) else none
    | _ => none
  | _ => none

def appendV (P : Program) (H : AHeap) (t t2 : TypeId) (s x : Value) : Option (Value × AHeap) :=
  match P.underlying t with
  | some (.slice e) => match P.info? e with
    | some i => match i.zero with
      | some z =>
        if t2 == t && decide (0 < i.size) && (z.cells.size == i.size) && decide (i.bytes ≤ 1048576) then
          match newsV H i.size x with
          | some (n, cs) =>
            match s with
            | .slice none 0 0 =>
              if n = 0 then some (.slice none 0 0, H)
              else if n ≤ 16777216 then some (.slice (some ⟨H.size, 0, none⟩) n n, H.push (some ⟨cs, e, i.size, true⟩)) else none
            | .slice (some a) len _ => match H[a.block]? with
              | some (some B) =>
                if B.own && (B.elem == e) && (B.esz == i.size) && (a.off == 0) && (len * i.size == B.cells.size) && decide (len + n ≤ 16777216) then
                  some (.slice (some ⟨H.size, 0, none⟩) (len + n) (len + n), (H.setIfInBounds a.block none).push (some { B with cells := (B.cells.toList ++ cs.toList).toArray }))
                else none
              | _ => none
            | _ => none
          | none => none
        else none
      | none => none
    | none => none
  | _ => none

/-- A part of a string. -/
def sliceS (s : ByteArray) (lo hi : Option Value) : Option Value :=
  match optInt lo 0, optInt hi s.size with
  | some l, some h => if 0 ≤ l && l ≤ h && h ≤ s.size then some (.string ⟨((s.data.toList.drop l.toNat).take (h.toNat - l.toNat)).toArray⟩) else none
  | _, _ => none
def sliceV (P : Program) (t : TypeId) (x : Value) (lo hi mx : Option Value) : Option Value :=
  match x with
  | .string s => match P.underlying t with
    | some .string => if mx.isNone then sliceS s lo hi else none
    | _ => none
  | .slice (some a) n _ =>
    match P.underlying t with
    | some (.slice e) => match P.info? e with
      | some i =>
        if i.size = 0 then none else
        match optInt lo 0, optInt hi n, optInt mx n with
        | some l, some h, some m =>
          if 0 ≤ l && l ≤ h && h ≤ m && m ≤ n && (mx.isNone || hi.isSome) then
            if l = 0 then some (.slice (some a) h.toNat h.toNat)
            else if l = h then some (.slice none 0 1)
            else some (.slice (some ⟨a.block, a.off + l.toNat * i.size, none⟩) (h.toNat - l.toNat) (h.toNat - l.toNat))
          else none
        | _, _, _ => none
      | none => none
    | _ => none
  | .pointer (some a) =>
    match P.underlying t, lo, hi, mx with
    | some (.array n e), some (.int _ l), some (.int _ h), none => match P.info? e with
      | some i => if 0 < l && l < h && h ≤ n && 0 < i.size then some (.slice (some ⟨a.block, a.off + l.toNat * i.size, none⟩) (h.toNat - l.toNat) (h.toNat - l.toNat)) else none
      | none => none
    | _, _, _, _ => none
  | _ => none

/-- From 0 to one less than a number: told by the number's successors, so that it may hold a variable. -/
def ltI (j : Int) (n : Nat) : Bool :=
  match j with
  | .ofNat a => Nat.ble (a + 1) n
  | .negSucc _ => false

theorem ltI_iff {j : Int} {n : Nat} (h : ltI j n = true) : 0 ≤ j ∧ j < n := by
  unfold ltI at h
  split at h
  · rename_i a
    have := Nat.le_of_ble_eq_true h
    simp only [Int.ofNat_eq_natCast]
    omega
  · cases h

def indexAddrV (P : Program) (t : TypeId) (x i : Value) : Option Value :=
  match i with
  | .int _ j =>
    match P.underlying t, x with
    | some (.slice e), .slice (some a) n _ =>
      match P.info? e with
      | some inf => if ltI j n then some (.pointer (some ⟨a.block, a.off + j.toNat * inf.size, none⟩)) else none
      | none => none
    | some (.array n e), .pointer (some a) =>
      match P.info? e with
      | some inf => if ltI j n then some (.pointer (some ⟨a.block, a.off + j.toNat * inf.size, none⟩)) else none
      | none => none
    | _, _ => none
  | _ => none

def fieldAddrV (P : Program) (t : TypeId) (x : Value) (f : Nat) : Option Value :=
  match P.underlying t, x with
  | some (.struct fs), .pointer (some a) =>
    match fs[f]? with
    | some fd => match P.info? fd.type with
      | some inf => if inf.size = 0 then none else some (.pointer (some ⟨a.block, a.off + fd.offset, none⟩))
      | none => none
    | none => none
  | _, _ => none

def partV (P : Program) (t : TypeId) (cs : Array Value) (off : Nat) : Option Value :=
  match P.underlying t with
  | some (.struct _) | some (.array _ _) =>
    match P.info? t with
    | some i => if off + i.size ≤ cs.size then some (.agg (cut cs off i.size)) else none
    | none => none
  | some _ => cs[off]?
  | none => none

def fieldV (P : Program) (t : TypeId) (x : Value) (f : Nat) : Option Value :=
  match P.underlying t, x with
  | some (.struct fs), .agg cs => match fs[f]? with
    | some fd => partV P fd.type cs fd.offset
    | none => none
  | _, _ => none

def indexV (P : Program) (t : TypeId) (x i : Value) : Option Value :=
  match x, i with
  | .string s, .int k j => pureV P (Instr.index t (.string s) (.int k j))
  | .agg cs, .int _ j =>
    match P.underlying t with
    | some (.array n e) => match P.info? e with
      | some inf => if 0 ≤ j && j < n then partV P e cs (j.toNat * inf.size) else none
      | none => none
    | _ => none
  | _, _ => none

def lenV (P : Program) (t : TypeId) (x : Value) : Option Value :=
  match P.underlying t, x with
  | some .string, .string s => some (.int .i64 s.size)
  | some (.slice _), .slice _ n _ => some (.int .i64 n)
  | some (.array n _), _ => some (.int .i64 n)
  | _, _ => none

def makeSliceV (P : Program) (H : AHeap) (t : TypeId) (l c : Value) : Option (Value × AHeap) :=
  match P.underlying t, l, c with
  | some (.slice e), .int _ n, .int _ m =>
    match P.info? e with
    | some i => match i.zero with
      | some z =>
        if closN 4 z && (z.cells.size == i.size) && decide (0 < i.size) && decide (i.bytes ≤ 1048576) && decide (0 ≤ n) && decide (n ≤ m) && decide (m ≤ 16777216) then
          some (.slice (some ⟨H.size, 0, none⟩) n.toNat n.toNat, H.push (some ⟨(repL z.cells.toList n.toNat).toArray, e, i.size, true⟩))
        else none
      | none => none
    | none => none
  | _, _, _ => none

/-- []byte. -/
def tBy : TypeId := 44
def intsL : List Value → Option (List Int)
  | [] => some []
  | .int .u8 n :: l => (intsL l).map (n :: ·)
  | _ => none
/-- A string's bytes, in a block that is not to be written. -/
def bytesV (P : Program) (H : AHeap) (s d : TypeId) (x : Value) : Option (Value × AHeap) :=
  match x with
  | .string b => match P.underlying s, P.underlying d with
    | some _, some (.slice e) => match P.underlying e with
      | some (.int .u8) => some (.slice (some ⟨H.size, 0, none⟩) b.size b.size, H.push (some ⟨(b.data.toList.map fun c => Value.int .u8 c.toNat).toArray, e, 1, false⟩))
      | _ => none
    | _, _ => none
  | _ => none
/-- A string of bytes. -/
def strV (P : Program) (H : AHeap) (s d : TypeId) (x : Value) : Option Value :=
  match x with
  | .slice (some a) n _ => match P.underlying s, P.underlying d with
    | some (.slice e), some .string => match P.underlying e, H[a.block]? with
      | some (.int .u8), some (some B) => if a.off + n ≤ B.cells.size then (intsL (cut B.cells a.off n).toList).map fun ns => .string (ns.foldl (fun r k => r.push (UInt8.ofNat k.toNat)) ByteArray.empty) else none
      | _, _ => none
    | _, _ => none
  | _ => none

def closA (xs : Array Value) : Bool := xs.toList.all (closN 4)

/-- A call of a function: one without a body by the model's own row; a pure one (mode 1) in no memory at all; one that only reads (3), or makes new memory (2), in a memory that is not to be written. -/
def callV (O : Orc) (q : FuncId → Nat) (g : FuncId) (args : Array Value) (H : AHeap) : Option (Value × AHeap) :=
  match O.row g args with
  | some v => some (v, H)
  | none =>
    match q g with
    | 1 =>
      if closA args then
        match O.call g args #[] with
        | some (v, _) => if closN 4 v then some (v, H) else none
        | none => none
      else none
    | 2 =>
      match O.call g args (froze H) with
      | some (v, H1) => if decide (H.size ≤ H1.size) && (H1.toList.drop H.size).all isOwn then some (v, thaw H H1) else none
      | none => none
    | 3 =>
      match O.call g args (froze H) with
      | some (v, _) => if closN 4 v then some (v, H) else none
      | none => none
    | _ => O.call g args H

def mapA (ρ : Operand → Value) (xs : Array Operand) : Array Value := (xs.toList.map ρ).toArray
def mapP (ρ : Operand → Value) (xs : Array (Nat × Operand)) : List (Nat × Value) := xs.toList.map fun p => (p.1, ρ p.2)

def exec1 (P : Program) (O : Orc) (q : FuncId → Nat) (ρ : Operand → Value) (H : AHeap) (o : Oper) : Option (Value × AHeap) :=
  match o.op with
  | .move x | .assign x => some (ρ x, H)
  | .pick c a b => match ρ c with
    | .bool t => some (if t then ρ a else ρ b, H)
    | _ => none
  | .alloc e => match P.info? e with
    | some i => match i.zero with
      | some z => if closN 4 z then some (.pointer (some ⟨H.size, 0, none⟩), H.push (some ⟨z.cells, e, 0, true⟩)) else none
      | none => none
    | none => none
  | .box e x => if notAny (ρ x) then some (.pointer (some ⟨H.size, 0, none⟩), H.push (some ⟨(ρ x).cells, e, 0, true⟩)) else none
  | .build t parts => (buildV P t (mapP ρ parts)).map (·, H)
  | .buildSlice t len parts => match sliceCells P t len (mapP ρ parts) with
    | some (e, i, cells) => some (.slice (some ⟨H.size, 0, none⟩) len len, H.push (some ⟨cells, e, i.size, true⟩))
    | none => none
  | .load t a => match ρ a with
    | .pointer (some a) => (readVar P H t a).map (·, H)
    | _ => none
  | .store t a x => match ρ a with
    | .pointer (some a) => (writeVar P H t a (ρ x)).map (undef, ·)
    | _ => none
  | .nilCheck x => match ρ x with
    | .pointer (some a) => some (.pointer (some a), H)
    | .func (.func f) us vs => some (.func (.func f) us vs, H)
    | _ => none
  | .binOp op t x y _ => (binV P O op t x y (ρ x) (ρ y)).map (·, H)
  | .unOp op _ x => if exactN 1 (ρ x) then (pureV P (Op.unary op (ρ x))).map (·, H) else none
  | .convert s d x => if d == tBy then bytesV P H s d (ρ x) else if s == tBy then (strV P H s d (ρ x)).map (·, H) else (convV P s d (ρ x)).map (·, H)
  | .makeInterface t x => match P.underlying t with
    | some (.interface _) | none => none
    | some _ => some (.iface t (ρ x), H)
  | .makeFunc fn first captured => some (.func fn (mapA ρ first) (mapA ρ captured), H)
  | .makeSlice t l c => makeSliceV P H t (ρ l) (ρ c)
  | .slice t x lo hi mx => (sliceV P t (ρ x) (lo.map ρ) (hi.map ρ) (mx.map ρ)).map (·, H)
  | .fieldAddr s x f => (fieldAddrV P s (ρ x) f).map (·, H)
  | .field t x f => (fieldV P t (ρ x) f).map (·, H)
  | .indexAddr t x i => (indexAddrV P t (ρ x) (ρ i)).map (·, H)
  | .index t x i => (indexV P t (ρ x) (ρ i)).map (·, H)
  | .extract t i => match ρ t with
    | .tuple vs => (vs[i]?).map (·, H)
    | _ => none
  | .call c =>
    match c.callee with
    | .builtin .len => match c.args.toList, c.argTypes.toList with
      | [x], [t] => (lenV P t (ρ x)).map (·, H)
      | _, _ => none
    | .builtin .append => match c.args.toList, c.argTypes.toList with
      | [s, x], [t, t2] => appendV P H t t2 (ρ s) (ρ x)
      | _, _ => none
    | .builtin .min => if (mapA ρ c.args).toList.all (exactN 1) then (pureV P (Builtin.min_ c.argTypes o.type (mapA ρ c.args))).map (·, H) else none
    | .builtin .max => if (mapA ρ c.args).toList.all (exactN 1) then (pureV P (Builtin.max_ c.argTypes o.type (mapA ρ c.args))).map (·, H) else none
    | .value f => match ρ f with
      | .func (.func g) first captured =>
        match f with
        | .func _ => callV O q g (first.toList ++ c.args.toList.map ρ ++ captured.toList).toArray H
        | _ => if q g = 3 then callV O q g (first.toList ++ c.args.toList.map ρ ++ captured.toList).toArray H else none
      | _ => none
    | _ => none
  | _ => none

def putT (tm : List Value) (dst : Option Tmp) (v : Value) : List Value :=
  match dst with
  | some d => tm.set d v
  | none => tm

def getT : List Value → Nat → Value
  | [], _ => undef
  | v :: _, 0 => v
  | _ :: l, n + 1 => getT l n

def evalT (tm : List Value) : Operand → Value
  | .tmp t => getT tm t
  | .const v => v
  | .global _ => anyV
  | .func f => .func (.func f) #[] #[]

def operandOk : Operand → Bool
  | .const v => closN 4 v
  | _ => true
def opOk (o : Oper) : Bool := o.op.operands.toList.all operandOk

def wantedL (ops : Array Oper) (o : Oper) (tm : List Value) : Bool :=
  match o.guard with
  | none => true
  | some (j, want) => match ops[j]? with
    | some p => match p.dst with
      | some d => match tm[d]? with
        | some (.bool b) => b == want
        | _ => false
      | none => false
    | none => false

/-- Whether an operation is wanted is known. -/
def gOk (ops : Array Oper) (o : Oper) (tm : List Value) : Bool :=
  match o.guard with
  | none => true
  | some (j, _) => match ops[j]? with
    | some p => match p.dst with
      | some d => match tm[d]? with
        | some v => notAny v
        | none => true
      | none => true
    | none => true

/-- A value, told outright (for the kernel: it is reckoned once, here). -/
def forceN {α : Type} (n : Nat) (k : Nat → α) : α := match n with
  | 0 => k 0
  | m + 1 => k (m + 1)
def forceI {α : Type} (n : Int) (k : Int → α) : α := match n with
  | .ofNat m => forceN m fun m => k (.ofNat m)
  | .negSucc m => forceN m fun m => k (.negSucc m)
def forceB {α : Type} : List UInt8 → (List UInt8 → α) → α
  | [], k => k []
  | x :: l, k => forceB l fun l => k (x :: l)
def forceV {α : Type} (v : Value) (k : Value → α) : α := match v with
  | .int t n => forceI n fun n => k (.int t n)
  | .bool b => match b with
    | true => k (.bool true)
    | false => k (.bool false)
  | .string s => forceB s.data.toList fun l => k (.string ⟨⟨l⟩⟩)
  | v => k v
theorem forceN_eq {α : Type} (n : Nat) (k : Nat → α) : forceN n k = k n := by cases n <;> rfl
theorem forceI_eq {α : Type} (n : Int) (k : Int → α) : forceI n k = k n := by cases n <;> simp [forceI, forceN_eq]
theorem forceB_eq {α : Type} : ∀ (l : List UInt8) (k : List UInt8 → α), forceB l k = k l
  | [], k => rfl
  | x :: l, k => by simp only [forceB]; exact forceB_eq l _
theorem forceV_eq {α : Type} (v : Value) (k : Value → α) : forceV v k = k v := by
  unfold forceV
  split
  · rw [forceI_eq]
  · split <;> rfl
  · rw [forceB_eq]
  · rfl

def evOps (P : Program) (O : Orc) (q : FuncId → Nat) (ops : Array Oper) : List Oper → List Value → AHeap → Option (List Value × AHeap)
  | [], tm, H => some (tm, H)
  | o :: rest, tm, H =>
    if wantedL ops o tm then
      match exec1 P O q (evalT tm) H o with
      | some (v, H') => forceV v fun v => evOps P O q ops rest (putT tm o.dst v) H'
      | none => none
    else if gOk ops o tm then evOps P O q ops rest (putT tm o.dst undef) H else none

/-- What an operation does to memory: 0 nothing, 1 reads, 2 makes blocks, 3 anything, 4 a call that reads. -/
def opClass (q : FuncId → Nat) (o : Oper) : Nat :=
  match o.op with
  | .load .. => 1
  | .alloc _ | .box .. | .buildSlice .. | .makeSlice .. => 2
  | .store .. => 3
  | .convert s d _ => if d == tBy || s == tBy then 3 else 0
  | .call c => match c.callee with
    | .builtin .len | .builtin .min | .builtin .max => 0
    | .value (.func g) => match q g with | 1 => 0 | 2 => 2 | 3 => 4 | _ => 3
    | .value _ => 4
    | _ => 3
  | _ => 0

def classOk (a b : Nat) : Bool := a == 0 || b == 0 || ((a == 1 || a == 4) && (b == 1 || b == 4)) || (a == 1 && b == 2) || (a == 2 && b == 1)

def swapOk (q : FuncId → Nat) (ops : Array Oper) (x y : Oper) : Bool := x.apart ops y && classOk (opClass q x) (opClass q y)

/-- What each operation hangs on, all told (the last first). -/
def depsL : List Oper → List Nat → List Nat
  | [], d => d
  | o :: rest, d => depsL rest (d ++ [o.after.toList.foldl (fun s e => if Region.binds .any e then s ||| 2 ^ e.on ||| d.getD e.on 0 else s) 0])

/-- A region whose operations may come in any order that its edges allow. -/
def regionOk (q : FuncId → Nat) (ops : Array Oper) : Bool :=
  let d := depsL ops.toList []
  ops.toList.zipIdx.all fun (o, i) =>
    o.after.toList.all (fun e => !Region.binds .any e || decide (e.on < i)) &&
    (List.range ops.size).all (fun j => !(d.getD i 0).testBit j || (o.after.toList.any fun e => Region.binds .any e && (e.on == j || (d.getD e.on 0).testBit j))) &&
    ops.toList.zipIdx.all fun (p, j) => !(decide (j < i)) || (d.getD i 0).testBit j || swapOk q ops p o

/-! regions in which several blocks are made, several places written -/
/-- Makes a block (an append: a new one for an old one). -/
def isMk (o : Oper) : Bool := match o.op with
  | .alloc _ | .box .. | .buildSlice .. | .makeSlice .. => true
  | .call c => match c.callee with
    | .builtin .append => true
    | _ => false
  | _ => false
def isSt (o : Oper) : Bool := match o.op with
  | .store .. => true
  | _ => false
def countB {α : Type} (p : α → Bool) : List α → Nat
  | [] => 0
  | a :: l => if p a then countB p l + 1 else countB p l
/-- Two that make blocks, neither of which hangs on the other. -/
def mkPair (ops : Array Oper) : Bool :=
  let d := depsL ops.toList []
  ops.toList.zipIdx.any fun (o, i) => isMk o && ops.toList.zipIdx.any fun (p, j) => decide (j < i) && isMk p && !((d.getD i 0).testBit j)
/-- Two stores or more, or two blocks that are made in either order; and nothing but what is pure, reads, stores, and blocks made. -/
def special (q : FuncId → Nat) (ops : Array Oper) : Bool :=
  (Nat.ble 2 (countB isSt ops.toList) || (Nat.ble 2 (countB isMk ops.toList) && mkPair ops) || (Nat.ble 1 (countB isSt ops.toList) && !regionOk q ops)) && ops.toList.all fun o => isMk o || isSt o || (match opClass q o with | 0 | 1 => true | _ => false)
/-- What an operation reads or writes through. -/
def touchO (o : Oper) : List Operand := match o.op with
  | .load _ x => [x]
  | .store _ x _ => [x]
  | .call c => match c.callee with
    | .builtin .append => c.args.toList
    | _ => []
  | _ => []
def noAssign (ops : Array Oper) (i : Nat) (d : Tmp) : Bool := (ops.toList.drop i).all fun o => match o.dst with
  | some e => !(e == d)
  | none => true
/-- Two that touch memory, not both reading: they may change places where their places differ, which is seen at the end. -/
def isDyn (q : FuncId → Nat) (x y : Oper) : Bool := !(touchO x).isEmpty && !(touchO y).isEmpty && !(opClass q x == 1 && opClass q y == 1)
def classF (q : FuncId → Nat) (x y : Oper) : Bool :=
  opClass q x == 0 || opClass q y == 0 || (touchO x).isEmpty || (touchO y).isEmpty || (opClass q x == 1 && opClass q y == 1)
def dynSt (ops : Array Oper) (o : Oper) (i : Nat) : Bool := (touchO o).all fun x => match x with
  | .tmp d => noAssign ops i d
  | .const _ => true
  | _ => false
def swapF (q : FuncId → Nat) (ops : Array Oper) (x : Oper) (j : Nat) (y : Oper) (i : Nat) : Bool :=
  x.apart ops y && (classF q x y || (isDyn q x y && dynSt ops x j && dynSt ops y i))
def regionF (q : FuncId → Nat) (ops : Array Oper) : Bool :=
  let d := depsL ops.toList []
  ops.toList.zipIdx.all fun (o, i) =>
    o.after.toList.all (fun e => !Region.binds .any e || decide (e.on < i)) &&
    (List.range ops.size).all (fun j => !(d.getD i 0).testBit j || (o.after.toList.any fun e => Region.binds .any e && (e.on == j || (d.getD e.on 0).testBit j))) &&
    ops.toList.zipIdx.all fun (p, j) => !(decide (j < i)) || (d.getD i 0).testBit j || swapF q ops p j o i
/-- The block that a value points into. -/
def blkOf : Value → Option Nat
  | .pointer (some a) => some a.block
  | .slice (some a) _ _ => some a.block
  | _ => none
/-- It is known whether there is one. -/
def blkKnown : Value → Bool
  | .pointer (some _) => true
  | .slice (some _) _ _ => true
  | .slice none _ _ => true
  | _ => false
def differ (tm : List Value) (x y : Oper) : Bool :=
  (touchO x).all fun a => blkKnown (evalT tm a) && (touchO y).all fun b => blkKnown (evalT tm b) && (match blkOf (evalT tm a), blkOf (evalT tm b) with
    | some i, some j => !(i == j)
    | _, _ => true)
/-- What is seen at the end: places that are read and written, in any order, differ. -/
def dynOk (q : FuncId → Nat) (ops : Array Oper) (tm : List Value) : Bool :=
  let d := depsL ops.toList []
  ops.toList.zipIdx.all fun (o, i) => ops.toList.zipIdx.all fun (p, j) => !(decide (j < i)) || !(isDyn q p o) || (d.getD i 0).testBit j || differ tm p o

/-- The same value, of the block k. -/
def atB (k : Nat) : Value → Option Value
  | .pointer (some ⟨_, 0, none⟩) => some (.pointer (some ⟨k, 0, none⟩))
  | .slice (some ⟨_, 0, none⟩) n c => some (.slice (some ⟨k, 0, none⟩) n c)
  | _ => none
/-- A block that was made, put at a place that was kept. -/
def placeV (k : Nat) (H : AHeap) (v0 : Value) (H0 : AHeap) : Option (Value × AHeap) :=
  if H0.size == H.size then some (v0, H0) else
  match H0.toList.drop H.size, H[k]?, atB k v0 with
  | [X], some none, some v => some (v, ((H0.toList.take H.size).set k X).toArray)
  | _, _, _ => none
def execF (P : Program) (O : Orc) (q : FuncId → Nat) (k : Nat) (ρ : Operand → Value) (H : AHeap) (o : Oper) : Option (Value × AHeap) :=
  match exec1 P O q ρ H o with
  | some (v, H') => if isMk o then placeV k H v H' else some (v, H')
  | none => none
def evOpsF (P : Program) (O : Orc) (q : FuncId → Nat) (ops : Array Oper) : List Oper → Nat → List Value → AHeap → Option (List Value × AHeap)
  | [], _, tm, H => some (tm, H)
  | o :: rest, k, tm, H =>
    if wantedL ops o tm then
      match execF P O q k (evalT tm) H o with
      | some (v, H') => evOpsF P O q ops rest (if isMk o then k + 1 else k) (putT tm o.dst v) H'
      | none => none
    else if gOk ops o tm then evOpsF P O q ops rest (if isMk o then k + 1 else k) (putT tm o.dst undef) H else none

def codeOk (q : FuncId → Nat) : Code → Bool
  | .region _ ops draw => ops.toList.all opOk && (!draw || (if special q ops then regionF q ops else regionOk q ops))
  | .seq a b => codeOk q a && codeOk q b
  | .cond c x y => operandOk c && codeOk q x && codeOk q y
  | .block _ b => codeOk q b
  | .loop b => codeOk q b
  | .scope b => codeOk q b
  | _ => true

inductive AExit where
  | normal
  | exit (id : Nat)
  | ret
  | goto (l : Nat)
  deriving DecidableEq

abbrev St := AExit × List Value × AHeap

def loopN (f : List Value → AHeap → Option St) : Nat → List Value → AHeap → Option St
  | 0, _, _ => none
  | n + 1, tm, H =>
    match f tm H with
    | some (.normal, tm', H') => loopN f n tm' H'
    | r => r

mutual
def ev (P : Program) (O : Orc) (q : FuncId → Nat) (n : Nat) : Code → List Value → AHeap → Option St
  | .skip, tm, H => some (.normal, tm, H)
  | .label _, tm, H => some (.normal, tm, H)
  | .region _ ops draw, tm, H =>
    if draw && special q ops then
      match evOpsF P O q ops ops.toList H.size tm (H.toList ++ List.replicate (countB isMk ops.toList) none).toArray with
      | some (tm', H') => if dynOk q ops tm' then some (.normal, tm', H') else none
      | none => none
    else
    match evOps P O q ops ops.toList tm H with
    | some (tm', H') => some (.normal, tm', H')
    | none => none
  | .seq a b, tm, H =>
    match ev P O q n a tm H with
    | some (.normal, tm', H') => ev P O q n b tm' H'
    | r => r
  | .cond c x y, tm, H =>
    match evalT tm c with
    | .bool b => if b then ev P O q n x tm H else ev P O q n y tm H
    | _ => none
  | .block id body, tm, H =>
    match ev P O q n body tm H with
    | some (.exit id', tm', H') => if id' = id then some (.normal, tm', H') else some (.exit id', tm', H')
    | r => r
  | .loop body, tm, H => loopN (ev P O q n body) n tm H
  | .exit id, tm, H => some (.exit id, tm, H)
  | .ret, tm, H => some (.ret, tm, H)
  | .goto l, tm, H => some (.goto l, tm, H)
  | .scope c, tm, H =>
    match ev P O q n c tm H with
    | some (.goto l, tm', H') => match evJ P O q n c l tm' H' with
      | some (.goto _, _, _) => none
      | r => r
    | r => r
  | _, _, _ => none
/-- Code from a label on. -/
def evJ (P : Program) (O : Orc) (q : FuncId → Nat) (n : Nat) : Code → Nat → List Value → AHeap → Option St
  | .seq a b, l, tm, H =>
    match findLabel a l with
    | some _ => match evJ P O q n a l tm H with
      | some (.normal, tm', H') => ev P O q n b tm' H'
      | r => r
    | none => evJ P O q n b l tm H
  | .label l', l, tm, H => if l' == l then some (.normal, tm, H) else none
  | _, _, _, _ => none
end

def resOne (P : Program) (H : AHeap) (tm : List Value) : ResultVar → Option Value
  | .tmp t => some (getT tm t)
  | .cell a t => match getT tm a with
    | .pointer (some a) => readVar P H t a
    | _ => none

def resList (P : Program) (H : AHeap) (tm : List Value) : List ResultVar → Option (List Value)
  | [] => some []
  | r :: rs => match resOne P H tm r with
    | some v => match resList P H tm rs with
      | some vs => some (v :: vs)
      | none => none
    | none => none

def resV (P : Program) (H : AHeap) (tm : List Value) (rs : List ResultVar) : Option Value :=
  match resList P H tm rs with
  | some [v] => some v
  | some vs => some (.tuple vs.toArray)
  | none => none

def evFunc (P : Program) (O : Orc) (q : FuncId → Nat) (n : Nat) (f : FuncId) (args : Array Value) (H : AHeap) : Option (Value × AHeap) :=
  match P.funcs[f]? with
  | some fn => match fn.body with
    | some c =>
      match ev P O q n c (args.toList ++ List.replicate (fn.ntmps - args.size) undef) H with
      | some (.exit _, _, _) => none
      | some (.goto _, _, _) => none
      | some (_, tm, H') => (resV P H' tm fn.results.toList).map (·, H')
      | none => none
    | none => none
  | none => none

/-- Functions with a body, one in the other, to a depth. 'fs': those that were looked at. -/
def callN (P : Program) (prim : Orc) (q : FuncId → Nat) (fs : FuncId → Bool) (n : Nat) : Nat → FuncId → Array Value → AHeap → Option (Value × AHeap)
  | 0, f, args, H => prim.call f args H
  | d + 1, f, args, H =>
    match prim.call f args H with
    | some r => some r
    | none => if fs f then evFunc P { prim with call := callN P prim q fs n d } q n f args H else none


/-! ### the same as a relation: a call comes to whatever is known of it -/

def noCall (O : Orc) : Orc := { O with call := fun _ _ _ => none }

def callR (C : FuncId → Array Value → AHeap → Value → AHeap → Prop) (O : Orc) (q : FuncId → Nat) (g : FuncId) (args : Array Value) (H : AHeap) (v : Value) (H' : AHeap) : Prop :=
  match O.row g args with
  | some u => v = u ∧ H' = H
  | none =>
    match q g with
    | 1 => closA args = true ∧ closN 4 v = true ∧ H' = H ∧ ∃ H2, C g args #[] v H2
    | 2 => ∃ H1, C g args (froze H) v H1 ∧ H.size ≤ H1.size ∧ (H1.toList.drop H.size).all isOwn = true ∧ H' = thaw H H1
    | 3 => closN 4 v = true ∧ H' = H ∧ ∃ H1, C g args (froze H) v H1
    | _ => C g args H v H'

def isFunc : Operand → Bool
  | .func _ => true
  | _ => false

def exR (P : Program) (C : FuncId → Array Value → AHeap → Value → AHeap → Prop) (O : Orc) (q : FuncId → Nat) (ρ : Operand → Value) (H : AHeap) (o : Oper) (v : Value) (H' : AHeap) : Prop :=
  match o.op with
  | .call c =>
    match c.callee with
    | .value f => match ρ f with
      | .func (.func g) first captured => (isFunc f = true ∨ q g = 3) ∧ callR C O q g (first.toList ++ c.args.toList.map ρ ++ captured.toList).toArray H v H'
      | _ => False
    | _ => exec1 P (noCall O) q ρ H o = some (v, H')
  | _ => exec1 P (noCall O) q ρ H o = some (v, H')

/-- What an operation comes to, wanted or not. -/
def outR (P : Program) (C : FuncId → Array Value → AHeap → Value → AHeap → Prop) (O : Orc) (q : FuncId → Nat) (ops : Array Oper) (o : Oper) (tm : List Value) (H : AHeap) (v : Value) (H' : AHeap) : Prop :=
  if wantedL ops o tm then exR P C O q (evalT tm) H o v H' else v = undef ∧ H' = H ∧ gOk ops o tm = true

def evOpsR (P : Program) (C : FuncId → Array Value → AHeap → Value → AHeap → Prop) (O : Orc) (q : FuncId → Nat) (ops : Array Oper) : List Oper → List Value → AHeap → List Value → AHeap → Prop
  | [], tm, H, tm', H' => tm' = tm ∧ H' = H
  | o :: rest, tm, H, tm', H' => ∃ v H1, outR P C O q ops o tm H v H1 ∧ evOpsR P C O q ops rest (putT tm o.dst v) H1 tm' H'

/-- What an operation comes to, its block at the place that is kept for it. -/
def outF (P : Program) (C : FuncId → Array Value → AHeap → Value → AHeap → Prop) (O : Orc) (q : FuncId → Nat) (ops : Array Oper) (k : Nat) (o : Oper) (tm : List Value) (H : AHeap) (v : Value) (H' : AHeap) : Prop :=
  if wantedL ops o tm then (if isMk o then ∃ v0 H0, exR P C O q (evalT tm) H o v0 H0 ∧ placeV k H v0 H0 = some (v, H') else exR P C O q (evalT tm) H o v H') else v = undef ∧ H' = H ∧ gOk ops o tm = true
def evOpsFR (P : Program) (C : FuncId → Array Value → AHeap → Value → AHeap → Prop) (O : Orc) (q : FuncId → Nat) (ops : Array Oper) : List Oper → Nat → List Value → AHeap → List Value → AHeap → Prop
  | [], _, tm, H, tm', H' => tm' = tm ∧ H' = H
  | o :: rest, k, tm, H, tm', H' => ∃ v H1, outF P C O q ops k o tm H v H1 ∧ evOpsFR P C O q ops rest (if isMk o then k + 1 else k) (putT tm o.dst v) H1 tm' H'
/-- A memory with places that are kept. -/
def kept (H : AHeap) (ops : Array Oper) : AHeap := H ++ Array.replicate (countB isMk ops.toList) none

/-- A region: in the text's order; or, where several blocks are made and written, with their places kept. -/
def regR (P : Program) (C : FuncId → Array Value → AHeap → Value → AHeap → Prop) (O : Orc) (q : FuncId → Nat) (ops : Array Oper) (draw : Bool) (tm : List Value) (H : AHeap) (tm' : List Value) (H' : AHeap) : Prop :=
  if (draw && special q ops) = true then evOpsFR P C O q ops ops.toList H.size tm (kept H ops) tm' H' ∧ dynOk q ops tm' = true else evOpsR P C O q ops ops.toList tm H tm' H'

/-- Rounds of a loop. -/
inductive Rds (f : List Value → AHeap → St → Prop) : List Value → AHeap → St → Prop
  | next {tm : List Value} {H : AHeap} {tm1 : List Value} {H1 : AHeap} {r : St} (h : f tm H (.normal, tm1, H1)) (t : Rds f tm1 H1 r) : Rds f tm H r
  | last {tm : List Value} {H : AHeap} {r : St} (h : f tm H r) (hn : r.1 ≠ .normal) : Rds f tm H r

mutual
def evR (P : Program) (C : FuncId → Array Value → AHeap → Value → AHeap → Prop) (O : Orc) (q : FuncId → Nat) : Code → List Value → AHeap → St → Prop
  | .skip, tm, H, r | .label _, tm, H, r => r = (.normal, tm, H)
  | .region _ ops draw, tm, H, r => ∃ tm' H', regR P C O q ops draw tm H tm' H' ∧ r = (.normal, tm', H')
  | .seq a b, tm, H, r => ∃ r1, evR P C O q a tm H r1 ∧ match r1 with
    | (.normal, tm1, H1) => evR P C O q b tm1 H1 r
    | _ => r = r1
  | .cond c x y, tm, H, r => match evalT tm c with
    | .bool b => if b then evR P C O q x tm H r else evR P C O q y tm H r
    | _ => False
  | .block id body, tm, H, r => ∃ r1, evR P C O q body tm H r1 ∧ match r1 with
    | (.exit id', tm1, H1) => if id' = id then r = (.normal, tm1, H1) else r = r1
    | _ => r = r1
  | .loop body, tm, H, r => Rds (evR P C O q body) tm H r
  | .exit id, tm, H, r => r = (.exit id, tm, H)
  | .ret, tm, H, r => r = (.ret, tm, H)
  | .goto l, tm, H, r => r = (.goto l, tm, H)
  | .scope c, tm, H, r => ∃ r1, evR P C O q c tm H r1 ∧ match r1 with
    | (.goto l, tm1, H1) => evJR P C O q c l tm1 H1 r ∧ ∀ l', r.1 ≠ .goto l'
    | _ => r = r1
  | _, _, _, _ => False
/-- Code from a label on. -/
def evJR (P : Program) (C : FuncId → Array Value → AHeap → Value → AHeap → Prop) (O : Orc) (q : FuncId → Nat) : Code → Nat → List Value → AHeap → St → Prop
  | .seq a b, l, tm, H, r => match findLabel a l with
    | some _ => ∃ r1, evJR P C O q a l tm H r1 ∧ match r1 with
      | (.normal, tm1, H1) => evR P C O q b tm1 H1 r
      | _ => r = r1
    | none => evJR P C O q b l tm H r
  | .label l', l, tm, H, r => (l' == l) = true ∧ r = (.normal, tm, H)
  | _, _, _, _, _ => False
end

end Go.Proofs.YtameamgamdaibaaDoor

/-!  The interpreter's operations are the model's: reading, writing, laying parts, slices, appending. -/
namespace Go.Proofs.YtameamgamdaibaaDoor
open Go
set_option linter.unusedVariables false

theorem oneCell_of {m : Mp} {x y : Value} (h : VR m x y) (hx : oneC x = true) : y.oneCell' = true := by
  cases h <;> first | rfl | cases hx

theorem VRs.get {m : Mp} {xs ys : Array Value} (h : VRs m xs ys) {i : Nat} {x : Value} (hx : xs[i]? = some x) : ∃ y, ys[i]? = some y ∧ VR m x y := by
  have hi := lt_of_get hx
  have hi' : i < ys.size := by rw [← h.1]; exact hi
  refine ⟨ys[i], Array.getElem?_eq_getElem hi', ?_⟩
  rw [Array.getElem?_eq_getElem hi] at hx
  injection hx with hx
  rw [← hx]; exact h.2 i hi hi'

theorem VRs.of_get {m : Mp} {xs ys : Array Value} (hs : xs.size = ys.size) (h : ∀ (i : Nat) (x : Value), xs[i]? = some x → ∃ y, ys[i]? = some y ∧ VR m x y) : VRs m xs ys := by
  refine ⟨hs, fun i hi hi' => ?_⟩
  obtain ⟨y, hy, hr⟩ := h i xs[i] (Array.getElem?_eq_getElem hi)
  rw [Array.getElem?_eq_getElem hi'] at hy
  injection hy with hy
  rw [hy]; exact hr

/-- Lists of values, one by one. -/
inductive VRl (m : Mp) : List Value → List Value → Prop
  | nil : VRl m [] []
  | cons {x y : Value} {xs ys : List Value} (h : VR m x y) (t : VRl m xs ys) : VRl m (x :: xs) (y :: ys)

theorem VRl.length {m : Mp} {xs ys : List Value} (h : VRl m xs ys) : xs.length = ys.length := by induction h <;> simp [*]
theorem VRl.mono {m m' : Mp} (he : Ext m m') {xs ys : List Value} (h : VRl m xs ys) : VRl m' xs ys := by
  induction h with
  | nil => exact .nil
  | cons h _ ih => exact .cons (h.mono he) ih
theorem VRl.append {m : Mp} {xs ys us vs : List Value} (h : VRl m xs ys) (h' : VRl m us vs) : VRl m (xs ++ us) (ys ++ vs) := by
  induction h with
  | nil => exact h'
  | cons h _ ih => exact .cons h ih
theorem VRl.drop {m : Mp} {xs ys : List Value} (h : VRl m xs ys) : ∀ n, VRl m (xs.drop n) (ys.drop n) := by
  induction h with
  | nil => intro n; simp; exact .nil
  | cons h t ih => intro n; cases n with
    | zero => exact .cons h t
    | succ n => exact ih n
theorem VRl.take {m : Mp} {xs ys : List Value} (h : VRl m xs ys) : ∀ n, VRl m (xs.take n) (ys.take n) := by
  induction h with
  | nil => intro n; simp; exact .nil
  | cons h t ih => intro n; cases n with
    | zero => exact .nil
    | succ n => exact .cons h (ih n)
theorem VRl.get {m : Mp} {xs ys : List Value} (h : VRl m xs ys) : ∀ {i : Nat} {x : Value}, xs[i]? = some x → ∃ y, ys[i]? = some y ∧ VR m x y := by
  induction h with
  | nil => intro i x hx; simp at hx
  | cons h t ih => intro i x hx; cases i with
    | zero => simp at hx; subst hx; exact ⟨_, rfl, h⟩
    | succ i => simpa using ih (by simpa using hx)
theorem VRl.set {m : Mp} {xs ys : List Value} (h : VRl m xs ys) {x y : Value} (hx : VR m x y) : ∀ n, VRl m (xs.set n x) (ys.set n y) := by
  induction h with
  | nil => intro n; simp; exact .nil
  | cons h t ih => intro n; cases n with
    | zero => exact .cons hx t
    | succ n => exact .cons h (ih n)
theorem VRl.of_forall {m : Mp} : ∀ {xs ys : List Value}, xs.length = ys.length → (∀ (i : Nat) (x y : Value), xs[i]? = some x → ys[i]? = some y → VR m x y) → VRl m xs ys
  | [], [], _, _ => .nil
  | [], _ :: _, h, _ => by simp at h
  | _ :: _, [], h, _ => by simp at h
  | x :: xs, y :: ys, h, hf => .cons (hf 0 x y rfl rfl) (VRl.of_forall (by simpa using h) fun i a b ha hb => hf (i + 1) a b (by simpa using ha) (by simpa using hb))
theorem VRl.monoL {m m' : Mp} (he : ExtL m m') {xs ys : List Value} (h : VRl m xs ys) : VRl m' xs ys := by
  induction h with
  | nil => exact .nil
  | cons h _ ih => exact .cons (h.monoL he) ih

theorem VRs.list {m : Mp} {xs ys : Array Value} (h : VRs m xs ys) : VRl m xs.toList ys.toList :=
  VRl.of_forall (by simpa using h.1) fun i x y hx hy => by
    obtain ⟨y', h1, h2⟩ := h.get (i := i) (x := x) (by simpa using hx)
    have : ys[i]? = some y := by simpa using hy
    rw [this] at h1; injection h1 with h1; rw [h1]; exact h2
theorem VRl.arr {m : Mp} {xs ys : List Value} (h : VRl m xs ys) : VRs m xs.toArray ys.toArray :=
  VRs.of_get (by simpa using h.length) fun i x hx => by simpa using h.get (i := i) (x := x) (by simpa using hx)
theorem VRs.of_list {m : Mp} {xs ys : Array Value} (h : VRl m xs.toList ys.toList) : VRs m xs ys := by simpa using h.arr

theorem VR.agg' {m : Mp} {xs ys : Array Value} (h : VRs m xs ys) : VR m (.agg xs) (.agg ys) := .agg h.1 h.2
theorem VR.tuple' {m : Mp} {xs ys : Array Value} (h : VRs m xs ys) : VR m (.tuple xs) (.tuple ys) := .tuple h.1 h.2
theorem VR.func' {m : Mp} (fn : Fn) {xs ys us vs : Array Value} (h : VRs m xs ys) (h' : VRs m us vs) : VR m (.func fn xs us) (.func fn ys vs) := .func fn h.1 h.2 h'.1 h'.2

theorem VRl.clos (m : Mp) : ∀ (xs : List Value), xs.all (closN 4) = true → VRl m xs xs
  | [], _ => .nil
  | x :: xs, h => by
    simp only [List.all_cons, Bool.and_eq_true] at h
    exact .cons (.of_clos m 4 x h.1) (VRl.clos m xs h.2)

section
variable {P : Program}

theorem run_info {t : TypeId} {i : TypeInfo} (h : P.info? t = some i) (w : World) : (typeInfo t).run P w = .ok i w := by simp [typeInfo, h]
theorem run_size {t : TypeId} {i : TypeInfo} (h : P.info? t = some i) (w : World) : (sizeOf t).run P w = .ok i.size w := by simp [sizeOf, run_info h]
theorem run_zero {t : TypeId} {i : TypeInfo} {z : Value} (h : P.info? t = some i) (hz : i.zero = some z) (w : World) : (zeroValue t).run P w = .ok z w := by simp [zeroValue, run_info h, hz]

theorem cut_eq (cs : Array Value) (off n : Nat) : cut cs off n = cs.extract off (off + n) := by
  apply Array.ext'
  simp only [cut, Array.toList_extract, List.extract]
  congr 1; omega

theorem run_loadVar {t : TypeId} {H : AHeap} {m : Mp} {w : World} (hr : HR H m w) {a a' : Addr} (ha : tr m a = some a') {v : Value} (h : readVar P H t a = some v) :
    ∃ v', (loadVar t a').run P w = .ok v' w ∧ VR m v v' := by
  unfold readVar at h
  split at h
  · rename_i B hb
    have agg : ∀ (i : TypeInfo), P.info? t = some i → (isAgg t).run P w = .ok true w → a.off + i.size ≤ B.cells.size → ∃ v', (loadVar t a').run P w = .ok v' w ∧ VR m (.agg (cut B.cells a.off i.size)) v' := by
      intro i hi hag hle
      obtain ⟨cs, hsz, hv, hc⟩ := hr.load ha hb i.size hle
      have hl := run_loadCells_list (P := P) w a' cs.toList hc
      simp only [Array.length_toList, hsz, Array.toArray_toList] at hl
      refine ⟨.agg cs, ?_, by rw [cut_eq]; exact .agg' hv⟩
      unfold loadVar
      simp [hag, run_size hi, hl]
    split at h
    · rename_i fs hu
      split at h
      · rename_i i hi
        split at h
        · rename_i hle
          injection h with h; subst h
          exact agg i hi (by simp [isAgg, run_underlying hu]) hle
        · cases h
      · cases h
    · rename_i n e hu
      split at h
      · rename_i i hi
        split at h
        · rename_i hle
          injection h with h; subst h
          exact agg i hi (by simp [isAgg, run_underlying hu]) hle
        · cases h
      · cases h
    · rename_i d h1 h2 hu
      obtain ⟨v', hc, hv⟩ := hr.load1 ha hb h
      refine ⟨v', ?_, hv⟩
      have hag : (isAgg t).run P w = .ok false w := by
        unfold isAgg
        cases d <;> first | (exact (h1 _ rfl).elim) | (exact (h2 _ _ rfl).elim) | simp [run_underlying hu]
      unfold loadVar
      simp [hag, hc]
    · cases h
  · cases h

theorem putL_size : ∀ (vs : List Value) (cs : Array Value) (off : Nat), (putL cs off vs).size = cs.size
  | [], _, _ => rfl
  | v :: vs, cs, off => by simp [putL, putL_size vs]

theorem putL_get : ∀ (vs : List Value) (cs : Array Value) (off i : Nat), off + vs.length ≤ cs.size →
    (putL cs off vs)[i]? = if off ≤ i ∧ i < off + vs.length then vs[i - off]? else cs[i]?
  | [], cs, off, i, h => by
    have : ¬ (off ≤ i ∧ i < off + ([] : List Value).length) := by simp only [List.length_nil]; omega
    rw [if_neg this]; rfl
  | v :: vs, cs, off, i, h => by
    simp only [List.length_cons] at h
    rw [putL, putL_get vs _ (off + 1) i (by simp; omega)]
    by_cases h1 : i = off
    · subst h1
      rw [if_neg (by omega), if_pos (by simp)]
      rw [Array.getElem?_setIfInBounds_self_of_lt (by omega)]
      simp
    · by_cases h2 : off ≤ i ∧ i < off + (v :: vs).length
      · have h3 : off + 1 ≤ i ∧ i < off + 1 + vs.length := by simp only [List.length_cons] at h2; omega
        rw [if_pos h2, if_pos h3]
        have : i - off = (i - (off + 1)) + 1 := by omega
        rw [this]; simp
      · rw [if_neg h2, if_neg (by simp only [List.length_cons] at h2; omega)]
        rw [Array.getElem?_setIfInBounds_ne (by omega)]

theorem putL_rel {m : Mp} {vs vs' : List Value} (h : VRl m vs vs') : ∀ {cs cs' : Array Value} (off : Nat), VRs m cs cs' → VRs m (putL cs off vs) (putL cs' off vs') := by
  induction h with
  | nil => intro cs cs' off hc; exact hc
  | cons h t ih =>
    intro cs cs' off hc
    refine ih (off + 1) (.of_list ?_)
    simp only [Array.toList_setIfInBounds]
    exact hc.list.set h off

theorem run_storeVar' {t : TypeId} {H H' : AHeap} {m : Mp} {w : World} (hr : HR H m w) {a a' : Addr} (ha : tr m a = some a') {v v' : Value} (hv : VR m v v') (h : writeVar P H t a v = some H') :
    ∃ w', (storeVar t a' v').run P w = .ok () w' ∧ HR H' m w' ∧ Step H m w H' m w' := by
  unfold writeVar at h
  split at h
  · rename_i B i hb hi
    split at h
    · rename_i hc
      simp only [Bool.and_eq_true, beq_iff_eq, decide_eq_true_eq] at hc
      obtain ⟨⟨⟨⟨hown, hna⟩, hsz⟩, hle⟩, hone⟩ := hc
      injection h with h; subst h
      obtain ⟨l, cs, fr, hl, r, rfl⟩ := hr.at_ ha hb
      obtain ⟨hfr, hbase, helem, _⟩ := r.mine hown
      subst hfr
      have hvs := hv.cells hna
      have hvl := hvs.list
      have hlen : v'.cells.toList.length = i.size := by rw [← hvl.length]; simpa using hsz
      have hfit := r.fits
      have hone' : ∀ x ∈ v'.cells.toList, x.oneCell' = true := by
        intro x hx
        obtain ⟨j, hj, rfl⟩ := List.getElem_of_mem hx
        have hj' : j < v.cells.toList.length := by rw [hvl.length]; exact hj
        obtain ⟨y, hy1, hy2⟩ := hvl.get (i := j) (x := v.cells.toList[j]) (List.getElem?_eq_getElem hj')
        rw [List.getElem?_eq_getElem hj] at hy1
        injection hy1 with hy1
        rw [hy1]
        refine oneCell_of hy2 ?_
        exact (List.all_eq_true.1 hone) _ (List.getElem_mem hj')
      have hst := run_storeCells_at P l.blk (l.base + a.off) l.elem v'.cells.toList 0 cs w r.real (by rw [hlen]; omega) hone'
      simp only [Nat.add_zero] at hst
      generalize hcs' : (cs.toList.take (l.base + a.off) ++ v'.cells.toList ++ cs.toList.drop (l.base + a.off + v'.cells.toList.length)).toArray = cs' at hst
      have hlen' : v'.cells.size = i.size := by simpa using hlen
      have hcsz : cs'.size = cs.size := by
        rw [← hcs']
        simp only [List.size_toArray, List.length_append, List.length_take, List.length_drop, Array.length_toList]
        omega
      have hst2 := hr.store hb hown hl r (putL B.cells a.off v.cells.toList) cs' hcsz (by rw [putL_size]; omega) (by
        intro k x hx
        rw [putL_get _ _ _ _ (by simp; omega)] at hx
        have hb0 : l.base = 0 := hbase
        have hget : cs'[k]? = if a.off ≤ k ∧ k < a.off + v'.cells.size then v'.cells[k - a.off]? else cs[k]? := by
          rw [← hcs', hb0]
          simp only [Nat.zero_add, List.getElem?_toArray, Array.length_toList]
          by_cases hk : k < a.off
          · rw [if_neg (by omega), List.append_assoc, List.getElem?_append_left (by simp; omega), List.getElem?_take_of_lt hk]
            simp
          · have hk1 : (List.take a.off cs.toList).length = a.off := by simp; omega
            rw [List.append_assoc, List.getElem?_append_right (by omega), hk1]
            by_cases hk2 : k < a.off + v'.cells.size
            · rw [if_pos ⟨by omega, hk2⟩, List.getElem?_append_left (by simp; omega)]
              simp
            · rw [if_neg (by omega), List.getElem?_append_right (by simp; omega), List.getElem?_drop]
              simp only [Array.length_toList, Array.getElem?_toList]
              congr 1; omega
        rw [hget]
        simp only [Array.length_toList] at hx
        have hss : v.cells.size = v'.cells.size := hvs.1
        by_cases hk : a.off ≤ k ∧ k < a.off + v.cells.size
        · rw [if_pos hk] at hx
          rw [if_pos (by omega)]
          exact hvs.get (by simpa using hx)
        · rw [if_neg hk] at hx
          rw [if_neg (by omega)]
          have := r.vals k x hx
          simpa [hb0] using this)
      refine ⟨w.setRow l.blk cs', ?_, hst2.1, hst2.2⟩
      unfold storeVar
      simp [run_size hi, hlen', hst]
    · cases h
  · cases h

/-! ### parts laid over cells -/

theorem fold_put : ∀ (l : List Value) (k : Nat) (cs : Array Value) (off : Nat), (l.zipIdx k).foldl (fun cs (p : Value × Nat) => cs.setIfInBounds (off + p.2) p.1) cs = putL cs (off + k) l
  | [], _, _, _ => rfl
  | v :: l, k, cs, off => by
    simp only [List.zipIdx_cons, List.foldl_cons, putL]
    rw [fold_put l (k + 1) _ off]
    congr 1

theorem fill_rel {m : Mp} (place place' : Nat → Option (Nat × Nat)) (hp : ∀ i x, place i = some x → place' i = some x) :
    ∀ (parts parts' : List (Nat × Value)) (cs cs' r : Array Value), parts.map (·.1) = parts'.map (·.1) → VRl m (parts.map (·.2)) (parts'.map (·.2)) → VRs m cs cs' → fillL place cs parts = some r →
      ∃ r', Instr.fill place' cs' parts' = some r' ∧ VRs m r r'
  | [], [], cs, cs', r, _, _, hc, h => by simp only [fillL] at h; injection h with h; subst h; exact ⟨cs', rfl, hc⟩
  | [], _ :: _, _, _, _, h, _, _, _ => by simp at h
  | _ :: _, [], _, _, _, h, _, _, _ => by simp at h
  | (i, v) :: parts, (i', v') :: parts', cs, cs', r, hi, hv, hc, h => by
    simp only [List.map_cons, List.cons.injEq] at hi
    obtain ⟨rfl, hi⟩ := hi
    cases hv with
    | cons hv hvs =>
      simp only [fillL] at h
      split at h
      · cases h
      · rename_i off size hpl
        split at h
        · rename_i hcond
          simp only [Bool.and_eq_true, beq_iff_eq, decide_eq_true_eq] at hcond
          obtain ⟨⟨hna, hcond1⟩, hcond2⟩ := hcond
          have hsz : v'.cells.size = size := by rw [← hv.cells_size hna]; exact hcond1
          have hcs : off + size ≤ cs'.size := by rw [← hc.1]; exact hcond2
          obtain ⟨r', hr1, hr2⟩ := fill_rel place place' hp parts parts' _ _ r hi hvs (putL_rel (hv.cells hna).list off hc) h
          refine ⟨r', ?_, hr2⟩
          simp only [Instr.fill, hp i _ hpl]
          rw [if_neg (by simp [hsz]; omega)]
          rw [← Array.foldl_toList, Array.toList_zipIdx, fold_put]
          simpa using hr1
        · cases h

theorem repL_length (z : List Value) : ∀ n, (repL z n).length = n * z.length
  | 0 => by simp [repL]
  | n + 1 => by simp [repL, repL_length z n, Nat.succ_mul, Nat.add_comm]
theorem repL_get (z : List Value) (hz : 0 < z.length) : ∀ (n i : Nat), i < n * z.length → (repL z n)[i]? = z[i % z.length]?
  | 0, i, h => by simp at h
  | n + 1, i, h => by
    simp only [repL]
    by_cases hi : i < z.length
    · rw [List.getElem?_append_left hi, Nat.mod_eq_of_lt hi]
    · rw [List.getElem?_append_right (by omega), repL_get z hz n (i - z.length) (by rw [Nat.succ_mul] at h; omega)]
      congr 1
      rw [Nat.mod_eq_sub_mod (by omega : i ≥ z.length)]
theorem rep_eq (z : Array Value) (hz : 0 < z.size) (n : Nat) : (Array.range (n * z.size)).map (z[· % z.size]!) = (repL z.toList n).toArray := by
  apply Array.ext
  · simp [repL_length]
  · intro i h1 h2
    simp only [Array.size_map, Array.size_range] at h1
    have hm : i % z.size < z.size := Nat.mod_lt _ hz
    have hg := repL_get z.toList (by simpa using hz) n i (by simpa using h1)
    simp only [Array.length_toList, Array.getElem?_toList] at hg
    rw [Array.getElem?_eq_getElem hm] at hg
    have h2' : i < (repL z.toList n).length := by simpa using h2
    rw [List.getElem?_eq_getElem h2'] at hg
    injection hg with hg
    simp [hg, hm]

theorem closN_notAny {d : Nat} {z : Value} (h : closN d z = true) : notAny z = true := by
  cases d with
  | zero => cases h
  | succ d => cases z <;> first | rfl | cases h
theorem closN_cells {m : Mp} {z : Value} (h : closN 4 z = true) : VRs m z.cells z.cells := (VR.of_clos m 4 z h).cells (closN_notAny h)

theorem run_places (fs : List Field) (w : World) (h : fs.all (fun f => (P.info? f.type).isSome) = true) :
    (fs.mapM (fun f => do pure (f.offset, ← sizeOf f.type) : Field → Sem (Nat × Nat))).run P w = .ok (fs.map fun f => (f.offset, ((P.info? f.type).map (·.size)).getD 0)) w := by
  induction fs with
  | nil => simp
  | cons f fs ih =>
    simp only [List.all_cons, Bool.and_eq_true] at h
    obtain ⟨i, hi⟩ := Option.isSome_iff_exists.1 h.1
    simp only [List.mapM_cons, Sem.run_bind, run_size hi, Result.andThen_ok, ih h.2, Sem.run_pure]
    simp [hi]

theorem run_build' {t : TypeId} {m : Mp} (parts parts' : List (Nat × Value)) (hi : parts.map (·.1) = parts'.map (·.1)) (hv : VRl m (parts.map (·.2)) (parts'.map (·.2))) {v : Value} (h : buildV P t parts = some v) (w : World) :
    ∃ v', (Instr.build t parts'.toArray).run P w = .ok v' w ∧ VR m v v' := by
  unfold buildV at h
  split at h
  · rename_i i hinf
    split at h
    · rename_i z hz
      split at h
      · rename_i hcl
        split at h
        · rename_i fs hu
          split at h
          · rename_i hall
            simp only [Option.map_eq_some_iff] at h
            obtain ⟨r, hr, rfl⟩ := h
            have hplaces := run_places (P := P) fs.toList w hall
            obtain ⟨r', h1, h2⟩ := fill_rel (m := m) (fieldPlaceL P fs) (fun k => (fs.map fun f => (f.offset, ((P.info? f.type).map (·.size)).getD 0))[k]?) (by
              intro k x hx
              unfold fieldPlaceL at hx
              split at hx
              · rename_i f hf
                split at hx
                · rename_i inf hinf'
                  simp [hf, hinf', hx] at hx ⊢
                · cases hx
              · cases hx) parts parts' _ _ r hi hv (closN_cells hcl) hr
            refine ⟨.agg r', ?_, .agg' h2⟩
            unfold Instr.build
            have hm : (fs.mapM (fun f => do pure (f.offset, ← sizeOf f.type) : Field → Sem (Nat × Nat))).run P w = .ok (fs.map fun f => (f.offset, ((P.info? f.type).map (·.size)).getD 0)) w := by
              rw [Array.mapM_eq_mapM_toList]
              simp only [Sem.run_map, hplaces, Result.andThen_ok]
              congr 1
              apply Array.ext'
              simp
            simp only [Sem.run_bind, run_zero hinf hz, Result.andThen_ok, run_underlying hu, hm]
            rw [h1]
            rfl
          · cases h
        · rename_i n e hu
          split at h
          · rename_i inf hinf'
            simp only [Option.map_eq_some_iff] at h
            obtain ⟨r, hr, rfl⟩ := h
            obtain ⟨r', h1, h2⟩ := fill_rel (m := m) _ (fun j => some (j * inf.size, inf.size)) (fun _ _ h => h) parts parts' _ _ r hi hv (closN_cells hcl) hr
            refine ⟨.agg r', ?_, .agg' h2⟩
            unfold Instr.build
            simp only [Sem.run_bind, run_zero hinf hz, Result.andThen_ok, run_underlying hu, run_size hinf']
            rw [h1]
            rfl
          · cases h
        · cases h
      · cases h
    · cases h
  · cases h

end
end Go.Proofs.YtameamgamdaibaaDoor

/-!  The interpreter's operations are the model's, continued: slices, parts, indexes, conversions, appending, making. -/
namespace Go.Proofs.YtameamgamdaibaaDoor
open Go
set_option linter.unusedVariables false

section
variable {P : Program}

theorem run_buildSlice' {t : TypeId} {len : Nat} {m : Mp} (parts parts' : List (Nat × Value)) (hi : parts.map (·.1) = parts'.map (·.1)) (hv : VRl m (parts.map (·.2)) (parts'.map (·.2)))
    {e : TypeId} {i : TypeInfo} {cells : Array Value} (h : sliceCells P t len parts = some (e, i, cells)) (w : World) :
    ∃ cells', (Instr.buildSlice t len parts'.toArray).run P w = .ok (.slice (some ⟨w.heap.size, 0, none⟩) len len) (w.alloc (.cells cells' e)) ∧ VRs m cells cells' ∧ cells.size = len * i.size := by
  unfold sliceCells at h
  split at h
  · rename_i e' hu
    split at h
    · rename_i inf hinf
      split at h
      · rename_i z hz
        split at h
        · rename_i hc
          simp only [Bool.and_eq_true, beq_iff_eq, decide_eq_true_eq] at hc
          obtain ⟨⟨⟨hcl, hle⟩, hpos⟩, hzs⟩ := hc
          split at h
          · rename_i cs hfill
            injection h with h
            simp only [Prod.mk.injEq] at h
            obtain ⟨rfl, rfl, rfl⟩ := h
            have hz' : VRs m (repL z.cells.toList len).toArray (repL z.cells.toList len).toArray := by
              refine VRl.arr ?_
              have hzl := (closN_cells (m := m) hcl).list
              clear hfill
              induction len with
              | zero => exact .nil
              | succ n ih => exact hzl.append (ih (by rw [Nat.succ_mul] at hle; omega))
            obtain ⟨r', h1, h2⟩ := fill_rel (m := m) _ (fun j => some (j * inf.size, inf.size)) (fun _ _ h => h) parts parts' _ _ cs hi hv hz' hfill
            have hsz : cs.size = len * inf.size := by
              have : ∀ (place : Nat → Option (Nat × Nat)) (ps : List (Nat × Value)) (a r : Array Value), fillL place a ps = some r → r.size = a.size := by
                intro place ps
                induction ps with
                | nil => intro a r hr; simp only [fillL] at hr; injection hr with hr; rw [hr]
                | cons p ps ih =>
                  intro a r hr
                  obtain ⟨pi, pv⟩ := p
                  simp only [fillL] at hr
                  split at hr
                  · cases hr
                  · split at hr
                    · rw [ih _ _ hr, putL_size]
                    · cases hr
              rw [this _ _ _ _ hfill]
              simp [repL_length, hzs]
            refine ⟨r', ?_, h2, hsz⟩
            unfold Instr.buildSlice
            have hrep := rep_eq z.cells (by omega) len
            rw [hzs] at hrep
            by_cases h0 : len * inf.size = 0
            · have hl0 : len = 0 := by
                rcases Nat.mul_eq_zero.1 h0 with h | h
                · exact h
                · omega
              subst hl0
              have hr0 : (repL z.cells.toList 0).toArray = #[] := rfl
              rw [hr0] at h1
              simp [run_underlying hu, run_size hinf, show Array.range 0 = #[] from rfl, h1, newRow]
            · have hgt : ¬ (len * inf.size > 2 ^ 24) := by omega
              simp only [Sem.run_bind, run_underlying hu, Result.andThen_ok, run_size hinf, if_neg hgt, if_neg h0, Sem.run_pure, run_zero hinf hz, Sem.run_ite, hzs, hrep, h1, newRow, run_newObj]
              rfl
          · cases h
        · cases h
      · cases h
    · cases h
  · cases h

theorem tr_add {m : Mp} {a a' : Addr} (h : tr m a = some a') (n : Nat) : tr m ⟨a.block, a.off + n, none⟩ = some (a'.add n) := by
  unfold tr at *
  split at h
  · rename_i l hl
    split at h
    · rename_i hc
      simp only [Bool.and_eq_true] at hc
      injection h with h
      subst h
      simp only [hl]
      rw [add_plain]
      simp [Nat.add_assoc, hc.1]
    · cases h
  · cases h

theorem run_part {t : TypeId} {m : Mp} {cs cs' : Array Value} (hc : VRs m cs cs') {off : Nat} {v : Value} (h : partV P t cs off = some v) (w : World) :
    ∃ v', (part t cs' off).run P w = .ok v' w ∧ VR m v v' := by
  have agg : ∀ (i : TypeInfo), P.info? t = some i → (isAgg t).run P w = .ok true w → off + i.size ≤ cs.size → ∃ v', (part t cs' off).run P w = .ok v' w ∧ VR m (.agg (cut cs off i.size)) v' := by
    intro i hi hag hle
    refine ⟨.agg (cs'.extract off (off + i.size)), by simp [part, hag, run_size hi], .agg' ?_⟩
    rw [cut_eq]
    refine .of_list ?_
    simp only [Array.toList_extract, List.extract]
    exact (hc.list.drop _).take _
  unfold partV at h
  split at h
  · rename_i fs hu
    split at h
    · rename_i i hi
      split at h
      · injection h with h; subst h
        exact agg i hi (by simp [isAgg, run_underlying hu]) (by assumption)
      · cases h
    · cases h
  · rename_i n e hu
    split at h
    · rename_i i hi
      split at h
      · injection h with h; subst h
        exact agg i hi (by simp [isAgg, run_underlying hu]) (by assumption)
      · cases h
    · cases h
  · rename_i d h1 h2 hu
    obtain ⟨v', hg, hv⟩ := hc.get h
    refine ⟨v', ?_, hv⟩
    have hag : (isAgg t).run P w = .ok false w := by
      unfold isAgg
      cases d <;> first | (exact (h1 _ rfl).elim) | (exact (h2 _ _ rfl).elim) | simp [run_underlying hu]
    simp [part, hag, hg]
  · cases h

theorem run_field' {t : TypeId} {m : Mp} {x x' : Value} (hx : VR m x x') {f : Nat} {v : Value} (h : fieldV P t x f = some v) (w : World) :
    ∃ v', (Instr.field t x' f).run P w = .ok v' w ∧ VR m v v' := by
  unfold fieldV at h
  split at h
  · rename_i fs cs hu
    cases hx with
    | agg h1 h2 =>
      split at h
      · rename_i fd hf
        obtain ⟨v', hr, hv⟩ := run_part ⟨h1, h2⟩ h w
        exact ⟨v', by simp [Instr.field, run_underlying hu, hf, asAgg, hr], hv⟩
      · cases h
  · cases h

theorem run_fieldAt' {t : TypeId} {m : Mp} {x x' : Value} (hx : VR m x x') {f : Nat} {v : Value} (h : fieldAddrV P t x f = some v) (w : World) :
    ∃ v', (Instr.fieldAt t x' f).run P w = .ok v' w ∧ VR m v v' := by
  unfold fieldAddrV at h
  split at h
  · rename_i fs a hu
    cases hx with
    | @ptr _ a' ha =>
      split at h
      · rename_i fd hf
        split at h
        · rename_i inf hinf
          split at h
          · cases h
          · rename_i hne
            injection h with h; subst h
            exact ⟨.pointer (some (a'.add fd.offset)), by simp [Instr.fieldAt, run_underlying hu, hf, Instr.sureAddr, fieldPlace, run_size hinf, hne], .ptr (tr_add ha _)⟩
        · cases h
      · cases h
  · cases h

theorem run_indexAt' {t : TypeId} {m : Mp} {x x' i i' : Value} (hx : VR m x x') (hi : VR m i i') {v : Value} (h : indexAddrV P t x i = some v) (w : World) :
    ∃ v', (Instr.indexAt t x' i').run P w = .ok v' w ∧ VR m v v' := by
  unfold indexAddrV at h
  split at h
  · rename_i k j
    cases hi
    split at h
    · rename_i e a n c hu
      cases hx with
      | @slice _ a' _ _ c' ha hn hr =>
        split at h
        · rename_i inf hinf
          split at h
          · rename_i hc
            have hc := ltI_iff hc
            injection h with h; subst h
            exact ⟨.pointer (some (a'.add (j.toNat * inf.size))), by simp [Instr.indexAt, asIntOf, run_underlying hu, run_size hinf, hc.1, hc.2], .ptr (tr_add ha _)⟩
          · cases h
        · cases h
    · rename_i n e a hu
      cases hx with
      | @ptr _ a' ha =>
        split at h
        · rename_i inf hinf
          split at h
          · rename_i hc
            have hc := ltI_iff hc
            injection h with h; subst h
            exact ⟨.pointer (some (a'.add (j.toNat * inf.size))), by simp [Instr.indexAt, asIntOf, run_underlying hu, run_size hinf, hc.1, hc.2, Instr.sureAddr], .ptr (tr_add ha _)⟩
          · cases h
        · cases h
    · cases h
  · cases h

theorem run_index' {t : TypeId} {m : Mp} {x x' i i' : Value} (hx : VR m x x') (hi : VR m i i') {v : Value} (h : indexV P t x i = some v) (w : World) :
    ∃ v', (Instr.index t x' i').run P w = .ok v' w ∧ VR m v v' := by
  unfold indexV at h
  split at h
  · cases hx
    cases hi
    exact ⟨v, (pureV_sound h m).1 w, (pureV_sound h m).2⟩
  · rename_i cs k j
    cases hi
    cases hx with
    | agg h1 h2 =>
      split at h
      · rename_i n e hu
        split at h
        · rename_i inf hinf
          split at h
          · rename_i hc
            simp only [Bool.and_eq_true, decide_eq_true_eq] at hc
            obtain ⟨v', hr, hv⟩ := run_part ⟨h1, h2⟩ h w
            exact ⟨v', by simp [Instr.index, asIntOf, run_underlying hu, run_size hinf, hc.1, hc.2, hr], hv⟩
          · cases h
        · cases h
      · cases h
  · cases h

theorem run_len' {t ty : TypeId} {m : Mp} {x x' : Value} (hx : VR m x x') {v : Value} (h : lenV P t x = some v) (w : World) :
    (Builtin.len_ #[t] ty #[x']).run P w = .ok v w ∧ VR m v v := by
  unfold lenV at h
  split at h
  · rename_i s hu
    cases hx
    injection h with h; subst h
    exact ⟨by simp [Builtin.len_, run_underlying hu, goInt], .int _ _⟩
  · rename_i e a n c hu
    injection h with h; subst h
    refine ⟨?_, .int _ _⟩
    cases hx <;> simp [Builtin.len_, run_underlying hu, goInt]
  · rename_i n e hu
    injection h with h; subst h
    exact ⟨by simp [Builtin.len_, run_underlying hu, goInt], .int _ _⟩
  · cases h

end
end Go.Proofs.YtameamgamdaibaaDoor

/-!  The interpreter's operations are the model's, continued: slicing, making, appending, two operands. -/
namespace Go.Proofs.YtameamgamdaibaaDoor
open Go
set_option linter.unusedVariables false

section
variable {P : Program}

theorem intOf_int {m : Mp} {v v' : Value} {n : Int} (hv : VR m v v') (h : intOf? v = some n) : ∃ k, v' = .int k n := by
  cases hv <;> simp [intOf?] at h
  subst h
  exact ⟨_, rfl⟩

theorem run_sliceBound {k : IntKind} {i : Int} {y : Nat} {code : BoundsCode} (h0 : 0 ≤ i) (h1 : i ≤ y) (w : World) : (Instr.sliceBound (.int k i) y code).run P w = .ok i.toNat w := by
  simp [Instr.sliceBound, asIntOf, h0, h1]

theorem VR.opt {m : Mp} {lo lo' : Option Value} (h : lo.isSome = lo'.isSome) (hv : ∀ v v', lo = some v → lo' = some v' → VR m v v') :
    (lo = none ∧ lo' = none) ∨ ∃ v v', lo = some v ∧ lo' = some v' ∧ VR m v v' := by
  cases lo <;> cases lo' <;> simp at h
  · exact .inl ⟨rfl, rfl⟩
  · exact .inr ⟨_, _, rfl, rfl, hv _ _ rfl rfl⟩

/-- How optional operands stand. -/
def VRo (m : Mp) (x y : Option Value) : Prop := (x = none ∧ y = none) ∨ ∃ v v', x = some v ∧ y = some v' ∧ VR m v v'

theorem run_sliceAt' {t : TypeId} {m : Mp} {x x' : Value} {lo lo' hi hi' mx mx' : Option Value} (hx : VR m x x') (hlo : VRo m lo lo') (hhi : VRo m hi hi') (hmx : VRo m mx mx') {v : Value} (h : sliceV P t x lo hi mx = some v) (w : World) :
    ∃ v', (Instr.sliceAt t x' lo' hi' mx').run P w = .ok v' w ∧ VR m v v' := by
  unfold sliceV at h
  split at h
  · rename_i s
    cases hx
    split at h
    · rename_i hu
      split at h
      · rename_i hm
        have e1 : mx' = none := by
          rcases hmx with ⟨rfl, rfl⟩ | ⟨a, b, rfl, rfl, _⟩
          · rfl
          · simp at hm
        subst e1
        unfold sliceS at h
        split at h
        · rename_i l hh el eh
          split at h
          · rename_i hc
            simp only [Bool.and_eq_true, decide_eq_true_eq] at hc
            obtain ⟨⟨h0l, hlh⟩, hhs⟩ := hc
            injection h with h; subst h
            have hb : (Instr.sliceBounds false s.size s.size lo' hi' none).run P w = .ok (l.toNat, hh.toNat, s.size) w := by
              rcases hhi with ⟨rfl, rfl⟩ | ⟨v2, v2', rfl, rfl, hv2⟩
              · simp [optInt] at eh; subst eh
                rcases hlo with ⟨rfl, rfl⟩ | ⟨v3, v3', rfl, rfl, hv3⟩
                · simp [optInt] at el; subst el
                  simp [Instr.sliceBounds]
                · obtain ⟨k3, rfl⟩ := intOf_int hv3 (by simpa [optInt] using el)
                  simp [Instr.sliceBounds, run_sliceBound (P := P) (k := k3) (i := l) (y := s.size) h0l (by omega)]
              · obtain ⟨k2, rfl⟩ := intOf_int hv2 (by simpa [optInt] using eh)
                rcases hlo with ⟨rfl, rfl⟩ | ⟨v3, v3', rfl, rfl, hv3⟩
                · simp [optInt] at el; subst el
                  simp [Instr.sliceBounds, run_sliceBound (P := P) (k := k2) (i := hh) (y := s.size) (by omega) (by omega)]
                · obtain ⟨k3, rfl⟩ := intOf_int hv3 (by simpa [optInt] using el)
                  simp [Instr.sliceBounds, run_sliceBound (P := P) (k := k2) (i := hh) (y := s.size) (by omega) (by omega), run_sliceBound (P := P) (k := k3) (i := l) (y := hh.toNat) h0l (by omega)]
            have hex : s.extract l.toNat hh.toNat = ⟨((s.data.toList.drop l.toNat).take (hh.toNat - l.toNat)).toArray⟩ := by
              have := ByteArray.extract_mk s.data.toList l.toNat hh.toNat
              simpa using this
            refine ⟨_, ?_, .string _⟩
            rw [← hex]
            unfold Instr.sliceAt
            simp [Instr.slice, run_underlying hu, hb]
          · cases h
        · cases h
      · cases h
    · cases h
  · rename_i a n c
    cases hx with
    | @slice _ a' _ _ c' ha hn hr =>
      split at h
      · rename_i e hu
        split at h
        · rename_i i hinf
          split at h
          · cases h
          · rename_i hne
            split at h
            · rename_i l hh mm el eh em
              split at h
              · rename_i hc
                simp only [Bool.and_eq_true, decide_eq_true_eq] at hc
                obtain ⟨⟨⟨⟨h0l, hlh⟩, hhm⟩, hmn⟩, hmh⟩ := hc
                -- the real bounds
                have hbounds : ∃ M : Nat, (mm.toNat : Int) = mm ∧ (Instr.sliceBounds true n c' lo' hi' mx').run P w = .ok (l.toNat, hh.toNat, M) w ∧ hh.toNat ≤ M ∧ M ≤ c' := by
                  have hm0 : 0 ≤ mm := by omega
                  rcases hmx with ⟨rfl, rfl⟩ | ⟨v1, v1', rfl, rfl, hv1⟩
                  · simp [optInt] at em; subst em
                    refine ⟨c', by omega, ?_, by omega, Nat.le_refl _⟩
                    rcases hhi with ⟨rfl, rfl⟩ | ⟨v2, v2', rfl, rfl, hv2⟩
                    · simp [optInt] at eh; subst eh
                      rcases hlo with ⟨rfl, rfl⟩ | ⟨v3, v3', rfl, rfl, hv3⟩
                      · simp [optInt] at el; subst el
                        simp [Instr.sliceBounds]
                      · obtain ⟨k3, rfl⟩ := intOf_int hv3 (by simpa [optInt] using el)
                        simp [Instr.sliceBounds, run_sliceBound (P := P) (k := k3) (i := l) (y := n) h0l (by omega)]
                    · obtain ⟨k2, rfl⟩ := intOf_int hv2 (by simpa [optInt] using eh)
                      rcases hlo with ⟨rfl, rfl⟩ | ⟨v3, v3', rfl, rfl, hv3⟩
                      · simp [optInt] at el; subst el
                        simp [Instr.sliceBounds, run_sliceBound (P := P) (k := k2) (i := hh) (y := c') (by omega) (by omega)]
                      · obtain ⟨k3, rfl⟩ := intOf_int hv3 (by simpa [optInt] using el)
                        simp [Instr.sliceBounds, run_sliceBound (P := P) (k := k2) (i := hh) (y := c') (by omega) (by omega), run_sliceBound (P := P) (k := k3) (i := l) (y := hh.toNat) h0l (by omega)]
                  · obtain ⟨k1, rfl⟩ := intOf_int hv1 (by simpa [optInt] using em)
                    refine ⟨mm.toNat, by omega, ?_, by omega, by omega⟩
                    rcases hhi with ⟨rfl, rfl⟩ | ⟨v2, v2', rfl, rfl, hv2⟩
                    · simp at hmh
                    · obtain ⟨k2, rfl⟩ := intOf_int hv2 (by simpa [optInt] using eh)
                      rcases hlo with ⟨rfl, rfl⟩ | ⟨v3, v3', rfl, rfl, hv3⟩
                      · simp [optInt] at el; subst el
                        simp [Instr.sliceBounds, run_sliceBound (P := P) (k := k1) (i := mm) (y := c') hm0 (by omega), run_sliceBound (P := P) (k := k2) (i := hh) (y := mm.toNat) (by omega) (by omega)]
                      · obtain ⟨k3, rfl⟩ := intOf_int hv3 (by simpa [optInt] using el)
                        simp [Instr.sliceBounds, run_sliceBound (P := P) (k := k1) (i := mm) (y := c') hm0 (by omega), run_sliceBound (P := P) (k := k2) (i := hh) (y := mm.toNat) (by omega) (by omega), run_sliceBound (P := P) (k := k3) (i := l) (y := hh.toNat) h0l (by omega)]
                obtain ⟨M, _, hb, hM1, hM2⟩ := hbounds
                have hrun : (Instr.sliceAt t (.slice (some a') n c') lo' hi' mx').run P w = .ok (.slice (if M = l.toNat then some a' else some (a'.add (l.toNat * i.size))) (hh.toNat - l.toNat) (M - l.toNat)) w := by
                  unfold Instr.sliceAt
                  simp [Instr.slice, run_underlying hu, hb, run_size hinf]
                refine ⟨_, hrun, ?_⟩
                split at h
                · rename_i hl0
                  injection h with h; subst h
                  subst hl0
                  simp only [Int.toNat_zero, Nat.zero_mul, Nat.sub_zero]
                  have : (if M = 0 then some a' else some (a'.add 0)) = some a' := by split <;> simp [Addr.add]
                  rw [this]
                  exact .slice ha hM1 fun lc hlc ho hz => Nat.le_trans (Nat.mul_le_mul_right _ hM2) (hr lc hlc ho hz)
                · rename_i hl0
                  split at h
                  · rename_i hlh'
                    injection h with h; subst h
                    subst hlh'
                    rw [Nat.sub_self]
                    exact .loose _ _
                  · rename_i hlh'
                    injection h with h; subst h
                    rw [if_neg (by omega)]
                    refine .slice (tr_add ha _) (by omega) fun lc hlc ho hz => ?_
                    exfalso
                    have : 0 < l.toNat * i.size := Nat.mul_pos (by omega) (by omega)
                    simp at hz
                    omega
              · cases h
            · cases h
        · cases h
      · cases h
  · rename_i a
    cases hx with
    | @ptr _ a' ha =>
      split at h
      · rename_i n e k1 l k2 hh hu
        obtain ⟨_, rfl⟩ | ⟨_, _, e1, _, _⟩ := hmx
        · obtain ⟨e1, _⟩ | ⟨_, l', e1, rfl, vl⟩ := hlo
          · cases e1
          obtain ⟨e2, _⟩ | ⟨_, h', e2, rfl, vh⟩ := hhi
          · cases e2
          injection e1 with e1; subst e1; cases vl
          injection e2 with e2; subst e2; cases vh
          split at h
          · rename_i i hinf
            split at h
            · rename_i hc
              simp only [Bool.and_eq_true, decide_eq_true_eq] at hc
              obtain ⟨⟨⟨h0, hlh⟩, hhn⟩, hi0⟩ := hc
              injection h with h; subst h
              have hb : (Instr.sliceBounds false n n (some (.int k1 l)) (some (.int k2 hh)) none).run P w = .ok (l.toNat, hh.toNat, n) w := by
                simp [Instr.sliceBounds, run_sliceBound (P := P) (k := k2) (i := hh) (y := n) (by omega) (by omega), run_sliceBound (P := P) (k := k1) (i := l) (y := hh.toNat) (by omega) (by omega)]
              have hne : n ≠ l.toNat := by omega
              refine ⟨.slice (some (a'.add (l.toNat * i.size))) (hh.toNat - l.toNat) (n - l.toNat), ?_, ?_⟩
              · unfold Instr.sliceAt
                simp [Instr.sureAddr, run_underlying hu, hb, run_size hinf, hne]
              · refine .slice (tr_add ha _) (by omega) fun lc hlc ho hz => ?_
                exfalso
                have : 0 < l.toNat * i.size := Nat.mul_pos (by omega) hi0
                simp at hz
                omega
            · cases h
          · cases h
        · cases e1
      · cases h
  · cases h

theorem run_makeSlice' {t : TypeId} {H H' : AHeap} {m : Mp} {w : World} (hr : HR H m w) {l l' c c' : Value} (hl : VR m l l') (hc : VR m c c') {v : Value} (h : makeSliceV P H t l c = some (v, H')) :
    ∃ v' m' w', (Instr.makeSlice t l' c').run P w = .ok v' w' ∧ VR m' v v' ∧ HR H' m' w' ∧ Step H m w H' m' w' := by
  unfold makeSliceV at h
  split at h
  · rename_i e k1 n k2 mm hu
    cases hl
    cases hc
    split at h
    · rename_i i hinf
      split at h
      · rename_i z hz
        split at h
        · rename_i hcond
          simp only [Bool.and_eq_true, beq_iff_eq, decide_eq_true_eq] at hcond
          obtain ⟨⟨⟨⟨⟨⟨hcl, hzs⟩, hpos⟩, hby⟩, hn0⟩, hnm⟩, hm⟩ := hcond
          injection h with h
          simp only [Prod.mk.injEq] at h
          obtain ⟨rfl, rfl⟩ := h
          have hbytes : (i.bytes : Int) * mm ≤ 281474976710656 := by
            have h1 : (i.bytes : Int) * mm ≤ 1048576 * mm := Int.mul_le_mul_of_nonneg_right (by omega) (by omega)
            omega
          have hrun := run_make (P := P) w t e i z hu hinf hz k1 k2 n mm hn0 hnm hbytes (by omega)
          have hmade : madeCells z.cells (mm.toNat * i.size) = (repL z.cells.toList mm.toNat).toArray := by
            have := rep_eq z.cells (by omega) mm.toNat
            rw [hzs] at this
            unfold madeCells
            rw [hzs]
            exact this
          rw [hmade] at hrun
          have hzl : z.cells.toList.length = i.size := by simpa using hzs
          have hal := hr.alloc (repL z.cells.toList n.toNat).toArray (repL z.cells.toList mm.toNat).toArray e i.size (by
              simp only [List.size_toArray, repL_length]
              exact Nat.mul_le_mul_right _ (by omega)) (by
              intro j x hx
              have hj := lt_of_get hx
              simp only [List.size_toArray, repL_length, hzl] at hj
              have hj2 : j < mm.toNat * i.size := Nat.lt_of_lt_of_le hj (Nat.mul_le_mul_right _ (by omega))
              have g1 := repL_get z.cells.toList (by omega) n.toNat j (by rw [hzl]; exact hj)
              have g2 := repL_get z.cells.toList (by omega) mm.toNat j (by rw [hzl]; exact hj2)
              simp only [List.getElem?_toArray] at hx ⊢
              rw [g1] at hx
              rw [g2]
              exact (closN_cells (m := m) hcl).list.get hx)
          refine ⟨_, _, _, hrun, ?_, hal.1, hal.2⟩
          refine .slice (by unfold tr; rw [← hr.size, push_new]; rfl) (by omega) fun lc hlc ho hz0 => ?_
          rw [show (⟨H.size, 0, none⟩ : Addr).block = m.size from hr.size.symm, push_new] at hlc
          injection hlc with hlc
          subst hlc
          simp [repL_length, hzs]
        · cases h
      · cases h
    · cases h
  · cases h

/-! ### appending -/

theorem run_app_room {t ty e : TypeId} {i : TypeInfo} (hu : P.underlying t = some (.slice e)) (hi : P.info? e = some i) (g sLen sCap : Nat) (cur : Array Value) (elem : TypeId) (w : World) (hg : w.heap[g]? = some (.cells cur elem (0, 0)))
    (x : Value) (n : Nat) (news : List Value) (hlen : (Builtin.lenOf x).run P w = .ok n w) (hf : (Builtin.firstCells i.size n x).run P w = .ok news.toArray w) (h1 : ∀ u ∈ news, u.oneCell' = true)
    (hroom : sLen + n ≤ sCap) (hfit : sLen * i.size + news.length ≤ cur.size) :
    (Builtin.append_ #[t, t] ty #[.slice (some ⟨g, 0, none⟩) sLen sCap, x]).run P w =
      .ok (.slice (some ⟨g, 0, none⟩) (sLen + n) sCap) (w.setRow g (cur.toList.take (sLen * i.size) ++ news ++ cur.toList.drop (sLen * i.size + news.length)).toArray) := by
  have hst := run_storeCells_at P g (sLen * i.size) elem news 0 cur w hg (by simpa using hfit) h1
  simp only [Nat.add_zero] at hst
  simp [Builtin.append_, run_underlying hu, sizeOf, typeInfo, hi, hlen, hroom, hf, add_plain, hst]

theorem run_app_grow {t ty e : TypeId} {i : TypeInfo} {z : Value} (hu : P.underlying t = some (.slice e)) (hi : P.info? e = some i) (hz : i.zero = some z) (base : Option Addr) (sLen sCap : Nat) (w : World)
    (olds news : List Value) (x : Value) (n : Nat) (hlen : (Builtin.lenOf x).run P w = .ok n w)
    (ho : (Builtin.firstCells i.size sLen (.slice base sLen sCap)).run P w.drew = .ok olds.toArray w.drew)
    (hf : (Builtin.firstCells i.size n x).run P w.drew = .ok news.toArray w.drew)
    (hg : sCap < sLen + n) (h63 : ((sLen + n : Nat) : Int) ≤ 9223372036854775807) (hfit : Builtin.nextslicecap (sLen + n) sCap * i.bytes ≤ 281474976710656) :
    ∃ cap, sLen + n ≤ cap ∧ (Builtin.append_ #[t, t] ty #[.slice base sLen sCap, x]).run P w =
      .ok (.slice (some ⟨w.heap.size, 0, none⟩) (sLen + n) cap) (w.drew.alloc (.cells ((olds ++ news).toArray ++ Builtin.zeroCells z.cells (cap - (sLen + n))) e)) := by
  have hn : ¬ (sLen + n ≤ sCap) := by omega
  have h63' : ¬ (9223372036854775807 < ((sLen : Int) + (n : Int))) := by omega
  have h48' : ¬ (281474976710656 < Builtin.nextslicecap (sLen + n) sCap * i.bytes) := by omega
  refine ⟨grownCap w (sLen + n) sCap e, grownCap_ge w _ _ _, ?_⟩
  simp [Builtin.append_, run_underlying hu, sizeOf, typeInfo, zeroValue, hi, hz, hlen, hn, h63', h48', Question.forced, ho, hf, newRow, grownCap]
  congr 2
  apply Array.ext'
  simp [List.append_assoc]

end
end Go.Proofs.YtameamgamdaibaaDoor

/-!  The interpreter's operations are the model's, the last: appending, two operands, conversions; and each operation as a whole. -/
namespace Go.Proofs.YtameamgamdaibaaDoor
open Go
set_option linter.unusedVariables false

section
variable {P : Program}

theorem news_sound {H : AHeap} {m : Mp} {w : World} (hr : HR H m w) {x x' : Value} (hx : VR m x x') {size n : Nat} {cs : Array Value} (h : newsV H size x = some (n, cs)) :
    ∃ news : List Value, (Builtin.lenOf x').run P w = .ok n w ∧ (Builtin.firstCells size n x').run P w = .ok news.toArray w ∧ (Builtin.firstCells size n x').run P w.drew = .ok news.toArray w.drew ∧
      VRl m cs.toList news ∧ (∀ u ∈ news, u.oneCell' = true) ∧ news.length = n * size ∧ cs.size = n * size := by
  unfold newsV at h
  split at h
  · injection h with h
    simp only [Prod.mk.injEq] at h
    obtain ⟨rfl, rfl⟩ := h
    cases hx
    exact ⟨[], by simp [Builtin.lenOf], by simp [Builtin.firstCells], by simp [Builtin.firstCells], .nil, by simp, by simp, by simp⟩
  · rename_i a k c
    cases hx with
    | @slice _ a' _ _ c' ha hn hroom =>
      split at h
      · rename_i B hb
        split at h
        · rename_i hc
          simp only [Bool.and_eq_true, decide_eq_true_eq] at hc
          obtain ⟨hle, hone⟩ := hc
          injection h with h
          simp only [Prod.mk.injEq] at h
          obtain ⟨rfl, rfl⟩ := h
          obtain ⟨cs, hsz, hv, hcell⟩ := hr.load ha hb (k * size) hle
          rw [← cut_eq] at hv
          have hl : cs.toList.length = k * size := by simpa using hsz
          refine ⟨cs.toList, by simp [Builtin.lenOf], ?_, ?_, hv.list, ?_, hl, ?_⟩
          · have := run_firstCells_some (P := P) w size k a' k c' cs.toList hl hcell
            simpa [Builtin.firstCells] using this
          · have := run_firstCells_some (P := P) w.drew size k a' k c' cs.toList hl (by simpa using hcell)
            simpa [Builtin.firstCells] using this
          · intro u hu
            obtain ⟨j, hj, rfl⟩ := List.getElem_of_mem hu
            have hj' : j < (cut B.cells a.off (k * size)).toList.length := by rw [hv.list.length]; exact hj
            obtain ⟨y, hy1, hy2⟩ := hv.list.get (List.getElem?_eq_getElem hj')
            rw [List.getElem?_eq_getElem hj] at hy1
            injection hy1 with hy1
            rw [hy1]
            exact oneCell_of hy2 ((List.all_eq_true.1 hone) _ (List.getElem_mem hj'))
          · rw [hv.1]; exact hsz
        · cases h
      · cases h
  · cases h

theorem drewHR {H : AHeap} {m : Mp} {w : World} (h : HR H m w) : HR H m w.drew := h.drawn _
theorem drewStep (H : AHeap) (m : Mp) (w : World) : Step H m w H m w.drew := Step.drawn H m w _

theorem run_append' {t t2 ty : TypeId} {H H' : AHeap} {m : Mp} {w : World} (hr : HR H m w) {s s' x x' : Value} (hs : VR m s s') (hx : VR m x x') {v : Value} (h : appendV P H t t2 s x = some (v, H')) :
    ∃ v' m' w', (Builtin.append_ #[t, t2] ty #[s', x']).run P w = .ok v' w' ∧ VR m' v v' ∧ HR H' m' w' ∧ Step H m w H' m' w' := by
  unfold appendV at h
  split at h
  · rename_i e hu
    split at h
    · rename_i i hinf
      split at h
      · rename_i z hz
        split at h
        · rename_i hc
          simp only [Bool.and_eq_true, beq_iff_eq, decide_eq_true_eq] at hc
          obtain ⟨⟨⟨rfl, hpos⟩, hzs⟩, hby⟩ := hc
          split at h
          · rename_i n cs hnews
            obtain ⟨news, hlen, hf, hfd, hvl, hone, hnl, hcs⟩ := news_sound (P := P) hr hx hnews
            have hbound : ∀ k, k ≤ 16777216 → k * i.bytes ≤ 140737488355328 := fun k hk => Nat.le_trans (Nat.mul_le_mul hk hby) (by decide)
            split at h
            · cases hs
              split at h
              · rename_i hn0
                subst hn0
                injection h with h
                simp only [Prod.mk.injEq] at h
                obtain ⟨rfl, rfl⟩ := h
                refine ⟨.slice none 0 0, m, w, ?_, .nilslice, hr, .refl _ _ _⟩
                simp [Builtin.append_, run_underlying hu, sizeOf, typeInfo, hinf, hlen, hf]
              · rename_i hn0
                split at h
                · rename_i hle
                  injection h with h
                  simp only [Prod.mk.injEq] at h
                  obtain ⟨rfl, rfl⟩ := h
                  obtain ⟨cap, hcap, hrun⟩ := run_app_grow (P := P) (ty := ty) hu hinf hz none 0 0 w [] news x' n hlen (by simp [Builtin.firstCells]) hfd (by omega) (by omega) (growslice_fits (by omega) (by simpa using hbound n hle))
                  simp only [Nat.zero_add, List.nil_append] at hrun hcap
                  have hal := (drewHR hr).alloc cs (news.toArray ++ Builtin.zeroCells z.cells (cap - n)) e i.size (by simp [hcs, hnl]) (by
                    intro j u hu'
                    have hj := lt_of_get hu'
                    obtain ⟨y, hy, hvy⟩ := hvl.get (i := j) (x := u) (by simpa using hu')
                    have hjn : j < news.length := by rw [hnl, ← hcs]; exact hj
                    refine ⟨y, ?_, hvy⟩
                    rw [Array.getElem?_append_left (by simpa using hjn)]
                    simpa using hy)
                  refine ⟨_, _, _, hrun, ?_, hal.1, (drewStep H m w).trans hal.2⟩
                  refine .slice (by unfold tr; rw [← hr.size, push_new]; rfl) hcap fun lc hlc ho h0 => ?_
                  rw [show (⟨H.size, 0, none⟩ : Addr).block = m.size from hr.size.symm, push_new] at hlc
                  injection hlc with hlc
                  subst hlc
                  simp only [Array.size_append, List.size_toArray, hnl, size_zeroCells, hzs]
                  rw [← Nat.add_mul]
                  exact Nat.mul_le_mul_right _ (by omega)
                · cases h
            · rename_i a len c
              cases hs with
              | @slice _ a' _ _ c' ha hn hroom =>
                split at h
                · rename_i B hb
                  split at h
                  · rename_i hc
                    simp only [Bool.and_eq_true, beq_iff_eq, decide_eq_true_eq] at hc
                    obtain ⟨⟨⟨⟨⟨hown, helem⟩, hesz⟩, hoff⟩, hlenB⟩, hle⟩ := hc
                    injection h with h
                    simp only [Prod.mk.injEq] at h
                    obtain ⟨rfl, rfl⟩ := h
                    obtain ⟨l, cur, fr, hl, r, rfl⟩ := hr.at_ ha hb
                    obtain ⟨hfr, hbase, hle2, hlesz⟩ := r.mine hown
                    subst hfr
                    have hlo : l.own = true := r.own hown
                    have hrm := hroom l hl hlo hoff
                    have hcur := r.size
                    have hfit := r.fits
                    rw [hbase, hoff]
                    simp only [Nat.zero_add]
                    by_cases hfits : len + n ≤ c'
                    · have hmul : (len + n) * i.size ≤ cur.size := by
                        rw [hcur]
                        refine Nat.le_trans (Nat.mul_le_mul_right _ hfits) ?_
                        rw [hlesz, hesz] at hrm
                        exact hrm
                      have hspace : len * i.size + news.length ≤ cur.size := by rw [hnl, ← Nat.add_mul]; exact hmul
                      have hrun := run_app_room (P := P) (ty := ty) hu hinf l.blk len c' cur l.elem w r.real x' n news hlen hf hone hfits hspace
                      generalize hcs' : (cur.toList.take (len * i.size) ++ news ++ cur.toList.drop (len * i.size + news.length)).toArray = cs' at hrun
                      have hsz' : cs'.size = cur.size := by
                        rw [← hcs']
                        simp only [List.size_toArray, List.length_append, List.length_take, List.length_drop, Array.length_toList]
                        omega
                      have hg := hr.grow hb hown hl r (B.cells.toList ++ cs.toList).toArray cs' hsz' (by
                        simp only [List.size_toArray, List.length_append, Array.length_toList]
                        rw [hsz', hcs, ← hlenB, ← hnl]; exact hspace) (by
                        intro j u hj
                        simp only [List.getElem?_toArray] at hj
                        rw [← hcs']
                        simp only [List.getElem?_toArray]
                        have htl : (cur.toList.take (len * i.size)).length = len * i.size := by simp; omega
                        by_cases hjl : j < len * i.size
                        · rw [List.getElem?_append_left (by simp; omega)] at hj
                          obtain ⟨y, hy1, hy2⟩ := r.vals j u (by simpa using hj)
                          refine ⟨y, ?_, hy2⟩
                          rw [List.append_assoc, List.getElem?_append_left (by omega), List.getElem?_take_of_lt hjl]
                          simpa [hbase] using hy1
                        · rw [List.getElem?_append_right (by simp; omega)] at hj
                          simp only [Array.length_toList] at hj
                          obtain ⟨y, hy1, hy2⟩ := hvl.get hj
                          have hlt := (List.getElem?_eq_some_iff.1 hy1).1
                          refine ⟨y, ?_, hy2⟩
                          rw [List.append_assoc, List.getElem?_append_right (by omega), htl, List.getElem?_append_left (by omega)]
                          rw [← hlenB] at hy1
                          exact hy1)
                      refine ⟨_, _, _, hrun, ?_, hg.1, hg.2⟩
                      refine .slice (by unfold tr; rw [← hr.size, push_new]; simp [hbase, r.live]) hfits fun lc hlc ho h0 => ?_
                      rw [show (⟨H.size, 0, none⟩ : Addr).block = m.size from hr.size.symm, push_new] at hlc
                      injection hlc with hlc
                      subst hlc
                      exact hrm
                    · obtain ⟨olds, hosz, hov, hoc⟩ := hr.load ha hb B.cells.size (by omega)
                      rw [hbase, hoff] at hoc
                      simp only [Nat.add_zero] at hoc
                      have hol : olds.toList.length = len * i.size := by simp [hosz, hlenB]
                      have hofc := run_firstCells_some (P := P) w.drew i.size len ⟨l.blk, 0, none⟩ len c' olds.toList hol (by simpa using hoc)
                      obtain ⟨cap, hcap, hrun⟩ := run_app_grow (P := P) (ty := ty) hu hinf hz (some ⟨l.blk, 0, none⟩) len c' w olds.toList news x' n hlen hofc hfd (by omega) (by omega) (growslice_fits (by omega) (hbound _ hle))
                      have hk := hr.kill a.block
                      have hkd := drewHR hk.1
                      have hal := hkd.alloc (B.cells.toList ++ cs.toList).toArray ((olds.toList ++ news).toArray ++ Builtin.zeroCells z.cells (cap - (len + n))) e i.size (by
                        simp [hcs, hnl, hosz]) (by
                        intro j u hj
                        simp only [List.getElem?_toArray] at hj
                        have hov' : VRl m B.cells.toList olds.toList := by
                          have := hov.list
                          rw [hoff] at this
                          simpa using this
                        obtain ⟨y, hy1, hy2⟩ := (hov'.append hvl).get hj
                        have hlt := (List.getElem?_eq_some_iff.1 hy1).1
                        refine ⟨y, ?_, hy2⟩
                        rw [Array.getElem?_append_left (by simpa using hlt)]
                        simpa using hy1)
                      have hB : ({ B with cells := (B.cells.toList ++ cs.toList).toArray } : ABlk) = ⟨(B.cells.toList ++ cs.toList).toArray, e, i.size, true⟩ := by
                        cases B
                        simp only at hown helem hesz
                        simp [hown, helem, hesz]
                      rw [hB]
                      refine ⟨_, _, _, hrun, ?_, hal.1, (hk.2.trans (drewStep _ m w)).trans hal.2⟩
                      refine .slice (by unfold tr; rw [← hr.size, push_new]; rfl) hcap fun lc hlc ho h0 => ?_
                      rw [show (⟨H.size, 0, none⟩ : Addr).block = m.size from hr.size.symm, push_new] at hlc
                      injection hlc with hlc
                      subst hlc
                      simp only [Array.size_append, List.size_toArray, List.length_append, hol, hnl, size_zeroCells, hzs]
                      rw [← Nat.add_mul, ← Nat.add_mul]
                      exact Nat.mul_le_mul_right _ (by omega)
                  · cases h
                · cases h
            · cases h
          · cases h
        · cases h
      · cases h
    · cases h
  · cases h

end
end Go.Proofs.YtameamgamdaibaaDoor

/-!  One operation of the interpreter is the model's: whatever it gives here, the model's run gives there. -/
namespace Go.Proofs.YtameamgamdaibaaDoor
open Go
set_option linter.unusedVariables false

/-- A CONTRACT: called with values that stand to these, in a memory that stands to this one, the function returns what stands to 'v', and leaves what stands to 'H''; nothing else that was there has changed. -/
def Runs (P : Program) (f : FuncId) (args : Array Value) (H : AHeap) (v : Value) (H' : AHeap) : Prop :=
  ∀ (m : Mp) (w : World) (args' : Array Value), HR H m w → VRs m args args' →
    (∀ w : World, (callFunc f args').run P w = .ok (.enter f args') w) ∧
    Calls P f args' w fun e w' => ∃ v' m', e = .returned v' ∧ VR m' v v' ∧ HR H' m' w' ∧ Step H m w H' m' w'

structure OrcOK (P : Program) (O : Orc) : Prop where
  call : ∀ f args H v H', O.call f args H = some (v, H') → Runs P f args H v H'
  row : ∀ f args v, O.row f args = some v → ∀ (m : Mp) (args' : Array Value), VRs m args args' → ∀ w : World, ∃ v', (callFunc f args').run P w = .ok (.value v') w ∧ VR m v v'
  bin : ∀ op t a b v, O.bin op t a b = some v → ∀ (m : Mp) (a' b' : Value), VR m a a' → VR m b b' → ∀ (x y : Operand) (w : World),
    ∃ v', (do eqGuard op t x y a' b'; binOp op t a' b').run P w = .ok v' w ∧ VR m v v'

structure BaseOK (P : Program) (O : Orc) : Prop where
  row : ∀ f args v, O.row f args = some v → ∀ (m : Mp) (args' : Array Value), VRs m args args' → ∀ w : World, ∃ v', (callFunc f args').run P w = .ok (.value v') w ∧ VR m v v'
  bin : ∀ op t a b v, O.bin op t a b = some v → ∀ (m : Mp) (a' b' : Value), VR m a a' → VR m b b' → ∀ (x y : Operand) (w : World),
    ∃ v', (do eqGuard op t x y a' b'; binOp op t a' b').run P w = .ok v' w ∧ VR m v v'
theorem BaseOK.none {P : Program} {O : Orc} (h : BaseOK P O) : OrcOK P (noCall O) := ⟨(fun _ _ _ _ _ hh => by cases hh), h.row, h.bin⟩
theorem OrcOK.base {P : Program} {O : Orc} (h : OrcOK P O) : BaseOK P O := ⟨h.row, h.bin⟩

theorem HR.empty (w : World) (hl : Lay w) : HR #[] #[] w :=
  ⟨⟨rfl, fun _ _ h => by simp at h, fun _ _ h => by simp at h, fun _ _ _ _ _ _ h => by simp at h⟩, hl, by rintro g hg ⟨b, B, l, hb, _⟩; simp at hb⟩

theorem HR.same {H : AHeap} {m : Mp} {w w' : World} (h : HR H m w) (hs : w.heap.size ≤ w'.heap.size) (hk : ∀ g, g < w.heap.size → w'.heap[g]? = w.heap[g]?) : HR H m w' :=
  ⟨⟨h.size, fun b l hl hv => Nat.lt_of_lt_of_le (h.old b l hl hv) hs,
   fun b B hb => let ⟨l, cs, fr, hl, r⟩ := h.blk b B hb; ⟨l, cs, fr, hl, r.mono (.refl m) (hk _ (h.old b l hl r.live))⟩, h.inj⟩, h.lay.same hs fun g hg => hk g (h.lay.lt hg), h.far⟩

theorem closA_any {m m2 : Mp} {xs ys : Array Value} (h : closA xs = true) (hv : VRs m xs ys) : VRs m2 xs ys :=
  ⟨hv.1, fun i h1 h2 => (hv.2 i h1 h2).clos_any 4 _ _ ((List.all_eq_true.1 h) _ (by simp))⟩

/-- A quiet function leaves memory as it is. -/
theorem Runs.quiet {P : Program} {f : FuncId} {args : Array Value} {v : Value} {H2 : AHeap} (h : Runs P f args #[] v H2) (ha : closA args = true) (hv : closN 4 v = true) (H : AHeap) : Runs P f args H v H := by
  intro m w args' hr hargs
  obtain ⟨h1, h2⟩ := h #[] w args' (.empty w hr.lay) (closA_any ha hargs)
  refine ⟨h1, h2.mono ?_⟩
  rintro e w' ⟨v', m', he, hvr, hr', hst⟩
  have hk : ∀ g, g < w.heap.size → w'.heap[g]? = w.heap[g]? := fun g hg => hst.keep g hg (by rintro ⟨b, B, l, hb, _⟩; simp at hb)
  exact ⟨v', m, he, hvr.clos_any 4 _ _ hv, hr.same hst.size hk, ⟨.refl m, hst.os, hst.tape, hst.output, hst.size, fun g hg _ => hk g hg, fun g hg => .inl hg⟩⟩

/-- A function that reads alone. -/
theorem Runs.reads {P : Program} {f : FuncId} {args : Array Value} {v : Value} {H H2 : AHeap} (h : Runs P f args (froze H) v H2) (hv : closN 4 v = true) : Runs P f args H v H := by
  intro m w args' hr hargs
  obtain ⟨h1, h2⟩ := h m w args' hr.froze hargs
  refine ⟨h1, h2.mono ?_⟩
  rintro e w' ⟨v', m', he, hvr, hr', hst⟩
  have hk : ∀ g, g < w.heap.size → w'.heap[g]? = w.heap[g]? := fun g hg => hst.keep g hg FP_froze
  exact ⟨v', m, he, hvr.clos_any 4 _ _ hv, hr.same hst.size hk, ⟨.refl m, hst.os, hst.tape, hst.output, hst.size, fun g hg _ => hk g hg, fun g hg => .inl hg⟩⟩

/-- A function that makes new memory, and writes none that was there. -/
theorem Runs.makes {P : Program} {f : FuncId} {args : Array Value} {v : Value} {H H1 : AHeap} (h : Runs P f args (froze H) v H1) (hs : H.size ≤ H1.size) (ho : (H1.toList.drop H.size).all isOwn = true) : Runs P f args H v (thaw H H1) := by
  intro m w args' hr hargs
  obtain ⟨h1, h2⟩ := h m w args' hr.froze hargs
  refine ⟨h1, h2.mono ?_⟩
  rintro e w' ⟨v', m', he, hvr, hr', hst⟩
  obtain ⟨g1, g2⟩ := hr.thaw hr' hst hs ho
  exact ⟨v', m', he, hvr, g1, g2⟩

section
variable {P : Program}

theorem eqGuard_float (op : BinOp) (t : TypeId) (x y : Operand) (k : FloatKind) (n : Nat) (b : Value) : eqGuard op t x y (.float k n) b = pure () := by cases op <;> rfl
theorem eqGuard_int (op : BinOp) (t : TypeId) (x y : Operand) (k : IntKind) (n : Int) (b : Value) : eqGuard op t x y (.int k n) b = pure () := by cases op <;> rfl

theorem run_binV {O : Orc} (hO : OrcOK P O) {op : BinOp} {t : TypeId} {x y : Operand} {m : Mp} {a b a' b' : Value} (ha : VR m a a') (hb : VR m b b') {v : Value} (h : binV P O op t x y a b = some v) (w : World) :
    ∃ v' n, (do eqGuard op t x y a' b'; binOp op t a' b').run P w = .ok v' { w with drawn := n } ∧ VR m v v' := by
  unfold binV at h
  split at h
  · rename_i k u k' u2
    cases ha with
    | @float _ _ u' hu =>
      cases hb with
      | @float _ _ u2' hu2 =>
        rw [eqGuard_float]
        split at h
        · rename_i hk
          subst hk
          split at h
          · rename_i har
            injection h with h; subst h
            have hop : op = .add ∨ op = .sub ∨ op = .mul ∨ op = .quo := by cases op <;> simp [isArith] at har <;> simp
            obtain ⟨r, n, h1, h2⟩ := run_floatArith (P := P) op t k u u' u2 u2' hop hu hu2 w
            exact ⟨.float k r, n, by simpa using h1, .float k h2⟩
          · simp only [Option.map_eq_some_iff] at h
            obtain ⟨c, hc, rfl⟩ := h
            refine ⟨.bool c, w.drawn, ?_, .bool c⟩
            have ho := order_alike (k := k) hu hu2
            unfold fcmp at hc
            cases op <;> simp only at hc <;> first
              | (cases hc; done)
              | (injection hc with hc; subst hc; simp [binOp, Op.floatCmp, ho]; done)
        · cases h
  · rename_i k i k' j
    cases ha
    cases hb
    rw [eqGuard_int]
    have hp := pureV_sound h m
    exact ⟨v, w.drawn, by simpa using hp.1 w, hp.2⟩
  · split at h
    · rename_i u hob
      injection h with h; subst h
      obtain ⟨v', h1, h2⟩ := hO.bin op t _ _ u hob m a' b' ha hb x y w
      exact ⟨v', w.drawn, h1, h2⟩
    · split at h
      · rename_i hc
        simp only [Bool.and_eq_true] at hc
        have e1 := ha.exact 3 _ _ hc.1
        have e2 := hb.exact 3 _ _ hc.2
        subst e1 e2
        have hp := pureV_sound h m
        exact ⟨v, w.drawn, hp.1 w, hp.2⟩
      · cases h

theorem run_convV {s d : TypeId} {m : Mp} {x x' : Value} (hx : VR m x x') {v : Value} (h : convV P s d x = some v) (w : World) :
    ∃ v', (convert s d x').run P w = .ok v' w ∧ VR m v v' := by
  unfold convV at h
  split at h
  · rename_i k b
    cases hx with
    | @float _ _ b' hb =>
      split at h
      · rename_i q q' hs hd
        split at h
        · rename_i hk
          subst hk
          injection h with h; subst h
          refine ⟨.float k b', ?_, .float k hb⟩
          simp [convert, run_underlying hs, run_underlying hd, Conv.floatToFloat]
        · cases h
      · split at h
        · cases h
        · rename_i hnan
          have : b = b' := by
            rcases hb with rfl | ⟨h1, _⟩
            · rfl
            · exact absurd h1 hnan
          subst this
          have hp := pureV_sound h m
          exact ⟨v, hp.1 w, hp.2⟩
  · split at h
    · rename_i hc
      have e := hx.exact 3 _ _ hc
      subst e
      have hp := pureV_sound h m
      exact ⟨v, hp.1 w, hp.2⟩
    · cases h

theorem run_bytesV {s d : TypeId} {H H' : AHeap} {m : Mp} {w : World} (hr : HR H m w) {x x' : Value} (hx : VR m x x') {v : Value} (h : bytesV P H s d x = some (v, H')) :
    ∃ v' m' w', (convert s d x').run P w = .ok v' w' ∧ VR m' v v' ∧ HR H' m' w' ∧ Step H m w H' m' w' := by
  unfold bytesV at h
  split at h
  · rename_i b
    cases hx
    split at h
    · rename_i u e hs hd
      split at h
      · rename_i he
        injection h with h
        simp only [Prod.mk.injEq] at h
        obtain ⟨rfl, rfl⟩ := h
        have hal := hr.pair (hr.toHR0.allocW (w' := Go.Lib.bytesWorld w e b) (b.data.toList.map fun c => Value.int .u8 c.toNat).toArray (Go.Lib.bytesCells w e b) e 1 _ (by
            simp [Go.Lib.bytesCells]) (by
            intro i v hi
            refine ⟨v, ?_, ?_⟩
            · unfold Go.Lib.bytesCells
              have hi2 := lt_of_get hi
              rw [Array.getElem?_append_left (by simpa using hi2)]
              simpa using hi
            · simp only [List.getElem?_toArray, List.getElem?_map, Option.map_eq_some_iff] at hi
              obtain ⟨c, _, rfl⟩ := hi
              exact .int _ _) rfl rfl rfl (Go.Lib.bytesWorld_size w e b) (fun j hj => Go.Lib.bytesWorld_at_old w e b j hj) (Go.Lib.bytesWorld_at_new w e b))
        refine ⟨_, _, _, Go.Lib.run_convert_string_bytes w s d e b hs hd he, ?_, hal.1, hal.2⟩
        refine .slice (by unfold tr; rw [← hr.size, push_new]; rfl) (grownCap_ge w b.size 0 e) fun lc hlc ho hz => ?_
        rw [show (⟨H.size, 0, none⟩ : Addr).block = m.size from hr.size.symm, push_new] at hlc
        injection hlc with hlc
        subst hlc
        cases ho
      · cases h
    · cases h
  · cases h

theorem intsL_map : ∀ {l : List Value} {ns : List Int}, intsL l = some ns → l = ns.map (Value.int .u8)
  | [], ns, h => by simp [intsL] at h; subst h; rfl
  | .int .u8 n :: l, ns, h => by
    simp only [intsL, Option.map_eq_some_iff] at h
    obtain ⟨ms, h1, rfl⟩ := h
    rw [intsL_map h1]; rfl
theorem VRl.ints {m : Mp} : ∀ {ns : List Int} {l : List Value}, VRl m (ns.map (Value.int .u8)) l → l = ns.map (Value.int .u8)
  | [], l, h => by cases h; rfl
  | n :: ns, l, h => by
    cases h with
    | cons h1 h2 => cases h1; rw [VRl.ints h2]; rfl
theorem run_strV {s d : TypeId} {H : AHeap} {m : Mp} {w : World} (hr : HR H m w) {x x' : Value} (hx : VR m x x') {v : Value} (h : strV P H s d x = some v) :
    ∃ v', (convert s d x').run P w = .ok v' w ∧ VR m v v' := by
  unfold strV at h
  split at h
  · rename_i a n c
    cases hx with
    | @slice _ a' _ _ c' ha hn hrr =>
      split at h
      · rename_i e hs hd
        split at h
        · rename_i B he hb
          split at h
          · rename_i hc
            simp only [Option.map_eq_some_iff] at h
            obtain ⟨ns, h1, rfl⟩ := h
            obtain ⟨cs, hcs, hvr, hld⟩ := hr.load ha hb n hc
            have e1 := intsL_map h1
            rw [cut_eq] at e1
            have e2 := hvr.list
            rw [e1] at e2
            have e3 := e2.ints
            refine ⟨_, ?_, .string _⟩
            rw [run_convert_bytes_string w s d e _ _ _ hs he hd]
            refine run_bytesToString w a' n c' ns ?_
            have hl := run_loadCells_list (P := P) w a' cs.toList hld
            have hcl : cs.toList.length = n := by simpa using hcs
            rw [hcl] at hl
            rw [← e3]
            exact hl
          · cases h
        · cases h
      · cases h
  · cases h

theorem getT_get : ∀ (tm : List Value) (t : Nat), getT tm t = tm[t]?.getD undef
  | [], _ => rfl
  | _ :: _, 0 => rfl
  | _ :: l, t + 1 => by simp [getT, getT_get l t]

theorem VR.undef (m : Mp) : VR m Go.undef Go.undef := .tuple rfl fun i h _ => by simp at h

theorem evalT_rel {m : Mp} {tm : List Value} {a : Act} (h : VRl m tm a.tmps.toList) {x : Operand} (hx : operandOk x = true) : VR m (evalT tm x) (a.eval x) := by
  cases x with
  | tmp t =>
    simp only [evalT, Act.eval, getT_get]
    rw [Array.getD_eq_getD_getElem?]
    cases hg : tm[t]? with
    | none =>
      have hl : tm.length ≤ t := by
        rcases Nat.lt_or_ge t tm.length with hlt | hge
        · rw [List.getElem?_eq_getElem hlt] at hg; cases hg
        · exact hge
      rw [h.length] at hl
      rw [Array.getElem?_eq_none (by simpa using hl)]
      exact .undef m
    | some v =>
      obtain ⟨v', h1, h2⟩ := h.get hg
      simp at h1
      rw [h1]
      exact h2
  | const v => exact .of_clos m 4 v hx
  | global g => exact .any _
  | func f => exact .func _ rfl (fun i h _ => by simp at h) rfl (fun i h _ => by simp at h)

end
end Go.Proofs.YtameamgamdaibaaDoor
