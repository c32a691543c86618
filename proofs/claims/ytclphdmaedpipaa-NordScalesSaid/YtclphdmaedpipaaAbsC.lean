/- The interpreter over abstract values and heaps: one operation, a region, a piece of code, a function. -/
import Derived.Test.YtclphdmaedpipaaAbsB
namespace Go.Proofs.Ytclphdmaedpipaa
open Go
set_option linter.unusedVariables false

/-- A program of the model's that touches no memory, run. -/
def pureRun {α : Type} (P : Program) : Sem α → Option α
  | .pure a => some a
  | .program k => pureRun P (k P)
  | .mark _ k => pureRun P k
  | _ => none

theorem pureRun_sound {α : Type} {P : Program} : ∀ (s : Sem α) (a : α), pureRun P s = some a → ∀ w, s.run P w = .ok a w
  | .pure b, a, h, w => by simp only [pureRun] at h; injection h with h; rw [h]; rfl
  | .program k, a, h, w => by simp only [pureRun] at h; simp only [Sem.run]; exact pureRun_sound (k P) a h w
  | .mark _ k, a, h, w => by simp only [pureRun] at h; simp only [Sem.run]; exact pureRun_sound k a h w
  | .load .., a, h, w | .store .., a, h, w | .new .., a, h, w | .shape .., a, h, w | .freeze .., a, h, w | .frozen .., a, h, w | .getObj .., a, h, w | .setObj .., a, h, w
  | .choose .., a, h, w | .sys .., a, h, w | .halt .., a, h, w => by cases h

/-- The same, of a value without places. -/
def pureV (P : Program) (s : Sem Value) : Option Value :=
  match pureRun P s with
  | some v => if closN 4 v then some v else none
  | none => none

theorem pureV_sound {P : Program} {s : Sem Value} {v : Value} (h : pureV P s = some v) (m : Mp) : (∀ w, s.run P w = .ok v w) ∧ VR m v v := by
  unfold pureV at h
  split at h
  · rename_i u hu
    split at h
    · rename_i hc
      injection h with h; subst h
      exact ⟨pureRun_sound _ _ hu, .of_clos m 4 _ hc⟩
    · cases h
  · cases h

/-- What is known ahead: calls, the model's own rows, operations on two values. -/
structure Orc where
  call : FuncId → Array Value → AHeap → Option (Value × AHeap)
  row : FuncId → Array Value → Option Value
  bin : BinOp → TypeId → Value → Value → Option Value

def cut (cs : Array Value) (off n : Nat) : Array Value := ((cs.toList.drop off).take n).toArray

def readVar (P : Program) (H : AHeap) (t : TypeId) (a : Addr) : Option Value :=
  match H[a.block]? with
  | some (some B) =>
    match P.underlying t with
    | some (.struct _) | some (.array _ _) =>
      match P.info? t with
      | some i => if a.off + i.size ≤ B.cells.size then some (.agg (cut B.cells a.off i.size)) else none
      | none => none
    | some _ => B.cells[a.off]?
    | none => none
  | _ => none

def putL (cells : Array Value) : Nat → List Value → Array Value
  | _, [] => cells
  | off, v :: vs => putL (cells.setIfInBounds off v) (off + 1) vs

def writeVar (P : Program) (H : AHeap) (t : TypeId) (a : Addr) (v : Value) : Option AHeap :=
  match H[a.block]?, P.info? t with
  | some (some B), some i =>
    if B.own && (v.cells.size == i.size) && decide (a.off + i.size ≤ B.cells.size) && v.cells.toList.all Value.oneCell' then
      some (H.setIfInBounds a.block (some { B with cells := putL B.cells a.off v.cells.toList }))
    else none
  | _, _ => none

/-- Parts laid over cells, each at its place. -/
def fillL (place : Nat → Option (Nat × Nat)) : Array Value → List (Nat × Value) → Option (Array Value)
  | cells, [] => some cells
  | cells, (i, v) :: rest =>
    match place i with
    | none => none
    | some (off, size) =>
      if (v.cells.size == size) && decide (off + size ≤ cells.size) then fillL place (putL cells off v.cells.toList) rest else none

def fieldPlaceL (P : Program) (fs : Array Field) (i : Nat) : Option (Nat × Nat) :=
  match fs[i]? with
  | some f => match P.info? f.type with
    | some inf => some (f.offset, inf.size)
    | none => none
  | none => none

def repL (z : List Value) : Nat → List Value
  | 0 => []
  | n + 1 => z ++ repL z n

def buildV (P : Program) (t : TypeId) (parts : List (Nat × Value)) : Option Value :=
  match P.info? t with
  | some i => match i.zero with
    | some z =>
      if closN 4 z then
        match P.underlying t with
        | some (.struct fs) => if fs.toList.all (fun f => (P.info? f.type).isSome) then (fillL (fieldPlaceL P fs) z.cells parts).map .agg else none
        | some (.array _ e) => match P.info? e with
          | some inf => (fillL (fun j => some (j * inf.size, inf.size)) z.cells parts).map .agg
          | none => none
        | _ => none
      else none
    | none => none
  | none => none

def sliceCells (P : Program) (t : TypeId) (len : Nat) (parts : List (Nat × Value)) : Option (TypeId × TypeInfo × Array Value) :=
  match P.underlying t with
  | some (.slice e) => match P.info? e with
    | some i => match i.zero with
      | some z =>
        if closN 4 z && decide (len * i.size ≤ 16777216) && decide (0 < i.size) && (z.cells.size == i.size) then
          match fillL (fun j => some (j * i.size, i.size)) (repL z.cells.toList len).toArray parts with
          | some cells => some (e, i, cells)
          | none => none
        else none
      | none => none
    | none => none
  | _ => none

def fcmp (op : BinOp) (k : FloatKind) (x y : Nat) : Option Bool :=
  let c := k.format.order x y
  match op with
  | .eql => some (c == some .eq)
  | .neq => some (c != some .eq)
  | .lss => some (c == some .lt)
  | .leq => some (c == some .lt || c == some .eq)
  | .gtr => some (c == some .gt)
  | .geq => some (c == some .gt || c == some .eq)
  | _ => none

def isArith : BinOp → Bool
  | .add | .sub | .mul | .quo => true
  | _ => false

def binV (P : Program) (O : Orc) (op : BinOp) (t : TypeId) (x y : Operand) (a b : Value) : Option Value :=
  match a, b with
  | .float k u, .float k' v =>
    if k = k' then
      if isArith op then some (.float k (fop op k u v)) else (fcmp op k u v).map .bool
    else none
  | .int k m, .int k' n => pureV P (binOp op t (.int k m) (.int k' n))
  | a, b => match O.bin op t a b with
    | some v => some v
    | none => if exactN 3 a && exactN 3 b then pureV P (do eqGuard op t x y a b; binOp op t a b) else none

def convV (P : Program) (s d : TypeId) (v : Value) : Option Value :=
  match v with
  | .float k b =>
    match P.underlying s, P.underlying d with
    | some (.float _), some (.float k') => if k = k' then some (.float k b) else none
    | _, _ => if isNan k b then none else pureV P (convert s d (.float k b))
  | v => if exactN 3 v then pureV P (convert s d v) else none

def intOf? : Value → Option Int
  | .int _ n => some n
  | _ => none

def optInt (x : Option Value) (d : Int) : Option Int :=
  match x with
  | some v => intOf? v
  | none => some d

def newsV (H : AHeap) (size : Nat) (x : Value) : Option (Nat × Array Value) :=
  match x with
  | .slice none 0 0 => some (0, #[])
  | .slice (some a) n _ => match H[a.block]? with
    | some (some B) => if decide (a.off + n * size ≤ B.cells.size) && (cut B.cells a.off (n * size)).toList.all Value.oneCell' then some (n, cut B.cells a.off (n * size)) else none
    | _ => none
  | _ => none

def appendV (P : Program) (H : AHeap) (t t2 : TypeId) (s x : Value) : Option (Value × AHeap) :=
  match P.underlying t with
  | some (.slice e) => match P.info? e with
    | some i => match i.zero with
      | some z =>
        if t2 == t && decide (0 < i.size) && (z.cells.size == i.size) && decide (i.bytes ≤ 1048576) then
          match newsV H i.size x with
          | some (n, cs) =>
            match s with
            | .slice none 0 0 =>
              if n = 0 then some (.slice none 0 0, H)
              else if n ≤ 16777216 then some (.slice (some ⟨H.size, 0, none⟩) n n, H.push (some ⟨cs, e, i.size, true⟩)) else none
            | .slice (some a) len _ => match H[a.block]? with
              | some (some B) =>
                if B.own && (B.elem == e) && (B.esz == i.size) && (a.off == 0) && (len * i.size == B.cells.size) && decide (len + n ≤ 16777216) then
                  some (.slice (some ⟨H.size, 0, none⟩) (len + n) (len + n), (H.setIfInBounds a.block none).push (some { B with cells := (B.cells.toList ++ cs.toList).toArray }))
                else none
              | _ => none
            | _ => none
          | none => none
        else none
      | none => none
    | none => none
  | _ => none

def sliceV (P : Program) (t : TypeId) (x : Value) (lo hi mx : Option Value) : Option Value :=
  match x with
  | .string s => if mx.isNone && lo.all (exactN 1) && hi.all (exactN 1) then pureV P (Instr.sliceAt t (.string s) lo hi none) else none
  | .slice (some a) n _ =>
    match P.underlying t with
    | some (.slice e) => match P.info? e with
      | some i =>
        if i.size = 0 then none else
        match optInt lo 0, optInt hi n, optInt mx n with
        | some l, some h, some m =>
          if 0 ≤ l && l ≤ h && h ≤ m && m ≤ n && (mx.isNone || hi.isSome) then
            if l = 0 then some (.slice (some a) h.toNat h.toNat)
            else if l = h then some (.slice none 0 1)
            else some (.slice (some ⟨a.block, a.off + l.toNat * i.size, none⟩) (h.toNat - l.toNat) (h.toNat - l.toNat))
          else none
        | _, _, _ => none
      | none => none
    | _ => none
  | _ => none

/-- From 0 to one less than a number: told by the number's successors, so that it may hold a variable. -/
def ltI (j : Int) (n : Nat) : Bool :=
  match j with
  | .ofNat a => Nat.ble (a + 1) n
  | .negSucc _ => false

theorem ltI_iff {j : Int} {n : Nat} (h : ltI j n = true) : 0 ≤ j ∧ j < n := by
  unfold ltI at h
  split at h
  · rename_i a
    have := Nat.le_of_ble_eq_true h
    simp only [Int.ofNat_eq_natCast]
    omega
  · cases h

def indexAddrV (P : Program) (t : TypeId) (x i : Value) : Option Value :=
  match i with
  | .int _ j =>
    match P.underlying t, x with
    | some (.slice e), .slice (some a) n _ =>
      match P.info? e with
      | some inf => if ltI j n then some (.pointer (some ⟨a.block, a.off + j.toNat * inf.size, none⟩)) else none
      | none => none
    | some (.array n e), .pointer (some a) =>
      match P.info? e with
      | some inf => if ltI j n then some (.pointer (some ⟨a.block, a.off + j.toNat * inf.size, none⟩)) else none
      | none => none
    | _, _ => none
  | _ => none

def fieldAddrV (P : Program) (t : TypeId) (x : Value) (f : Nat) : Option Value :=
  match P.underlying t, x with
  | some (.struct fs), .pointer (some a) =>
    match fs[f]? with
    | some fd => match P.info? fd.type with
      | some inf => if inf.size = 0 then none else some (.pointer (some ⟨a.block, a.off + fd.offset, none⟩))
      | none => none
    | none => none
  | _, _ => none

def partV (P : Program) (t : TypeId) (cs : Array Value) (off : Nat) : Option Value :=
  match P.underlying t with
  | some (.struct _) | some (.array _ _) =>
    match P.info? t with
    | some i => if off + i.size ≤ cs.size then some (.agg (cut cs off i.size)) else none
    | none => none
  | some _ => cs[off]?
  | none => none

def fieldV (P : Program) (t : TypeId) (x : Value) (f : Nat) : Option Value :=
  match P.underlying t, x with
  | some (.struct fs), .agg cs => match fs[f]? with
    | some fd => partV P fd.type cs fd.offset
    | none => none
  | _, _ => none

def indexV (P : Program) (t : TypeId) (x i : Value) : Option Value :=
  match x, i with
  | .string s, .int k j => pureV P (Instr.index t (.string s) (.int k j))
  | .agg cs, .int _ j =>
    match P.underlying t with
    | some (.array n e) => match P.info? e with
      | some inf => if 0 ≤ j && j < n then partV P e cs (j.toNat * inf.size) else none
      | none => none
    | _ => none
  | _, _ => none

def lenV (P : Program) (t : TypeId) (x : Value) : Option Value :=
  match P.underlying t, x with
  | some .string, .string s => some (.int .i64 s.size)
  | some (.slice _), .slice _ n _ => some (.int .i64 n)
  | some (.array n _), _ => some (.int .i64 n)
  | _, _ => none

def makeSliceV (P : Program) (H : AHeap) (t : TypeId) (l c : Value) : Option (Value × AHeap) :=
  match P.underlying t, l, c with
  | some (.slice e), .int _ n, .int _ m =>
    match P.info? e with
    | some i => match i.zero with
      | some z =>
        if closN 4 z && (z.cells.size == i.size) && decide (0 < i.size) && decide (i.bytes ≤ 1048576) && decide (0 ≤ n) && decide (n ≤ m) && decide (m ≤ 16777216) then
          some (.slice (some ⟨H.size, 0, none⟩) n.toNat n.toNat, H.push (some ⟨(repL z.cells.toList n.toNat).toArray, e, i.size, true⟩))
        else none
      | none => none
    | none => none
  | _, _, _ => none

def closA (xs : Array Value) : Bool := xs.toList.all (closN 4)

/-- A call of a function: one without a body by the model's own row; a pure one (mode 1) in no memory at all; one that only reads (3), or makes new memory (2), in a memory that is not to be written. -/
def callV (O : Orc) (q : FuncId → Nat) (g : FuncId) (args : Array Value) (H : AHeap) : Option (Value × AHeap) :=
  match O.row g args with
  | some v => some (v, H)
  | none =>
    match q g with
    | 1 =>
      if closA args then
        match O.call g args #[] with
        | some (v, _) => if closN 4 v then some (v, H) else none
        | none => none
      else none
    | 2 =>
      match O.call g args (froze H) with
      | some (v, H1) => if decide (H.size ≤ H1.size) && (H1.toList.drop H.size).all isOwn then some (v, thaw H H1) else none
      | none => none
    | 3 =>
      match O.call g args (froze H) with
      | some (v, _) => if closN 4 v then some (v, H) else none
      | none => none
    | _ => O.call g args H

def mapA (ρ : Operand → Value) (xs : Array Operand) : Array Value := (xs.toList.map ρ).toArray
def mapP (ρ : Operand → Value) (xs : Array (Nat × Operand)) : List (Nat × Value) := xs.toList.map fun p => (p.1, ρ p.2)

def exec1 (P : Program) (O : Orc) (q : FuncId → Nat) (ρ : Operand → Value) (H : AHeap) (o : Oper) : Option (Value × AHeap) :=
  match o.op with
  | .move x | .assign x => some (ρ x, H)
  | .pick c a b => match ρ c with
    | .bool t => some (if t then ρ a else ρ b, H)
    | _ => none
  | .alloc e => match P.info? e with
    | some i => match i.zero with
      | some z => if closN 4 z then some (.pointer (some ⟨H.size, 0, none⟩), H.push (some ⟨z.cells, e, 0, true⟩)) else none
      | none => none
    | none => none
  | .box e x => some (.pointer (some ⟨H.size, 0, none⟩), H.push (some ⟨(ρ x).cells, e, 0, true⟩))
  | .build t parts => (buildV P t (mapP ρ parts)).map (·, H)
  | .buildSlice t len parts => match sliceCells P t len (mapP ρ parts) with
    | some (e, i, cells) => some (.slice (some ⟨H.size, 0, none⟩) len len, H.push (some ⟨cells, e, i.size, true⟩))
    | none => none
  | .load t a => match ρ a with
    | .pointer (some a) => (readVar P H t a).map (·, H)
    | _ => none
  | .store t a x => match ρ a with
    | .pointer (some a) => (writeVar P H t a (ρ x)).map (undef, ·)
    | _ => none
  | .nilCheck x => match ρ x with
    | .pointer (some a) => some (.pointer (some a), H)
    | .func (.func f) us vs => some (.func (.func f) us vs, H)
    | _ => none
  | .binOp op t x y _ => (binV P O op t x y (ρ x) (ρ y)).map (·, H)
  | .unOp op _ x => if exactN 1 (ρ x) then (pureV P (Op.unary op (ρ x))).map (·, H) else none
  | .convert s d x => (convV P s d (ρ x)).map (·, H)
  | .makeInterface t x => match P.underlying t with
    | some (.interface _) | none => none
    | some _ => some (.iface t (ρ x), H)
  | .makeFunc fn first captured => some (.func fn (mapA ρ first) (mapA ρ captured), H)
  | .makeSlice t l c => makeSliceV P H t (ρ l) (ρ c)
  | .slice t x lo hi mx => (sliceV P t (ρ x) (lo.map ρ) (hi.map ρ) (mx.map ρ)).map (·, H)
  | .fieldAddr s x f => (fieldAddrV P s (ρ x) f).map (·, H)
  | .field t x f => (fieldV P t (ρ x) f).map (·, H)
  | .indexAddr t x i => (indexAddrV P t (ρ x) (ρ i)).map (·, H)
  | .index t x i => (indexV P t (ρ x) (ρ i)).map (·, H)
  | .extract t i => match ρ t with
    | .tuple vs => (vs[i]?).map (·, H)
    | _ => none
  | .call c =>
    match c.callee with
    | .builtin .len => match c.args.toList, c.argTypes.toList with
      | [x], [t] => (lenV P t (ρ x)).map (·, H)
      | _, _ => none
    | .builtin .append => match c.args.toList, c.argTypes.toList with
      | [s, x], [t, t2] => appendV P H t t2 (ρ s) (ρ x)
      | _, _ => none
    | .builtin .min => if (mapA ρ c.args).toList.all (exactN 1) then (pureV P (Builtin.min_ c.argTypes o.type (mapA ρ c.args))).map (·, H) else none
    | .builtin .max => if (mapA ρ c.args).toList.all (exactN 1) then (pureV P (Builtin.max_ c.argTypes o.type (mapA ρ c.args))).map (·, H) else none
    | .value f => match ρ f with
      | .func (.func g) first captured =>
        match f with
        | .func _ => callV O q g (first.toList ++ c.args.toList.map ρ ++ captured.toList).toArray H
        | _ => if q g = 3 then callV O q g (first.toList ++ c.args.toList.map ρ ++ captured.toList).toArray H else none
      | _ => none
    | _ => none
  | _ => none

def putT (tm : List Value) (dst : Option Tmp) (v : Value) : List Value :=
  match dst with
  | some d => tm.set d v
  | none => tm

def getT : List Value → Nat → Value
  | [], _ => undef
  | v :: _, 0 => v
  | _ :: l, n + 1 => getT l n

def evalT (tm : List Value) : Operand → Value
  | .tmp t => getT tm t
  | .const v => v
  | .global g => .pointer (some ⟨g, 0, none⟩)
  | .func f => .func (.func f) #[] #[]

def operandOk : Operand → Bool
  | .const v => closN 4 v
  | .global _ => false
  | _ => true
def opOk (o : Oper) : Bool := o.op.operands.toList.all operandOk

def wantedL (ops : Array Oper) (o : Oper) (tm : List Value) : Bool :=
  match o.guard with
  | none => true
  | some (j, want) => match ops[j]? with
    | some p => match p.dst with
      | some d => match tm[d]? with
        | some (.bool b) => b == want
        | _ => false
      | none => false
    | none => false

def evOps (P : Program) (O : Orc) (q : FuncId → Nat) (ops : Array Oper) : List Oper → List Value → AHeap → Option (List Value × AHeap)
  | [], tm, H => some (tm, H)
  | o :: rest, tm, H =>
    if wantedL ops o tm then
      match exec1 P O q (evalT tm) H o with
      | some (v, H') => evOps P O q ops rest (putT tm o.dst v) H'
      | none => none
    else evOps P O q ops rest (putT tm o.dst undef) H

/-- What an operation does to memory: 0 nothing, 1 reads, 2 makes blocks, 3 anything, 4 a call that reads. -/
def opClass (q : FuncId → Nat) (o : Oper) : Nat :=
  match o.op with
  | .load .. => 1
  | .alloc _ | .box .. | .buildSlice .. | .makeSlice .. => 2
  | .store .. => 3
  | .call c => match c.callee with
    | .builtin .len | .builtin .min | .builtin .max => 0
    | .value (.func g) => match q g with | 1 => 0 | 2 => 2 | 3 => 4 | _ => 3
    | .value _ => 4
    | _ => 3
  | _ => 0

def classOk (a b : Nat) : Bool := a == 0 || b == 0 || ((a == 1 || a == 4) && (b == 1 || b == 4)) || (a == 1 && b == 2) || (a == 2 && b == 1)

def swapOk (q : FuncId → Nat) (ops : Array Oper) (x y : Oper) : Bool := x.apart ops y && classOk (opClass q x) (opClass q y)

/-- What each operation hangs on, all told (the last first). -/
def depsL : List Oper → List Nat → List Nat
  | [], d => d
  | o :: rest, d => depsL rest (d ++ [o.after.toList.foldl (fun s e => if Region.binds .any e then s ||| 2 ^ e.on ||| d.getD e.on 0 else s) 0])

/-- A region whose operations may come in any order that its edges allow. -/
def regionOk (q : FuncId → Nat) (ops : Array Oper) : Bool :=
  let d := depsL ops.toList []
  ops.toList.zipIdx.all fun (o, i) =>
    o.after.toList.all (fun e => !Region.binds .any e || decide (e.on < i)) &&
    (List.range ops.size).all (fun j => !(d.getD i 0).testBit j || (o.after.toList.any fun e => Region.binds .any e && (e.on == j || (d.getD e.on 0).testBit j))) &&
    ops.toList.zipIdx.all fun (p, j) => !(decide (j < i)) || (d.getD i 0).testBit j || swapOk q ops p o

/-! regions in which several blocks are made, several places written -/
def isAl (o : Oper) : Bool := match o.op with
  | .alloc _ => true
  | _ => false
def isSt (o : Oper) : Bool := match o.op with
  | .store .. => true
  | _ => false
def countB {α : Type} (p : α → Bool) : List α → Nat
  | [] => 0
  | a :: l => if p a then countB p l + 1 else countB p l
/-- Two stores or more, and nothing but what is pure, reads, stores, and single blocks made. -/
def special (q : FuncId → Nat) (ops : Array Oper) : Bool :=
  Nat.ble 2 (countB isSt ops.toList) && ops.toList.all fun o => isAl o || isSt o || (match opClass q o with | 0 | 1 => true | _ => false)
/-- The place that an operation reads or writes. -/
def addrOf (o : Oper) : Option Tmp := match o.op with
  | .load _ (.tmp d) => some d
  | .store _ (.tmp d) _ => some d
  | _ => none
def noAssign (ops : Array Oper) (i : Nat) (d : Tmp) : Bool := (ops.toList.drop i).all fun o => match o.dst with
  | some e => !(e == d)
  | none => true
/-- A load and a store: they may change places where their places differ, which is seen at the end. -/
def isDyn (a b : Nat) : Bool := (a == 1 && b == 3) || (a == 3 && b == 1)
def classF (q : FuncId → Nat) (x y : Oper) : Bool :=
  opClass q x == 0 || opClass q y == 0 || isAl x || isAl y || (opClass q x == 1 && opClass q y == 1)
def dynSt (ops : Array Oper) (o : Oper) (i : Nat) : Bool := match addrOf o with
  | some d => noAssign ops i d
  | none => false
def swapF (q : FuncId → Nat) (ops : Array Oper) (x : Oper) (j : Nat) (y : Oper) (i : Nat) : Bool :=
  x.apart ops y && (classF q x y || (isDyn (opClass q x) (opClass q y) && dynSt ops x j && dynSt ops y i))
def regionF (q : FuncId → Nat) (ops : Array Oper) : Bool :=
  let d := depsL ops.toList []
  ops.toList.zipIdx.all fun (o, i) =>
    o.after.toList.all (fun e => !Region.binds .any e || decide (e.on < i)) &&
    (List.range ops.size).all (fun j => !(d.getD i 0).testBit j || (o.after.toList.any fun e => Region.binds .any e && (e.on == j || (d.getD e.on 0).testBit j))) &&
    ops.toList.zipIdx.all fun (p, j) => !(decide (j < i)) || (d.getD i 0).testBit j || swapF q ops p j o i
def blockOf (tm : List Value) (d : Tmp) : Option Nat := match getT tm d with
  | .pointer (some a) => some a.block
  | _ => none
def differ (tm : List Value) (x y : Oper) : Bool := match addrOf x, addrOf y with
  | some d, some e => match blockOf tm d, blockOf tm e with
    | some b, some c => !(b == c)
    | _, _ => false
  | _, _ => false
/-- What is seen at the end: places that are read and written, in any order, differ. -/
def dynOk (q : FuncId → Nat) (ops : Array Oper) (tm : List Value) : Bool :=
  let d := depsL ops.toList []
  ops.toList.zipIdx.all fun (o, i) => ops.toList.zipIdx.all fun (p, j) => !(decide (j < i)) || !(isDyn (opClass q p) (opClass q o)) || (d.getD i 0).testBit j || differ tm p o

/-- A block made at a place that was kept. -/
def allocV (P : Program) (e : TypeId) (k : Nat) (H : AHeap) : Option (Value × AHeap) :=
  match P.info? e with
  | some i => match i.zero with
    | some z => if closN 4 z then
        match H[k]? with
        | some none => some (.pointer (some ⟨k, 0, none⟩), H.setIfInBounds k (some ⟨z.cells, e, 0, true⟩))
        | _ => none
      else none
    | none => none
  | none => none
def execF (P : Program) (O : Orc) (q : FuncId → Nat) (k : Nat) (ρ : Operand → Value) (H : AHeap) (o : Oper) : Option (Value × AHeap) :=
  match o.op with
  | .alloc e => allocV P e k H
  | _ => exec1 P O q ρ H o
def evOpsF (P : Program) (O : Orc) (q : FuncId → Nat) (ops : Array Oper) : List Oper → Nat → List Value → AHeap → Option (List Value × AHeap)
  | [], _, tm, H => some (tm, H)
  | o :: rest, k, tm, H =>
    if wantedL ops o tm then
      match execF P O q k (evalT tm) H o with
      | some (v, H') => evOpsF P O q ops rest (if isAl o then k + 1 else k) (putT tm o.dst v) H'
      | none => none
    else evOpsF P O q ops rest (if isAl o then k + 1 else k) (putT tm o.dst undef) H

def codeOk (q : FuncId → Nat) : Code → Bool
  | .region _ ops draw => ops.toList.all opOk && (!draw || (if special q ops then regionF q ops else regionOk q ops))
  | .seq a b => codeOk q a && codeOk q b
  | .cond c x y => operandOk c && codeOk q x && codeOk q y
  | .block _ b => codeOk q b
  | .loop b => codeOk q b
  | _ => true

inductive AExit where
  | normal
  | exit (id : Nat)
  | ret
  deriving DecidableEq

abbrev St := AExit × List Value × AHeap

def loopN (f : List Value → AHeap → Option St) : Nat → List Value → AHeap → Option St
  | 0, _, _ => none
  | n + 1, tm, H =>
    match f tm H with
    | some (.normal, tm', H') => loopN f n tm' H'
    | r => r

def ev (P : Program) (O : Orc) (q : FuncId → Nat) (n : Nat) : Code → List Value → AHeap → Option St
  | .skip, tm, H => some (.normal, tm, H)
  | .label _, tm, H => some (.normal, tm, H)
  | .region _ ops draw, tm, H =>
    if draw && special q ops then
      match evOpsF P O q ops ops.toList H.size tm (H.toList ++ List.replicate (countB isAl ops.toList) none).toArray with
      | some (tm', H') => if dynOk q ops tm' then some (.normal, tm', H') else none
      | none => none
    else
    match evOps P O q ops ops.toList tm H with
    | some (tm', H') => some (.normal, tm', H')
    | none => none
  | .seq a b, tm, H =>
    match ev P O q n a tm H with
    | some (.normal, tm', H') => ev P O q n b tm' H'
    | r => r
  | .cond c x y, tm, H =>
    match evalT tm c with
    | .bool b => if b then ev P O q n x tm H else ev P O q n y tm H
    | _ => none
  | .block id body, tm, H =>
    match ev P O q n body tm H with
    | some (.exit id', tm', H') => if id' = id then some (.normal, tm', H') else some (.exit id', tm', H')
    | r => r
  | .loop body, tm, H => loopN (ev P O q n body) n tm H
  | .exit id, tm, H => some (.exit id, tm, H)
  | .ret, tm, H => some (.ret, tm, H)
  | _, _, _ => none

def resOne (P : Program) (H : AHeap) (tm : List Value) : ResultVar → Option Value
  | .tmp t => some (getT tm t)
  | .cell a t => match getT tm a with
    | .pointer (some a) => readVar P H t a
    | _ => none

def resList (P : Program) (H : AHeap) (tm : List Value) : List ResultVar → Option (List Value)
  | [] => some []
  | r :: rs => match resOne P H tm r with
    | some v => match resList P H tm rs with
      | some vs => some (v :: vs)
      | none => none
    | none => none

def resV (P : Program) (H : AHeap) (tm : List Value) (rs : List ResultVar) : Option Value :=
  match resList P H tm rs with
  | some [v] => some v
  | some vs => some (.tuple vs.toArray)
  | none => none

def evFunc (P : Program) (O : Orc) (q : FuncId → Nat) (n : Nat) (f : FuncId) (args : Array Value) (H : AHeap) : Option (Value × AHeap) :=
  match P.funcs[f]? with
  | some fn => match fn.body with
    | some c =>
      match ev P O q n c (args.toList ++ List.replicate (fn.ntmps - args.size) undef) H with
      | some (.exit _, _, _) => none
      | some (_, tm, H') => (resV P H' tm fn.results.toList).map (·, H')
      | none => none
    | none => none
  | none => none

/-- Functions with a body, one in the other, to a depth. 'fs': those that were looked at. -/
def callN (P : Program) (prim : Orc) (q : FuncId → Nat) (fs : FuncId → Bool) (n : Nat) : Nat → FuncId → Array Value → AHeap → Option (Value × AHeap)
  | 0, f, args, H => prim.call f args H
  | d + 1, f, args, H =>
    match prim.call f args H with
    | some r => some r
    | none => if fs f then evFunc P { prim with call := callN P prim q fs n d } q n f args H else none


/-! ### the same as a relation: a call comes to whatever is known of it -/

def noCall (O : Orc) : Orc := { O with call := fun _ _ _ => none }

def callR (C : FuncId → Array Value → AHeap → Value → AHeap → Prop) (O : Orc) (q : FuncId → Nat) (g : FuncId) (args : Array Value) (H : AHeap) (v : Value) (H' : AHeap) : Prop :=
  match O.row g args with
  | some u => v = u ∧ H' = H
  | none =>
    match q g with
    | 1 => closA args = true ∧ closN 4 v = true ∧ H' = H ∧ ∃ H2, C g args #[] v H2
    | 2 => ∃ H1, C g args (froze H) v H1 ∧ H.size ≤ H1.size ∧ (H1.toList.drop H.size).all isOwn = true ∧ H' = thaw H H1
    | 3 => closN 4 v = true ∧ H' = H ∧ ∃ H1, C g args (froze H) v H1
    | _ => C g args H v H'

def isFunc : Operand → Bool
  | .func _ => true
  | _ => false

def exR (P : Program) (C : FuncId → Array Value → AHeap → Value → AHeap → Prop) (O : Orc) (q : FuncId → Nat) (ρ : Operand → Value) (H : AHeap) (o : Oper) (v : Value) (H' : AHeap) : Prop :=
  match o.op with
  | .call c =>
    match c.callee with
    | .value f => match ρ f with
      | .func (.func g) first captured => (isFunc f = true ∨ q g = 3) ∧ callR C O q g (first.toList ++ c.args.toList.map ρ ++ captured.toList).toArray H v H'
      | _ => False
    | _ => exec1 P (noCall O) q ρ H o = some (v, H')
  | _ => exec1 P (noCall O) q ρ H o = some (v, H')

/-- What an operation comes to, wanted or not. -/
def outR (P : Program) (C : FuncId → Array Value → AHeap → Value → AHeap → Prop) (O : Orc) (q : FuncId → Nat) (ops : Array Oper) (o : Oper) (tm : List Value) (H : AHeap) (v : Value) (H' : AHeap) : Prop :=
  if wantedL ops o tm then exR P C O q (evalT tm) H o v H' else v = undef ∧ H' = H

def evOpsR (P : Program) (C : FuncId → Array Value → AHeap → Value → AHeap → Prop) (O : Orc) (q : FuncId → Nat) (ops : Array Oper) : List Oper → List Value → AHeap → List Value → AHeap → Prop
  | [], tm, H, tm', H' => tm' = tm ∧ H' = H
  | o :: rest, tm, H, tm', H' => ∃ v H1, outR P C O q ops o tm H v H1 ∧ evOpsR P C O q ops rest (putT tm o.dst v) H1 tm' H'

/-- A block that is made at a place that was kept. -/
def allocF (P : Program) (e : TypeId) (k : Nat) (H : AHeap) (v : Value) (H' : AHeap) : Prop :=
  ∃ i z, P.info? e = some i ∧ i.zero = some z ∧ closN 4 z = true ∧ H[k]? = some none ∧ v = .pointer (some ⟨k, 0, none⟩) ∧ H' = H.setIfInBounds k (some ⟨z.cells, e, 0, true⟩)
def outF (P : Program) (C : FuncId → Array Value → AHeap → Value → AHeap → Prop) (O : Orc) (q : FuncId → Nat) (ops : Array Oper) (k : Nat) (o : Oper) (tm : List Value) (H : AHeap) (v : Value) (H' : AHeap) : Prop :=
  if wantedL ops o tm then (match o.op with
    | .alloc e => allocF P e k H v H'
    | _ => exR P C O q (evalT tm) H o v H') else v = undef ∧ H' = H
def evOpsFR (P : Program) (C : FuncId → Array Value → AHeap → Value → AHeap → Prop) (O : Orc) (q : FuncId → Nat) (ops : Array Oper) : List Oper → Nat → List Value → AHeap → List Value → AHeap → Prop
  | [], _, tm, H, tm', H' => tm' = tm ∧ H' = H
  | o :: rest, k, tm, H, tm', H' => ∃ v H1, outF P C O q ops k o tm H v H1 ∧ evOpsFR P C O q ops rest (if isAl o then k + 1 else k) (putT tm o.dst v) H1 tm' H'
/-- A memory with places that are kept. -/
def kept (H : AHeap) (ops : Array Oper) : AHeap := H ++ Array.replicate (countB isAl ops.toList) none

/-- A region: in the text's order; or, where several blocks are made and written, with their places kept. -/
def regR (P : Program) (C : FuncId → Array Value → AHeap → Value → AHeap → Prop) (O : Orc) (q : FuncId → Nat) (ops : Array Oper) (draw : Bool) (tm : List Value) (H : AHeap) (tm' : List Value) (H' : AHeap) : Prop :=
  if (draw && special q ops) = true then evOpsFR P C O q ops ops.toList H.size tm (kept H ops) tm' H' ∧ dynOk q ops tm' = true else evOpsR P C O q ops ops.toList tm H tm' H'

/-- Rounds of a loop. -/
inductive Rds (f : List Value → AHeap → St → Prop) : List Value → AHeap → St → Prop
  | next {tm : List Value} {H : AHeap} {tm1 : List Value} {H1 : AHeap} {r : St} (h : f tm H (.normal, tm1, H1)) (t : Rds f tm1 H1 r) : Rds f tm H r
  | last {tm : List Value} {H : AHeap} {r : St} (h : f tm H r) (hn : r.1 ≠ .normal) : Rds f tm H r

def evR (P : Program) (C : FuncId → Array Value → AHeap → Value → AHeap → Prop) (O : Orc) (q : FuncId → Nat) : Code → List Value → AHeap → St → Prop
  | .skip, tm, H, r | .label _, tm, H, r => r = (.normal, tm, H)
  | .region _ ops draw, tm, H, r => ∃ tm' H', regR P C O q ops draw tm H tm' H' ∧ r = (.normal, tm', H')
  | .seq a b, tm, H, r => ∃ r1, evR P C O q a tm H r1 ∧ match r1 with
    | (.normal, tm1, H1) => evR P C O q b tm1 H1 r
    | _ => r = r1
  | .cond c x y, tm, H, r => match evalT tm c with
    | .bool b => if b then evR P C O q x tm H r else evR P C O q y tm H r
    | _ => False
  | .block id body, tm, H, r => ∃ r1, evR P C O q body tm H r1 ∧ match r1 with
    | (.exit id', tm1, H1) => if id' = id then r = (.normal, tm1, H1) else r = r1
    | _ => r = r1
  | .loop body, tm, H, r => Rds (evR P C O q body) tm H r
  | .exit id, tm, H, r => r = (.exit id, tm, H)
  | .ret, tm, H, r => r = (.ret, tm, H)
  | _, _, _, _ => False

end Go.Proofs.Ytclphdmaedpipaa
