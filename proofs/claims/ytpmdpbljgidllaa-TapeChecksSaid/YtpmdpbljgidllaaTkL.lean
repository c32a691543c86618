/- TapeChecks: its run, in each of eight ways. -/
import Derived.Test.YtpmdpbljgidllaaTkA
namespace Go.Proofs.Ytpmdpbljgidllaa
open Go
set_option linter.unusedVariables false
set_option linter.unusedSimpArgs false
set_option maxRecDepth 100000

noncomputable def askTl (g : FuncId) : Nat := if [12, 14, 17, 15, 16, 18].contains g then 1 else if g == 13 then 2 else
  if [47, 48, 49, 59, 61, 62, 63, 72, 76, 77, 78, 79, 87, 88, 102, 104, 105, 111, 117, 126, 132].contains (g - 1000000) && Nat.ble 1000000 g then 7 else 0
def cmTl : BinOp → Value → Value → Bool
  | .leq, .int _ _, _ => true
  | .lss, .int _ _, _ => true
  | _, _, _ => false
structure TkV where
  N : Int
  a : Option Addr
  n : Nat
  ca : Nat
  b : Option Addr
  m : Nat
  cb : Nat
  Nt : Nat
  M : Nat
  co : Array Value
  cu : Array Value
  k : Int
  x : Int
  y : Int
  z : Int
  f : Nat
  p : Nat
  q : Nat
  p2 : Nat
  y2 : Int
def TkV.raw (V : TkV) : Value := tvT V.N V.a V.n V.ca V.b V.m V.cb
def h0Tl (o1 o2 o3 : Option ABlk) (V : TkV) : List (Option ABlk) := [o1, o2, o3, bxT V.N V.a V.n V.ca V.b V.m V.cb, bxT V.N V.a V.n V.ca V.b V.m V.cb]
def h1Tl (o1 o2 o3 : Option ABlk) (V : TkV) : List (Option ABlk) := h0Tl o1 o2 o3 V ++ [opB V.co, iB V.cu, tcB 5 V.Nt V.M]
def h2Tl (o1 o2 o3 : Option ABlk) (V : TkV) (co cu : Array Value) : List (Option ABlk) := h0Tl o1 o2 o3 V ++ [opB co, iB cu, tcB 5 V.Nt V.M]
noncomputable def wiTl (z : Int) (n : Int) (w : Int) : Obl := .run 17 #[.int .i64 z, .int .i64 n] #[] (.int .i64 w) #[]
noncomputable def arTl (op : BinOp) (a b c : Int) : Obl := .ex (pureV Try.prog (binOp op 3 (.int .i64 a) (.int .i64 b)) = some (.int .i64 c))
noncomputable def lqTl (a b : Int) (c : Bool) : Obl := .cmp .leq 3 (.int .i64 a) (.int .i64 b) c
noncomputable def fdTl (p : Addr) (f : Nat) (q : Addr) : Obl := .ex (fieldAddrV Try.prog 32 (.pointer (some p)) f = some (.pointer (some q)))
noncomputable def wrTl (H H' : List (Option ABlk)) (t : TypeId) (p : Addr) (v : Value) : Obl := .ex (writeVar Try.prog H.toArray t p v = some H'.toArray)
def opSl (M : Nat) : Value := .slice (some ⟨5, 0, none⟩) M M
def ouSl (N : Nat) : Value := .slice (some ⟨6, 0, none⟩) N N
noncomputable def ix2 (t : TypeId) (s : Value) (k : Int) (p : Addr) : Obl := .ex (indexAddrV Try.prog t s (.int .i64 k) = some (.pointer (some p)))
def i4Tl (v k z : Int) : Option ABlk := some ⟨#[.int .i64 v, .int .i64 k, .int .i64 z, .int .i64 0], 3, 1, true⟩
def i1Tl : Option ABlk := some ⟨#[.int .i64 0], 3, 1, true⟩
def tbTl (N : Int) (s u : Value) : Option ABlk := some ⟨#[.int .i64 N, s, u], 25, 0, true⟩
def argsTl (V : TkV) (n : Int) (vc : Value) (w at' v : Int) : Array Value := #[V.raw, .int .i64 n, vc, .int .i64 w, .int .i64 at', .int .i64 v]
theorem tlFew0 (o1 o2 o3 : Option ABlk) (V : TkV) (n : Int) (vc : Value) (w at' v : Int) : (askT askTl cmTl 3 (argsTl V n vc w at' v) #[o1, o2, o3] ([yes true, yes false]) []).map (fun r => (r.1, r.2.2.1, slL [] r.2.2.2)) =
    some (.bool true, [qtO 12 #[] (.bool true), lqTl V.n 80 false], []) := by kernel_rfl
theorem tlFew1 (o1 o2 o3 : Option ABlk) (V : TkV) (n : Int) (vc : Value) (w at' v : Int) : (askT askTl cmTl 3 (argsTl V n vc w at' v) #[o1, o2, o3] ([yes true, yes true, yes false]) []).map (fun r => (r.1, r.2.2.1, slL [] r.2.2.2)) =
    some (.bool true, [qtO 12 #[] (.bool true), lqTl V.n 80 true, lqTl V.m 20 false], []) := by kernel_rfl
theorem tl0 (o1 o2 o3 : Option ABlk) (V : TkV) (n : Int) (vc : Value) (w at' v : Int) (r b : Bool) (co : Array Value) : (askT askTl cmTl 3 (argsTl V n vc w at' v) #[o1, o2, o3] ([yes true, yes true, yes true, tpA V.Nt V.M V.co V.cu, yes r, yes r, yes true, isI V.k, isI 0] ++ [isI V.x, isI V.y, vaT (.pointer (some ⟨5, V.p, none⟩)), vaT (.pointer (some ⟨5, V.q, none⟩)), mAnsT undef (h2Tl o1 o2 o3 V co V.cu)] ++ [yes b, yes b]) []).map (fun r => (r.1, r.2.2.1, slL [] r.2.2.2)) =
    some (.bool true, [qtO 12 #[] (.bool true), lqTl V.n 80 true, lqTl V.m 20 true, rnO 14 #[.int .i64 n, vc, .bool true] (h0Tl o1 o2 o3 V) (tpV 5 6 V.Nt V.M) [opB V.co, iB V.cu],
      rnO 15 #[V.raw] (h1Tl o1 o2 o3 V) (.bool r) [], rnO 16 #[V.raw] (h1Tl o1 o2 o3 V) (.bool r) [], rnO 15 #[tpV 5 6 V.Nt V.M] (h1Tl o1 o2 o3 V) (.bool true) [],
      wiTl at' V.M V.k, wiTl w 8 0] ++ [wiTl v 9 V.x, arTl .sub V.x 1 V.y, ix2 22 (opSl V.M) V.k ⟨5, V.p, none⟩, fdTl ⟨5, V.p, none⟩ 0 ⟨5, V.q, none⟩, wrTl (h1Tl o1 o2 o3 V) (h2Tl o1 o2 o3 V co V.cu) 3 ⟨5, V.q, none⟩ (.int .i64 V.y)] ++ [rnO 15 #[tpV 5 6 V.Nt V.M] (h2Tl o1 o2 o3 V co V.cu) (.bool b) [], rnO 16 #[tpV 5 6 V.Nt V.M] (h2Tl o1 o2 o3 V co V.cu) (.bool b) []], []) := by cases r <;> cases b <;> kernel_rfl
theorem tl1 (o1 o2 o3 : Option ABlk) (V : TkV) (n : Int) (vc : Value) (w at' v : Int) (r b : Bool) (co : Array Value) : (askT askTl cmTl 3 (argsTl V n vc w at' v) #[o1, o2, o3] ([yes true, yes true, yes true, tpA V.Nt V.M V.co V.cu, yes r, yes r, yes true, isI V.k, isI 1] ++ [isI V.z, isI V.x, isI V.y, vaT (.pointer (some ⟨5, V.p, none⟩)), vaT (.pointer (some ⟨5, V.q, none⟩)), mAnsT undef (h2Tl o1 o2 o3 V co V.cu)] ++ [yes b, yes b]) []).map (fun r => (r.1, r.2.2.1, slL [] r.2.2.2)) =
    some (.bool true, [qtO 12 #[] (.bool true), lqTl V.n 80 true, lqTl V.m 20 true, rnO 14 #[.int .i64 n, vc, .bool true] (h0Tl o1 o2 o3 V) (tpV 5 6 V.Nt V.M) [opB V.co, iB V.cu],
      rnO 15 #[V.raw] (h1Tl o1 o2 o3 V) (.bool r) [], rnO 16 #[V.raw] (h1Tl o1 o2 o3 V) (.bool r) [], rnO 15 #[tpV 5 6 V.Nt V.M] (h1Tl o1 o2 o3 V) (.bool true) [],
      wiTl at' V.M V.k, wiTl w 8 1] ++ [arTl .add V.M 2 V.z, wiTl v V.z V.x, arTl .sub V.x 1 V.y, ix2 22 (opSl V.M) V.k ⟨5, V.p, none⟩, fdTl ⟨5, V.p, none⟩ 1 ⟨5, V.q, none⟩, wrTl (h1Tl o1 o2 o3 V) (h2Tl o1 o2 o3 V co V.cu) 3 ⟨5, V.q, none⟩ (.int .i64 V.y)] ++ [rnO 15 #[tpV 5 6 V.Nt V.M] (h2Tl o1 o2 o3 V co V.cu) (.bool b) [], rnO 16 #[tpV 5 6 V.Nt V.M] (h2Tl o1 o2 o3 V co V.cu) (.bool b) []], []) := by cases r <;> cases b <;> kernel_rfl
theorem tl2 (o1 o2 o3 : Option ABlk) (V : TkV) (n : Int) (vc : Value) (w at' v : Int) (r b : Bool) (co : Array Value) : (askT askTl cmTl 3 (argsTl V n vc w at' v) #[o1, o2, o3] ([yes true, yes true, yes true, tpA V.Nt V.M V.co V.cu, yes r, yes r, yes true, isI V.k, isI 2] ++ [isI V.z, isI V.x, vaT (.pointer (some ⟨8, V.p2, none⟩)), isI V.y, vaT (.pointer (some ⟨5, V.p, none⟩)), vaT (.pointer (some ⟨5, V.q, none⟩)), mAnsT undef ((h2Tl o1 o2 o3 V co V.cu) ++ [i4Tl v V.k V.z])] ++ [yes b, yes b]) []).map (fun r => (r.1, r.2.2.1, slL [] r.2.2.2)) =
    some (.bool true, [qtO 12 #[] (.bool true), lqTl V.n 80 true, lqTl V.m 20 true, rnO 14 #[.int .i64 n, vc, .bool true] (h0Tl o1 o2 o3 V) (tpV 5 6 V.Nt V.M) [opB V.co, iB V.cu],
      rnO 15 #[V.raw] (h1Tl o1 o2 o3 V) (.bool r) [], rnO 16 #[V.raw] (h1Tl o1 o2 o3 V) (.bool r) [], rnO 15 #[tpV 5 6 V.Nt V.M] (h1Tl o1 o2 o3 V) (.bool true) [],
      wiTl at' V.M V.k, wiTl w 8 2] ++ [arTl .sub V.k 1 V.z, wiTl v 4 V.x, ix2 23 (.slice (some ⟨8, 0, none⟩) 4 4) V.x ⟨8, V.p2, none⟩, .ex (readVar Try.prog ((h1Tl o1 o2 o3 V) ++ [i4Tl v V.k V.z]).toArray 3 ⟨8, V.p2, none⟩ = some (.int .i64 V.y)), ix2 22 (opSl V.M) V.k ⟨5, V.p, none⟩, fdTl ⟨5, V.p, none⟩ 2 ⟨5, V.q, none⟩, wrTl ((h1Tl o1 o2 o3 V) ++ [i4Tl v V.k V.z]) ((h2Tl o1 o2 o3 V co V.cu) ++ [i4Tl v V.k V.z]) 3 ⟨5, V.q, none⟩ (.int .i64 V.y)] ++ [rnO 15 #[tpV 5 6 V.Nt V.M] ((h2Tl o1 o2 o3 V co V.cu) ++ [i4Tl v V.k V.z]) (.bool b) [], rnO 16 #[tpV 5 6 V.Nt V.M] ((h2Tl o1 o2 o3 V co V.cu) ++ [i4Tl v V.k V.z]) (.bool b) []], []) := by cases r <;> cases b <;> kernel_rfl
theorem tl3 (o1 o2 o3 : Option ABlk) (V : TkV) (n : Int) (vc : Value) (w at' v : Int) (r b : Bool) (co : Array Value) : (askT askTl cmTl 3 (argsTl V n vc w at' v) #[o1, o2, o3] ([yes true, yes true, yes true, tpA V.Nt V.M V.co V.cu, yes r, yes r, yes true, isI V.k, isI 3] ++ [vaT (.float .f64 V.f), vaT (.pointer (some ⟨5, V.p, none⟩)), vaT (.pointer (some ⟨5, V.q, none⟩)), mAnsT undef (h2Tl o1 o2 o3 V co V.cu)] ++ [yes b, yes b]) []).map (fun r => (r.1, r.2.2.1, slL [] r.2.2.2)) =
    some (.bool true, [qtO 12 #[] (.bool true), lqTl V.n 80 true, lqTl V.m 20 true, rnO 14 #[.int .i64 n, vc, .bool true] (h0Tl o1 o2 o3 V) (tpV 5 6 V.Nt V.M) [opB V.co, iB V.cu],
      rnO 15 #[V.raw] (h1Tl o1 o2 o3 V) (.bool r) [], rnO 16 #[V.raw] (h1Tl o1 o2 o3 V) (.bool r) [], rnO 15 #[tpV 5 6 V.Nt V.M] (h1Tl o1 o2 o3 V) (.bool true) [],
      wiTl at' V.M V.k, wiTl w 8 3] ++ [rnO 18 #[.int .i64 v] (h1Tl o1 o2 o3 V) (.float .f64 V.f) [], ix2 22 (opSl V.M) V.k ⟨5, V.p, none⟩, fdTl ⟨5, V.p, none⟩ 3 ⟨5, V.q, none⟩, wrTl (h1Tl o1 o2 o3 V) (h2Tl o1 o2 o3 V co V.cu) 30 ⟨5, V.q, none⟩ (.float .f64 V.f)] ++ [rnO 15 #[tpV 5 6 V.Nt V.M] (h2Tl o1 o2 o3 V co V.cu) (.bool b) [], rnO 16 #[tpV 5 6 V.Nt V.M] (h2Tl o1 o2 o3 V co V.cu) (.bool b) []], []) := by cases r <;> cases b <;> kernel_rfl
theorem tl4 (o1 o2 o3 : Option ABlk) (V : TkV) (n : Int) (vc : Value) (w at' v : Int) (r b : Bool) (cu : Array Value) : (askT askTl cmTl 3 (argsTl V n vc w at' v) #[o1, o2, o3] ([yes true, yes true, yes true, tpA V.Nt V.M V.co V.cu, yes r, yes r, yes true, isI V.k, isI 4] ++ [isI V.y, isI V.z, isI V.x, isI V.y2, vaT (.pointer (some ⟨6, V.p, none⟩)), mAnsT undef (h2Tl o1 o2 o3 V V.co cu)] ++ [yes b, yes b]) []).map (fun r => (r.1, r.2.2.1, slL [] r.2.2.2)) =
    some (.bool true, [qtO 12 #[] (.bool true), lqTl V.n 80 true, lqTl V.m 20 true, rnO 14 #[.int .i64 n, vc, .bool true] (h0Tl o1 o2 o3 V) (tpV 5 6 V.Nt V.M) [opB V.co, iB V.cu],
      rnO 15 #[V.raw] (h1Tl o1 o2 o3 V) (.bool r) [], rnO 16 #[V.raw] (h1Tl o1 o2 o3 V) (.bool r) [], rnO 15 #[tpV 5 6 V.Nt V.M] (h1Tl o1 o2 o3 V) (.bool true) [],
      wiTl at' V.M V.k, wiTl w 8 4] ++ [wiTl at' V.Nt V.y, arTl .add V.M 2 V.z, wiTl v V.z V.x, arTl .sub V.x 1 V.y2, ix2 23 (ouSl V.Nt) V.y ⟨6, V.p, none⟩, wrTl (h1Tl o1 o2 o3 V) (h2Tl o1 o2 o3 V V.co cu) 3 ⟨6, V.p, none⟩ (.int .i64 V.y2)] ++ [rnO 15 #[tpV 5 6 V.Nt V.M] (h2Tl o1 o2 o3 V V.co cu) (.bool b) [], rnO 16 #[tpV 5 6 V.Nt V.M] (h2Tl o1 o2 o3 V V.co cu) (.bool b) []], []) := by cases r <;> cases b <;> kernel_rfl
theorem tl5 (o1 o2 o3 : Option ABlk) (V : TkV) (n : Int) (vc : Value) (w at' v : Int) (r b : Bool) (cu : Array Value) : (askT askTl cmTl 3 (argsTl V n vc w at' v) #[o1, o2, o3] ([yes true, yes true, yes true, tpA V.Nt V.M V.co V.cu, yes r, yes r, yes true, isI V.k, isI 5] ++ [⟨fun _ => .slice (some ⟨9, 0, none⟩) (V.Nt + 1) (V.Nt + 1), h0Tl o1 o2 o3 V ++ [opB V.co, none, tcB 5 V.Nt V.M, i1Tl, iB cu]⟩] ++ [yes b, yes b]) []).map (fun r => (r.1, r.2.2.1, slL [] r.2.2.2)) =
    some (.bool true, [qtO 12 #[] (.bool true), lqTl V.n 80 true, lqTl V.m 20 true, rnO 14 #[.int .i64 n, vc, .bool true] (h0Tl o1 o2 o3 V) (tpV 5 6 V.Nt V.M) [opB V.co, iB V.cu],
      rnO 15 #[V.raw] (h1Tl o1 o2 o3 V) (.bool r) [], rnO 16 #[V.raw] (h1Tl o1 o2 o3 V) (.bool r) [], rnO 15 #[tpV 5 6 V.Nt V.M] (h1Tl o1 o2 o3 V) (.bool true) [],
      wiTl at' V.M V.k, wiTl w 8 5] ++ [.ex (appendV Try.prog ((h1Tl o1 o2 o3 V) ++ [i1Tl]).toArray 23 23 (ouSl V.Nt) (.slice (some ⟨8, 0, none⟩) 1 1) = some (.slice (some ⟨9, 0, none⟩) (V.Nt + 1) (V.Nt + 1), (h0Tl o1 o2 o3 V ++ [opB V.co, none, tcB 5 V.Nt V.M, i1Tl, iB cu]).toArray))] ++ [rnO 15 #[(.agg #[.int .i64 V.Nt, opSl V.M, .slice (some ⟨9, 0, none⟩) (V.Nt + 1) (V.Nt + 1)])] (h0Tl o1 o2 o3 V ++ [opB V.co, none, tbTl V.Nt (opSl V.M) (.slice (some ⟨9, 0, none⟩) (V.Nt + 1) (V.Nt + 1)), i1Tl, iB cu]) (.bool b) [], rnO 16 #[(.agg #[.int .i64 V.Nt, opSl V.M, .slice (some ⟨9, 0, none⟩) (V.Nt + 1) (V.Nt + 1)])] (h0Tl o1 o2 o3 V ++ [opB V.co, none, tbTl V.Nt (opSl V.M) (.slice (some ⟨9, 0, none⟩) (V.Nt + 1) (V.Nt + 1)), i1Tl, iB cu]) (.bool b) []], []) := by cases r <;> cases b <;> kernel_rfl
theorem tl6 (o1 o2 o3 : Option ABlk) (V : TkV) (n : Int) (vc : Value) (w at' v : Int) (r b : Bool) : (askT askTl cmTl 3 (argsTl V n vc w at' v) #[o1, o2, o3] ([yes true, yes true, yes true, tpA V.Nt V.M V.co V.cu, yes r, yes r, yes true, isI V.k, isI 6] ++ [isI V.x, isI V.y] ++ [yes b, yes b]) []).map (fun r => (r.1, r.2.2.1, slL [] r.2.2.2)) =
    some (.bool true, [qtO 12 #[] (.bool true), lqTl V.n 80 true, lqTl V.m 20 true, rnO 14 #[.int .i64 n, vc, .bool true] (h0Tl o1 o2 o3 V) (tpV 5 6 V.Nt V.M) [opB V.co, iB V.cu],
      rnO 15 #[V.raw] (h1Tl o1 o2 o3 V) (.bool r) [], rnO 16 #[V.raw] (h1Tl o1 o2 o3 V) (.bool r) [], rnO 15 #[tpV 5 6 V.Nt V.M] (h1Tl o1 o2 o3 V) (.bool true) [],
      wiTl at' V.M V.k, wiTl w 8 6] ++ [wiTl v 7 V.x, arTl .sub V.x 1 V.y] ++ [rnO 15 #[(.agg #[.int .i64 V.y, opSl V.M, ouSl V.Nt])] (h0Tl o1 o2 o3 V ++ [opB V.co, iB V.cu, tbTl V.y (opSl V.M) (ouSl V.Nt)]) (.bool b) [], rnO 16 #[(.agg #[.int .i64 V.y, opSl V.M, ouSl V.Nt])] (h0Tl o1 o2 o3 V ++ [opB V.co, iB V.cu, tbTl V.y (opSl V.M) (ouSl V.Nt)]) (.bool b) []], []) := by cases r <;> cases b <;> kernel_rfl
/-! the eighth: operations are put behind, one by one -/
noncomputable def bodyT7 : Code := bodyG Try.prog 3 0
theorem okT7 : codeOk q1 bodyT7 = true := by kernel_rfl
def opOneTl : Option ABlk := opB #[.int .i64 1, .int .i64 0, .int .i64 0, .float .f64 0]
def HLT (o1 o2 o3 : Option ABlk) (Nt L : Nat) (co cu : Array Value) : List (Option ABlk) := [o1, o2, o3, opB co, iB cu, tbTl Nt (.slice (some ⟨3, 0, none⟩) L L) (.slice (some ⟨4, 0, none⟩) Nt Nt)]
def LT7 (v : Int) : List (Nat × Value) := [(5, .int .i64 v), (13, ptT 5)]
def ap7 (o1 o2 o3 : Option ABlk) (Nt L : Nat) (co co' cu : Array Value) : List (Option ABlk) := [o1, o2, o3, none, iB cu, tbTl Nt (.slice (some ⟨3, 0, none⟩) L L) (.slice (some ⟨4, 0, none⟩) Nt Nt), opOneTl, opB co']
theorem rdT7 (o1 o2 o3 : Option ABlk) (Nt L : Nat) (co co' cu : Array Value) (v x y : Int) :
    (rndT askTl cmTl bodyT7 (tmA 139 (LT7 v)) (HLT o1 o2 o3 Nt L co cu).toArray [isI x, isI y, yes true, ⟨fun _ => .slice (some ⟨7, 0, none⟩) (L + 1) (L + 1), ap7 o1 o2 o3 Nt L co co' cu⟩] []).map (fun r => (r.1, slG [5, 13] [0, 1, 2, 7, 4, 5] r.2.1 r.2.2.1, r.2.2.2)) =
    some (.normal, (139, [.int .i64 v, ptT 5], [some o1, some o2, some o3, some (opB co'), some (iB cu), some (tbTl Nt (.slice (some ⟨7, 0, none⟩) (L + 1) (L + 1)) (.slice (some ⟨4, 0, none⟩) Nt Nt))]),
      [wiTl v 4 x, arTl .add 59 x y, .cmp .lss 3 (.int .i64 L) (.int .i64 y) true, .ex (appendV Try.prog (HLT o1 o2 o3 Nt L co cu ++ [opOneTl]).toArray 22 22 (.slice (some ⟨3, 0, none⟩) L L) (.slice (some ⟨6, 0, none⟩) 1 1) = some (.slice (some ⟨7, 0, none⟩) (L + 1) (L + 1), (ap7 o1 o2 o3 Nt L co co' cu).toArray))], []) := by kernel_rfl
theorem rdT7e (o1 o2 o3 : Option ABlk) (Nt L : Nat) (co cu : Array Value) (v x y : Int) :
    (rndT askTl cmTl bodyT7 (tmA 139 (LT7 v)) (HLT o1 o2 o3 Nt L co cu).toArray [isI x, isI y, yes false] []).map (fun r => (r.1, slG [5, 13] [0, 1, 2, 3, 4, 5] r.2.1 r.2.2.1, r.2.2.2)) =
    some (.exit 1, (139, [.int .i64 v, ptT 5], [some o1, some o2, some o3, some (opB co), some (iB cu), some (tbTl Nt (.slice (some ⟨3, 0, none⟩) L L) (.slice (some ⟨4, 0, none⟩) Nt Nt))]),
      [wiTl v 4 x, arTl .add 59 x y, .cmp .lss 3 (.int .i64 L) (.int .i64 y) false], []) := by kernel_rfl
theorem tl7 (o1 o2 o3 : Option ABlk) (V : TkV) (n : Int) (vc : Value) (w at' v : Int) (r b : Bool) (L : Nat) (co : Array Value) : (askT askTl cmTl 3 (argsTl V n vc w at' v) #[o1, o2, o3] ([yes true, yes true, yes true, tpA V.Nt V.M V.co V.cu, yes r, yes r, yes true, isI V.k, isI 7] ++ [yes b, yes b]) [some ⟨.exit 1, tmA 139 (LT7 v), (HLT o1 o2 o3 V.Nt L co V.cu).toArray⟩]).map (fun r => (r.1, r.2.2.1, slL [([5, 13], [0, 1, 2, 5, 6, 7])] r.2.2.2)) =
    some (.bool true, [qtO 12 #[] (.bool true), lqTl V.n 80 true, lqTl V.m 20 true, rnO 14 #[.int .i64 n, vc, .bool true] (h0Tl o1 o2 o3 V) (tpV 5 6 V.Nt V.M) [opB V.co, iB V.cu],
      rnO 15 #[V.raw] (h1Tl o1 o2 o3 V) (.bool r) [], rnO 16 #[V.raw] (h1Tl o1 o2 o3 V) (.bool r) [], rnO 15 #[tpV 5 6 V.Nt V.M] (h1Tl o1 o2 o3 V) (.bool true) [],
      wiTl at' V.M V.k, wiTl w 8 7] ++ [rnO 15 #[(.agg #[.int .i64 V.Nt, .slice (some ⟨3, 0, none⟩) L L, .slice (some ⟨4, 0, none⟩) V.Nt V.Nt])] (HLT o1 o2 o3 V.Nt L co V.cu) (.bool b) [], rnO 16 #[(.agg #[.int .i64 V.Nt, .slice (some ⟨3, 0, none⟩) L L, .slice (some ⟨4, 0, none⟩) V.Nt V.Nt])] (HLT o1 o2 o3 V.Nt L co V.cu) (.bool b) []], [(bodyT7, (139, [.int .i64 v, ptT 7], [some o1, some o2, some o3, some (opB V.co), some (iB V.cu), some (tcB 5 V.Nt V.M)]), (.exit 1, tmA 139 (LT7 v), (HLT o1 o2 o3 V.Nt L co V.cu).toArray))]) := by cases r <;> cases b <;> kernel_rfl

end Go.Proofs.Ytpmdpbljgidllaa
