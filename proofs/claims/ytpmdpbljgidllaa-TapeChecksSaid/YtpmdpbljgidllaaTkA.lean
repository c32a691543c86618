/- tape.Check and the document's Check of any tape: a round of each loop, the run about them. -/
import Derived.Test.YtpmdpbljgidllaaTpK
import Derived.Test.YtpmdpbljgidllaaGenT
import Derived.Test.YtpmdpbljgidllaaHget
namespace Go.Proofs.Ytpmdpbljgidllaa
open Go
set_option linter.unusedVariables false
set_option linter.unusedSimpArgs false
set_option maxRecDepth 100000

def tvT (N : Int) (a : Option Addr) (n ca : Nat) (b : Option Addr) (m cb : Nat) : Value := .agg #[.int .i64 N, .slice a n ca, .slice b m cb]
def bxT (N : Int) (a : Option Addr) (n ca : Nat) (b : Option Addr) (m cb : Nat) : Option ABlk := some ⟨#[.int .i64 N, .slice a n ca, .slice b m cb], 25, 0, true⟩
def ptT (b : Nat) : Value := .pointer (some ⟨b, 0, none⟩)
def vaT (v : Value) : Ans := ⟨fun _ => v, []⟩
noncomputable def askTc (g : FuncId) : Nat := if [39, 40].contains g then 1 else if [34, 35, 42, 51, 52, 58].contains (g - 1000000) && Nat.ble 1000000 g then 7 else 0
noncomputable def askRc (g : FuncId) : Nat := if g == 41 then 1 else if [33, 37, 38, 50, 54, 55, 61, 62].contains (g - 1000000) && Nat.ble 1000000 g then 7 else 0
def cmTc : BinOp → Value → Value → Bool
  | .lss, .int _ _, _ => true
  | .gtr, .int _ _, _ => true
  | .neq, .int _ _, _ => true
  | .geq, .int _ _, _ => true
  | _, _, _ => false
noncomputable def cpT (op : BinOp) (a b : Int) (c : Bool) : Obl := .cmp op 3 (.int .i64 a) (.int .i64 b) c
noncomputable def adT (k : Int) : Obl := .ex (pureV Try.prog (binOp .add 3 (.int .i64 k) (.int .i64 1)) = some (.int .i64 (k + 1)))
noncomputable def ixO (a : Option Addr) (n ca : Nat) (k : Int) (p : Addr) : Obl := .ex (indexAddrV Try.prog 22 (.slice a n ca) (.int .i64 k) = some (.pointer (some p)))
noncomputable def ixU (a : Option Addr) (n ca : Nat) (k : Int) (p : Addr) : Obl := .ex (indexAddrV Try.prog 23 (.slice a n ca) (.int .i64 k) = some (.pointer (some p)))
noncomputable def rdO (H : List (Option ABlk)) (p : Addr) (v : Value) : Obl := .ex (readVar Try.prog H.toArray 32 p = some v)
noncomputable def rdU (H : List (Option ABlk)) (p : Addr) (x : Int) : Obl := .ex (readVar Try.prog H.toArray 3 p = some (.int .i64 x))
def HTc (c0 c1 : Option ABlk) (N : Int) (a : Option Addr) (n ca : Nat) (b : Option Addr) (m cb : Nat) : List (Option ABlk) := [c0, c1, bxT N a n ca b m cb]
noncomputable def bodyTa : Code := bodyG Try.prog 15 0
noncomputable def bodyTb : Code := bodyG Try.prog 15 1
noncomputable def bodyRa : Code := bodyG Try.prog 16 0
noncomputable def bodyRb : Code := bodyG Try.prog 16 1
def LTa (a : Option Addr) (n ca : Nat) (k : Int) : List (Nat × Value) := [(1, ptT 2), (29, .slice a n ca), (30, .int .i64 n), (31, .int .i64 k)]
def LTb (N k : Int) : List (Nat × Value) := [(1, ptT 2), (44, .int .i64 N), (45, .int .i64 k)]
def LRa (k : Int) : List (Nat × Value) := [(1, ptT 2), (3, .int .i64 k)]
def LRb (k : Int) : List (Nat × Value) := [(1, ptT 2), (4, .int .i64 k)]
def LNo : List (Nat × Value) := [(2, .bool false)]
theorem okTa : codeOk q1 bodyTa = true := by kernel_rfl
theorem okTb : codeOk q1 bodyTb = true := by kernel_rfl
theorem okRa : codeOk q1 bodyRa = true := by kernel_rfl
theorem okRb : codeOk q1 bodyRb = true := by kernel_rfl
theorem rdTa_t (c0 c1 : Option ABlk) (N : Int) (a : Option Addr) (n ca : Nat) (b : Option Addr) (m cb : Nat) (k : Int) (p : Addr) (K A B : Int) (C : Nat) : (rndT askTc cmTc bodyTa (tmA 59 (LTa a n ca k)) (HTc c0 c1 N a n ca b m cb).toArray ([yes true, vaT (.pointer (some p)), vaT (opV K A B C), yes true, isI (k + 1)]) []).map (fun r => (r.1, slG [1, 29, 30, 31] [0, 1, 2] r.2.1 r.2.2.1, r.2.2.2)) =
    some (.normal, (59, [ptT 2, .slice a n ca, .int .i64 n, .int .i64 (k + 1)], [some c0, some c1, some (bxT N a n ca b m cb)]), [cpT .lss k n true, ixO a n ca k p, rdO (HTc c0 c1 N a n ca b m cb) p (opV K A B C), qtO 39 #[(opV K A B C), .int .i64 k, .int .i64 N] (.bool true), adT k], []) := by kernel_rfl
theorem rdTa_f (c0 c1 : Option ABlk) (N : Int) (a : Option Addr) (n ca : Nat) (b : Option Addr) (m cb : Nat) (k : Int) (p : Addr) (K A B : Int) (C : Nat) : (rndT askTc cmTc bodyTa (tmA 59 (LTa a n ca k)) (HTc c0 c1 N a n ca b m cb).toArray ([yes true, vaT (.pointer (some p)), vaT (opV K A B C), yes false]) []).map (fun r => (r.1, slG [2] [0, 1] r.2.1 r.2.2.1, r.2.2.2)) =
    some (.ret, (59, [.bool false], [some c0, some c1]), [cpT .lss k n true, ixO a n ca k p, rdO (HTc c0 c1 N a n ca b m cb) p (opV K A B C), qtO 39 #[(opV K A B C), .int .i64 k, .int .i64 N] (.bool false)], []) := by kernel_rfl
theorem rdTa_e (c0 c1 : Option ABlk) (N : Int) (a : Option Addr) (n ca : Nat) (b : Option Addr) (m cb : Nat) (k : Int) : (rndT askTc cmTc bodyTa (tmA 59 (LTa a n ca k)) (HTc c0 c1 N a n ca b m cb).toArray ([yes false]) []).map (fun r => (r.1, slG [1, 29, 30, 31] [0, 1, 2] r.2.1 r.2.2.1, r.2.2.2)) =
    some (.exit 0, (59, [ptT 2, .slice a n ca, .int .i64 n, .int .i64 k], [some c0, some c1, some (bxT N a n ca b m cb)]), [cpT .lss k n false], []) := by kernel_rfl
theorem rdTb_t (c0 c1 : Option ABlk) (N : Int) (a : Option Addr) (n ca : Nat) (b : Option Addr) (m cb : Nat) (k : Int) (p : Addr) (x : Int) : (rndT askTc cmTc bodyTb (tmA 59 (LTb N k)) (HTc c0 c1 N a n ca b m cb).toArray ([yes true, vaT (.pointer (some p)), isI x, yes true, isI (k + 1)]) []).map (fun r => (r.1, slG [1, 44, 45] [0, 1, 2] r.2.1 r.2.2.1, r.2.2.2)) =
    some (.normal, (59, [ptT 2, .int .i64 N, .int .i64 (k + 1)], [some c0, some c1, some (bxT N a n ca b m cb)]), [cpT .lss k N true, ixU b m cb k p, rdU (HTc c0 c1 N a n ca b m cb) p x, qtO 40 #[.int .i64 x, .int .i64 n] (.bool true), adT k], []) := by kernel_rfl
theorem rdTb_f (c0 c1 : Option ABlk) (N : Int) (a : Option Addr) (n ca : Nat) (b : Option Addr) (m cb : Nat) (k : Int) (p : Addr) (x : Int) : (rndT askTc cmTc bodyTb (tmA 59 (LTb N k)) (HTc c0 c1 N a n ca b m cb).toArray ([yes true, vaT (.pointer (some p)), isI x, yes false]) []).map (fun r => (r.1, slG [2] [0, 1] r.2.1 r.2.2.1, r.2.2.2)) =
    some (.ret, (59, [.bool false], [some c0, some c1]), [cpT .lss k N true, ixU b m cb k p, rdU (HTc c0 c1 N a n ca b m cb) p x, qtO 40 #[.int .i64 x, .int .i64 n] (.bool false)], []) := by kernel_rfl
theorem rdTb_e (c0 c1 : Option ABlk) (N : Int) (a : Option Addr) (n ca : Nat) (b : Option Addr) (m cb : Nat) (k : Int) : (rndT askTc cmTc bodyTb (tmA 59 (LTb N k)) (HTc c0 c1 N a n ca b m cb).toArray ([yes false]) []).map (fun r => (r.1, slG [1, 44, 45] [0, 1, 2] r.2.1 r.2.2.1, r.2.2.2)) =
    some (.exit 2, (59, [ptT 2, .int .i64 N, .int .i64 k], [some c0, some c1, some (bxT N a n ca b m cb)]), [cpT .lss k N false], []) := by kernel_rfl
theorem rdRa_t (c0 c1 : Option ABlk) (N : Int) (a : Option Addr) (n ca : Nat) (b : Option Addr) (m cb : Nat) (k : Int) (p : Addr) (K A B : Int) (C : Nat) : (rndT askRc cmTc bodyRa (tmA 68 (LRa k)) (HTc c0 c1 N a n ca b m cb).toArray ([yes true, vaT (.pointer (some p)), vaT (opV K A B C), yes true, isI (k + 1)]) []).map (fun r => (r.1, slG [1, 3] [0, 1, 2] r.2.1 r.2.2.1, r.2.2.2)) =
    some (.normal, (68, [ptT 2, .int .i64 (k + 1)], [some c0, some c1, some (bxT N a n ca b m cb)]), [cpT .lss k n true, ixO a n ca k p, rdO (HTc c0 c1 N a n ca b m cb) p (opV K A B C), qtO 41 #[(opV K A B C), .int .i64 k, .int .i64 N] (.bool true), adT k], []) := by kernel_rfl
theorem rdRa_f (c0 c1 : Option ABlk) (N : Int) (a : Option Addr) (n ca : Nat) (b : Option Addr) (m cb : Nat) (k : Int) (p : Addr) (K A B : Int) (C : Nat) : (rndT askRc cmTc bodyRa (tmA 68 (LRa k)) (HTc c0 c1 N a n ca b m cb).toArray ([yes true, vaT (.pointer (some p)), vaT (opV K A B C), yes false]) []).map (fun r => (r.1, slG [2] [0, 1] r.2.1 r.2.2.1, r.2.2.2)) =
    some (.ret, (68, [.bool false], [some c0, some c1]), [cpT .lss k n true, ixO a n ca k p, rdO (HTc c0 c1 N a n ca b m cb) p (opV K A B C), qtO 41 #[(opV K A B C), .int .i64 k, .int .i64 N] (.bool false)], []) := by kernel_rfl
theorem rdRa_e (c0 c1 : Option ABlk) (N : Int) (a : Option Addr) (n ca : Nat) (b : Option Addr) (m cb : Nat) (k : Int) : (rndT askRc cmTc bodyRa (tmA 68 (LRa k)) (HTc c0 c1 N a n ca b m cb).toArray ([yes false]) []).map (fun r => (r.1, slG [1, 3] [0, 1, 2] r.2.1 r.2.2.1, r.2.2.2)) =
    some (.exit 0, (68, [ptT 2, .int .i64 k], [some c0, some c1, some (bxT N a n ca b m cb)]), [cpT .lss k n false], []) := by kernel_rfl
theorem rdRb_t (c0 c1 : Option ABlk) (N : Int) (a : Option Addr) (n ca : Nat) (b : Option Addr) (m cb : Nat) (k : Int) (p : Addr) (x : Int) : (rndT askRc cmTc bodyRb (tmA 68 (LRb k)) (HTc c0 c1 N a n ca b m cb).toArray ([yes true, vaT (.pointer (some p)), isI x, yes false, vaT (.pointer (some p)), isI x, yes false, isI (k + 1)]) []).map (fun r => (r.1, slG [1, 4] [0, 1, 2] r.2.1 r.2.2.1, r.2.2.2)) =
    some (.normal, (68, [ptT 2, .int .i64 (k + 1)], [some c0, some c1, some (bxT N a n ca b m cb)]), [cpT .lss k m true, ixU b m cb k p, rdU (HTc c0 c1 N a n ca b m cb) p x, cpT .lss x 0 false, ixU b m cb k p, rdU (HTc c0 c1 N a n ca b m cb) p x, cpT .geq x n false, adT k], []) := by kernel_rfl
theorem rdRb_f (c0 c1 : Option ABlk) (N : Int) (a : Option Addr) (n ca : Nat) (b : Option Addr) (m cb : Nat) (k : Int) (p : Addr) (x : Int) : (rndT askRc cmTc bodyRb (tmA 68 (LRb k)) (HTc c0 c1 N a n ca b m cb).toArray ([yes true, vaT (.pointer (some p)), isI x, yes true]) []).map (fun r => (r.1, slG [2] [0, 1] r.2.1 r.2.2.1, r.2.2.2)) =
    some (.ret, (68, [.bool false], [some c0, some c1]), [cpT .lss k m true, ixU b m cb k p, rdU (HTc c0 c1 N a n ca b m cb) p x, cpT .lss x 0 true], []) := by kernel_rfl
theorem rdRb_g (c0 c1 : Option ABlk) (N : Int) (a : Option Addr) (n ca : Nat) (b : Option Addr) (m cb : Nat) (k : Int) (p : Addr) (x : Int) : (rndT askRc cmTc bodyRb (tmA 68 (LRb k)) (HTc c0 c1 N a n ca b m cb).toArray ([yes true, vaT (.pointer (some p)), isI x, yes false, vaT (.pointer (some p)), isI x, yes true]) []).map (fun r => (r.1, slG [2] [0, 1] r.2.1 r.2.2.1, r.2.2.2)) =
    some (.ret, (68, [.bool false], [some c0, some c1]), [cpT .lss k m true, ixU b m cb k p, rdU (HTc c0 c1 N a n ca b m cb) p x, cpT .lss x 0 false, ixU b m cb k p, rdU (HTc c0 c1 N a n ca b m cb) p x, cpT .geq x n true], []) := by kernel_rfl
theorem rdRb_e (c0 c1 : Option ABlk) (N : Int) (a : Option Addr) (n ca : Nat) (b : Option Addr) (m cb : Nat) (k : Int) : (rndT askRc cmTc bodyRb (tmA 68 (LRb k)) (HTc c0 c1 N a n ca b m cb).toArray ([yes false]) []).map (fun r => (r.1, slG [1, 4] [0, 1, 2] r.2.1 r.2.2.1, r.2.2.2)) =
    some (.exit 2, (68, [ptT 2, .int .i64 k], [some c0, some c1, some (bxT N a n ca b m cb)]), [cpT .lss k m false], []) := by kernel_rfl
theorem runT_0 (c0 c1 : Option ABlk) (N : Int) (a : Option Addr) (n ca : Nat) (b : Option Addr) (m cb : Nat) : (askT askTc cmTc 15 #[tvT N a n ca b m cb] #[c0, c1] [yes true] []).map (fun r => (r.1, r.2.2.1, slL [] r.2.2.2)) = some (.bool false, [cpT .lss N 1 true], []) := by kernel_rfl
theorem runT_1 (c0 c1 : Option ABlk) (N : Int) (a : Option Addr) (n ca : Nat) (b : Option Addr) (m cb : Nat) : (askT askTc cmTc 15 #[tvT N a n ca b m cb] #[c0, c1] [yes false, yes true] []).map (fun r => (r.1, r.2.2.1, slL [] r.2.2.2)) = some (.bool false, [cpT .lss N 1 false, cpT .gtr N 4 true], []) := by kernel_rfl
theorem runT_2 (c0 c1 : Option ABlk) (N : Int) (a : Option Addr) (n ca : Nat) (b : Option Addr) (m cb : Nat) : (askT askTc cmTc 15 #[tvT N a n ca b m cb] #[c0, c1] [yes false, yes false, yes true] []).map (fun r => (r.1, r.2.2.1, slL [] r.2.2.2)) = some (.bool false, [cpT .lss N 1 false, cpT .gtr N 4 false, cpT .gtr n 60 true], []) := by kernel_rfl
theorem runT_3 (c0 c1 : Option ABlk) (N : Int) (a : Option Addr) (n ca : Nat) (b : Option Addr) (m cb : Nat) : (askT askTc cmTc 15 #[tvT N a n ca b m cb] #[c0, c1] [yes false, yes false, yes false, yes true] []).map (fun r => (r.1, r.2.2.1, slL [] r.2.2.2)) = some (.bool false, [cpT .lss N 1 false, cpT .gtr N 4 false, cpT .gtr n 60 false, cpT .neq m N true], []) := by kernel_rfl
theorem runT_4 (c0 c1 : Option ABlk) (N : Int) (a : Option Addr) (n ca : Nat) (b : Option Addr) (m cb : Nat) : (askT askTc cmTc 15 #[tvT N a n ca b m cb] #[c0, c1] [yes false, yes false, yes false, yes false] [some ⟨.ret, tmA 59 LNo, [c0, c1].toArray⟩]).map (fun r => (r.1, r.2.2.1, slL [([1, 29, 30, 31], [0, 1, 2])] r.2.2.2)) =
    some (.bool false, [cpT .lss N 1 false, cpT .gtr N 4 false, cpT .gtr n 60 false, cpT .neq m N false], [(bodyTa, (59, [ptT 2, .slice a n ca, .int .i64 n, .int .i64 0], [some c0, some c1, some (bxT N a n ca b m cb)]), (.ret, tmA 59 LNo, [c0, c1].toArray))]) := by kernel_rfl
theorem runT_5 (c0 c1 : Option ABlk) (N : Int) (a : Option Addr) (n ca : Nat) (b : Option Addr) (m cb : Nat) : (askT askTc cmTc 15 #[tvT N a n ca b m cb] #[c0, c1] [yes false, yes false, yes false, yes false] [some ⟨.exit 0, tmA 59 (LTa a n ca n), (HTc c0 c1 N a n ca b m cb).toArray⟩, some ⟨.ret, tmA 59 LNo, [c0, c1].toArray⟩]).map (fun r => (r.1, r.2.2.1, slL [([1, 29, 30, 31], [0, 1, 2]), ([1, 44, 45], [0, 1, 2])] r.2.2.2)) =
    some (.bool false, [cpT .lss N 1 false, cpT .gtr N 4 false, cpT .gtr n 60 false, cpT .neq m N false], [(bodyTa, (59, [ptT 2, .slice a n ca, .int .i64 n, .int .i64 0], [some c0, some c1, some (bxT N a n ca b m cb)]), (.exit 0, tmA 59 (LTa a n ca n), (HTc c0 c1 N a n ca b m cb).toArray)), (bodyTb, (59, [ptT 2, .int .i64 N, .int .i64 0], [some c0, some c1, some (bxT N a n ca b m cb)]), (.ret, tmA 59 LNo, [c0, c1].toArray))]) := by kernel_rfl
theorem runT_6 (c0 c1 : Option ABlk) (N : Int) (a : Option Addr) (n ca : Nat) (b : Option Addr) (m cb : Nat) : (askT askTc cmTc 15 #[tvT N a n ca b m cb] #[c0, c1] [yes false, yes false, yes false, yes false] [some ⟨.exit 0, tmA 59 (LTa a n ca n), (HTc c0 c1 N a n ca b m cb).toArray⟩, some ⟨.exit 2, tmA 59 (LTb N N), (HTc c0 c1 N a n ca b m cb).toArray⟩]).map (fun r => (r.1, r.2.2.1, slL [([1, 29, 30, 31], [0, 1, 2]), ([1, 44, 45], [0, 1, 2])] r.2.2.2)) =
    some (.bool true, [cpT .lss N 1 false, cpT .gtr N 4 false, cpT .gtr n 60 false, cpT .neq m N false], [(bodyTa, (59, [ptT 2, .slice a n ca, .int .i64 n, .int .i64 0], [some c0, some c1, some (bxT N a n ca b m cb)]), (.exit 0, tmA 59 (LTa a n ca n), (HTc c0 c1 N a n ca b m cb).toArray)), (bodyTb, (59, [ptT 2, .int .i64 N, .int .i64 0], [some c0, some c1, some (bxT N a n ca b m cb)]), (.exit 2, tmA 59 (LTb N N), (HTc c0 c1 N a n ca b m cb).toArray))]) := by kernel_rfl
theorem runR_0 (c0 c1 : Option ABlk) (N : Int) (a : Option Addr) (n ca : Nat) (b : Option Addr) (m cb : Nat) : (askT askRc cmTc 16 #[tvT N a n ca b m cb] #[c0, c1] [yes true] []).map (fun r => (r.1, r.2.2.1, slL [] r.2.2.2)) = some (.bool false, [cpT .lss N 1 true], []) := by kernel_rfl
theorem runR_1 (c0 c1 : Option ABlk) (N : Int) (a : Option Addr) (n ca : Nat) (b : Option Addr) (m cb : Nat) : (askT askRc cmTc 16 #[tvT N a n ca b m cb] #[c0, c1] [yes false, yes true] []).map (fun r => (r.1, r.2.2.1, slL [] r.2.2.2)) = some (.bool false, [cpT .lss N 1 false, cpT .gtr N 4 true], []) := by kernel_rfl
theorem runR_2 (c0 c1 : Option ABlk) (N : Int) (a : Option Addr) (n ca : Nat) (b : Option Addr) (m cb : Nat) : (askT askRc cmTc 16 #[tvT N a n ca b m cb] #[c0, c1] [yes false, yes false, yes true] []).map (fun r => (r.1, r.2.2.1, slL [] r.2.2.2)) = some (.bool false, [cpT .lss N 1 false, cpT .gtr N 4 false, cpT .gtr n 60 true], []) := by kernel_rfl
theorem runR_3 (c0 c1 : Option ABlk) (N : Int) (a : Option Addr) (n ca : Nat) (b : Option Addr) (m cb : Nat) : (askT askRc cmTc 16 #[tvT N a n ca b m cb] #[c0, c1] [yes false, yes false, yes false, yes true] []).map (fun r => (r.1, r.2.2.1, slL [] r.2.2.2)) = some (.bool false, [cpT .lss N 1 false, cpT .gtr N 4 false, cpT .gtr n 60 false, cpT .neq m N true], []) := by kernel_rfl
theorem runR_4 (c0 c1 : Option ABlk) (N : Int) (a : Option Addr) (n ca : Nat) (b : Option Addr) (m cb : Nat) : (askT askRc cmTc 16 #[tvT N a n ca b m cb] #[c0, c1] [yes false, yes false, yes false, yes false] [some ⟨.ret, tmA 68 LNo, [c0, c1].toArray⟩]).map (fun r => (r.1, r.2.2.1, slL [([1, 3], [0, 1, 2])] r.2.2.2)) =
    some (.bool false, [cpT .lss N 1 false, cpT .gtr N 4 false, cpT .gtr n 60 false, cpT .neq m N false], [(bodyRa, (68, [ptT 2, .int .i64 0], [some c0, some c1, some (bxT N a n ca b m cb)]), (.ret, tmA 68 LNo, [c0, c1].toArray))]) := by kernel_rfl
theorem runR_5 (c0 c1 : Option ABlk) (N : Int) (a : Option Addr) (n ca : Nat) (b : Option Addr) (m cb : Nat) : (askT askRc cmTc 16 #[tvT N a n ca b m cb] #[c0, c1] [yes false, yes false, yes false, yes false] [some ⟨.exit 0, tmA 68 (LRa n), (HTc c0 c1 N a n ca b m cb).toArray⟩, some ⟨.ret, tmA 68 LNo, [c0, c1].toArray⟩]).map (fun r => (r.1, r.2.2.1, slL [([1, 3], [0, 1, 2]), ([1, 4], [0, 1, 2])] r.2.2.2)) =
    some (.bool false, [cpT .lss N 1 false, cpT .gtr N 4 false, cpT .gtr n 60 false, cpT .neq m N false], [(bodyRa, (68, [ptT 2, .int .i64 0], [some c0, some c1, some (bxT N a n ca b m cb)]), (.exit 0, tmA 68 (LRa n), (HTc c0 c1 N a n ca b m cb).toArray)), (bodyRb, (68, [ptT 2, .int .i64 0], [some c0, some c1, some (bxT N a n ca b m cb)]), (.ret, tmA 68 LNo, [c0, c1].toArray))]) := by kernel_rfl
theorem runR_6 (c0 c1 : Option ABlk) (N : Int) (a : Option Addr) (n ca : Nat) (b : Option Addr) (m cb : Nat) : (askT askRc cmTc 16 #[tvT N a n ca b m cb] #[c0, c1] [yes false, yes false, yes false, yes false] [some ⟨.exit 0, tmA 68 (LRa n), (HTc c0 c1 N a n ca b m cb).toArray⟩, some ⟨.exit 2, tmA 68 (LRb m), (HTc c0 c1 N a n ca b m cb).toArray⟩]).map (fun r => (r.1, r.2.2.1, slL [([1, 3], [0, 1, 2]), ([1, 4], [0, 1, 2])] r.2.2.2)) =
    some (.bool true, [cpT .lss N 1 false, cpT .gtr N 4 false, cpT .gtr n 60 false, cpT .neq m N false], [(bodyRa, (68, [ptT 2, .int .i64 0], [some c0, some c1, some (bxT N a n ca b m cb)]), (.exit 0, tmA 68 (LRa n), (HTc c0 c1 N a n ca b m cb).toArray)), (bodyRb, (68, [ptT 2, .int .i64 0], [some c0, some c1, some (bxT N a n ca b m cb)]), (.exit 2, tmA 68 (LRb m), (HTc c0 c1 N a n ca b m cb).toArray))]) := by kernel_rfl

end Go.Proofs.Ytpmdpbljgidllaa
