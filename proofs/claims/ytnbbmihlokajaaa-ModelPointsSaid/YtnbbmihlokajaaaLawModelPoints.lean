/- MdPa / MdPb / MdPc / MdFl / MdPd / LawModelPoints: several texts in one. -/
import Derived.Test.YtnbbmihlokajaaaMdL
import Derived.Test.YtnbbmihlokajaaaTpMonoB
import Derived.Test.YtnbbmihlokajaaaLdexp
/-!  The law ModelPoints: its loops' rounds, at any number of operations; the run about its rounds. -/
namespace Go.Proofs.Ytnbbmihlokajaaa
open Go
set_option linter.unusedVariables false
set_option linter.unusedSimpArgs false
set_option maxRecDepth 100000

noncomputable def askPt (g : FuncId) : Nat := if [15, 44, 41, 24, 46, 18, 48, 49, 20].contains g then 1 else
  if [47, 54, 55, 56, 58, 59, 86, 93, 97, 98, 106, 107, 111, 112, 114, 121, 129, 130, 131, 139, 140, 144, 145, 147, 155, 156, 160, 161, 163, 166, 167, 182, 183, 184].contains (g - 1000000) && Nat.ble 1000000 g then 7 else 0
def cmP : BinOp → Value → Value → Bool
  | .lss, .int _ _, _ => true
  | .lss, .float _ _, _ => true
  | _, _, _ => false
noncomputable def bodyPa : Code := bodyG Try.prog 14 1
noncomputable def bodyPb : Code := bodyG Try.prog 14 3
theorem okPa : codeOk q1 bodyPa = true := by kernel_rfl
theorem okPb : codeOk q1 bodyPb = true := by kernel_rfl
def opsL (l : List OpD) : Option ABlk := opB (l.flatMap opC).toArray

/-! the operations' numbers, floored -/
def LPa (N : Nat) (k : Int) : List (Nat × Value) := [(7, ptM 4), (8, slV 5 N), (10, .int .i64 k)]
def HPa (b1 b2 : Option ABlk) (N M : Nat) (l : List OpD) (cu : Array Value) (xB : Option ABlk) : List (Option ABlk) := [b1, b2, opsL l, iB cu, tcB 2 N M, xB]
def outPa (b1 b2 : Option ABlk) (N M : Nat) (l : List OpD) (cu : Array Value) (xB : Option ABlk) (k : Int) : SlM := (192, [ptM 4, slV 5 N, .int .i64 k], (HPa b1 b2 N M l cu xB).map some)
noncomputable def runPa (b1 b2 : Option ABlk) (N M : Nat) (l : List OpD) (cu : Array Value) (xB : Option ABlk) (k : Int) (s : List Ans) : Option (AExit × SlM × List Obl × List LpO) :=
  (rndB askPt cmP bodyPa (tmA 192 (LPa N k)) (HPa b1 b2 N M l cu xB).toArray s []).map fun r => (r.1, slG [7, 8, 10] [0, 1, 2, 3, 4, 5] r.2.1 r.2.2.1, r.2.2.2)
theorem rdPa (b1 b2 : Option ABlk) (N M : Nat) (l l2 : List OpD) (cu : Array Value) (xB : Option ABlk) (k k1 : Int) (p1 p2 p3 p4 : Addr) (c f : Nat) :
  runPa b1 b2 N M l cu xB k [yes true, aM (.pointer (some p1)), aM (.pointer (some p2)), aM (.float .f64 c), aM (.float .f64 f), aM (.pointer (some p3)), aM (.pointer (some p4)), hpA undef (HPa b1 b2 N M l2 cu xB), aM (.int .i64 k1)] =
  some (.normal, outPa b1 b2 N M l2 cu xB k1, [.cmp .lss 3 (.int .i64 k) (.int .i64 M) true, .ex (indexAddrV Try.prog 58 (.slice (some ⟨2, 0, none⟩) M M) (.int .i64 k) = some (.pointer (some p1))), .ex (fieldAddrV Try.prog 68 (.pointer (some p1)) 3 = some (.pointer (some p2))),
    .ex (readVar Try.prog (HPa b1 b2 N M l cu xB).toArray 24 p2 = some (.float .f64 c)), qtO 48 #[.float .f64 c] (.float .f64 f),
    .ex (indexAddrV Try.prog 58 (.slice (some ⟨2, 0, none⟩) M M) (.int .i64 k) = some (.pointer (some p3))), .ex (fieldAddrV Try.prog 68 (.pointer (some p3)) 3 = some (.pointer (some p4))),
    .ex (writeVar Try.prog (HPa b1 b2 N M l cu xB).toArray 24 p4 (.float .f64 f) = some (HPa b1 b2 N M l2 cu xB).toArray), .ex (pureV Try.prog (binOp .add 3 (.int .i64 k) (.int .i64 1)) = some (.int .i64 k1))], []) := by kernel_rfl
theorem rdPaEnd (b1 b2 : Option ABlk) (N M : Nat) (l : List OpD) (cu : Array Value) (xB : Option ABlk) (k : Int) :
  runPa b1 b2 N M l cu xB k [yes false] = some (.exit 2, outPa b1 b2 N M l cu xB k, [.cmp .lss 3 (.int .i64 k) (.int .i64 M) false], []) := by kernel_rfl

/-! the registers -/
def LPb (N M : Nat) (k : Int) : List (Nat × Value) := [(7, ptM 4), (8, slV 5 N), (13, slV 6 N), (14, slV 7 M), (15, .int .i64 k)]
def HPb (b1 b2 : Option ABlk) (N M : Nat) (l : List OpD) (cu : Array Value) (xB yB : Option ABlk) (r : List Nat) : List (Option ABlk) := [b1, b2, opsL l, iB cu, tcB 2 N M, xB, yB, nwF r]
def outPb (b1 b2 : Option ABlk) (N M : Nat) (l : List OpD) (cu : Array Value) (xB yB : Option ABlk) (r : List Nat) (k : Int) : SlM := (192, [ptM 4, slV 5 N, slV 6 N, slV 7 M, .int .i64 k], (HPb b1 b2 N M l cu xB yB r).map some)
def outPr (b1 b2 : Option ABlk) : SlM := (192, [.bool true], [some b1, some b2])
noncomputable def runPb (b1 b2 : Option ABlk) (N M : Nat) (l : List OpD) (cu : Array Value) (xB yB : Option ABlk) (r : List Nat) (k : Int) (s : List Ans) : Option (AExit × SlM × List Obl × List LpO) :=
  (rndB askPt cmP bodyPb (tmA 192 (LPb N M k)) (HPb b1 b2 N M l cu xB yB r).toArray s []).map fun r => (r.1, slG [7, 8, 13, 14, 15] [0, 1, 2, 3, 4, 5, 6, 7] r.2.1 r.2.2.1, r.2.2.2)
noncomputable def runPr (b1 b2 : Option ABlk) (N M : Nat) (l : List OpD) (cu : Array Value) (xB yB : Option ABlk) (r : List Nat) (k : Int) (s : List Ans) : Option (AExit × SlM × List Obl × List LpO) :=
  (rndB askPt cmP bodyPb (tmA 192 (LPb N M k)) (HPb b1 b2 N M l cu xB yB r).toArray s []).map fun r => (r.1, slG [6] [0, 1] r.2.1 r.2.2.1, r.2.2.2)
noncomputable def lgPh (H : List (Option ABlk)) (M : Nat) (k : Int) (po : Addr) (op : Value) : List Obl :=
  [.cmp .lss 3 (.int .i64 k) (.int .i64 M) true, .ex (indexAddrV Try.prog 58 (.slice (some ⟨2, 0, none⟩) M M) (.int .i64 k) = some (.pointer (some po))), .ex (readVar Try.prog H.toArray 68 po = some op)]
noncomputable def lgPx (H : List (Option ABlk)) (x : Value) (A : Int) (pa : Addr) (a : Nat) : List Obl :=
  [.ex (indexAddrV Try.prog 37 x (.int .i64 A) = some (.pointer (some pa))), .ex (readVar Try.prog H.toArray 24 pa = some (.float .f64 a))]
noncomputable def lgPw (H H2 : List (Option ABlk)) (M : Nat) (k : Int) (pk pl : Addr) (v u ab : Nat) (t : Bool) : List Obl :=
  [.ex (indexAddrV Try.prog 37 (slV 7 M) (.int .i64 k) = some (.pointer (some pk))), .ex (writeVar Try.prog H.toArray 24 pk (.float .f64 v) = some H2.toArray)] ++ lgPx H2 (slV 7 M) k pl u ++ [qtO 49 #[.float .f64 u] (.float .f64 ab), .cmp .lss 24 (.float .f64 ab) (.float .f64 4832362400168542208) t]
noncomputable def lgPn (k k1 : Int) : List Obl := [.ex (pureV Try.prog (binOp .add 3 (.int .i64 k) (.int .i64 1)) = some (.int .i64 k1))]
theorem rdPb_0 (b1 b2 : Option ABlk) (N M : Nat) (l : List OpD) (cu : Array Value) (xB yB : Option ABlk) (r r2 : List Nat) (k k1 : Int) (A B : Int) (C a b u ab : Nat) (po pa pb pk pl : Addr) :
  runPb b1 b2 N M l cu xB yB r k ([yes true, aM (.pointer (some po)), aM (opV 0 A B C), aM (.pointer (some pk)), hpA undef (HPb b1 b2 N M l cu xB yB r2 ++ [obE 0 A B C]), aM (.pointer (some pl)), aM (.float .f64 u), aM (.float .f64 ab), yes true, aM (.int .i64 k1)]) = some (.normal, outPb b1 b2 N M l cu xB yB r2 k1, lgPh (HPb b1 b2 N M l cu xB yB r) M k po (opV 0 A B C) ++ lgPw (HPb b1 b2 N M l cu xB yB r ++ [obE 0 A B C]) (HPb b1 b2 N M l cu xB yB r2 ++ [obE 0 A B C]) M k pk pl C u ab true ++ lgPn k k1, []) := by kernel_rfl
theorem rdPr_0 (b1 b2 : Option ABlk) (N M : Nat) (l : List OpD) (cu : Array Value) (xB yB : Option ABlk) (r r2 : List Nat) (k k1 : Int) (A B : Int) (C a b u ab : Nat) (po pa pb pk pl : Addr) :
  runPr b1 b2 N M l cu xB yB r k ([yes true, aM (.pointer (some po)), aM (opV 0 A B C), aM (.pointer (some pk)), hpA undef (HPb b1 b2 N M l cu xB yB r2 ++ [obE 0 A B C]), aM (.pointer (some pl)), aM (.float .f64 u), aM (.float .f64 ab), yes false]) = some (.ret, outPr b1 b2, lgPh (HPb b1 b2 N M l cu xB yB r) M k po (opV 0 A B C) ++ lgPw (HPb b1 b2 N M l cu xB yB r ++ [obE 0 A B C]) (HPb b1 b2 N M l cu xB yB r2 ++ [obE 0 A B C]) M k pk pl C u ab false, []) := by kernel_rfl
theorem rdPb_1 (b1 b2 : Option ABlk) (N M : Nat) (l : List OpD) (cu : Array Value) (xB yB : Option ABlk) (r r2 : List Nat) (k k1 : Int) (A B : Int) (C a b u ab : Nat) (po pa pb pk pl : Addr) :
  runPb b1 b2 N M l cu xB yB r k ([yes true, aM (.pointer (some po)), aM (opV 1 A B C), aM (.pointer (some pa)), aM (.float .f64 a), aM (.pointer (some pk)), hpA undef (HPb b1 b2 N M l cu xB yB r2 ++ [obE 1 A B C]), aM (.pointer (some pl)), aM (.float .f64 u), aM (.float .f64 ab), yes true, aM (.int .i64 k1)]) = some (.normal, outPb b1 b2 N M l cu xB yB r2 k1, lgPh (HPb b1 b2 N M l cu xB yB r) M k po (opV 1 A B C) ++ lgPx (HPb b1 b2 N M l cu xB yB r ++ [obE 1 A B C]) (slV 5 N) A pa a ++ lgPw (HPb b1 b2 N M l cu xB yB r ++ [obE 1 A B C]) (HPb b1 b2 N M l cu xB yB r2 ++ [obE 1 A B C]) M k pk pl a u ab true ++ lgPn k k1, []) := by kernel_rfl
theorem rdPr_1 (b1 b2 : Option ABlk) (N M : Nat) (l : List OpD) (cu : Array Value) (xB yB : Option ABlk) (r r2 : List Nat) (k k1 : Int) (A B : Int) (C a b u ab : Nat) (po pa pb pk pl : Addr) :
  runPr b1 b2 N M l cu xB yB r k ([yes true, aM (.pointer (some po)), aM (opV 1 A B C), aM (.pointer (some pa)), aM (.float .f64 a), aM (.pointer (some pk)), hpA undef (HPb b1 b2 N M l cu xB yB r2 ++ [obE 1 A B C]), aM (.pointer (some pl)), aM (.float .f64 u), aM (.float .f64 ab), yes false]) = some (.ret, outPr b1 b2, lgPh (HPb b1 b2 N M l cu xB yB r) M k po (opV 1 A B C) ++ lgPx (HPb b1 b2 N M l cu xB yB r ++ [obE 1 A B C]) (slV 5 N) A pa a ++ lgPw (HPb b1 b2 N M l cu xB yB r ++ [obE 1 A B C]) (HPb b1 b2 N M l cu xB yB r2 ++ [obE 1 A B C]) M k pk pl a u ab false, []) := by kernel_rfl
theorem rdPb_2 (b1 b2 : Option ABlk) (N M : Nat) (l : List OpD) (cu : Array Value) (xB yB : Option ABlk) (r r2 : List Nat) (k k1 : Int) (A B : Int) (C a b u ab : Nat) (po pa pb pk pl : Addr) :
  runPb b1 b2 N M l cu xB yB r k ([yes true, aM (.pointer (some po)), aM (opV 2 A B C), aM (.pointer (some pa)), aM (.float .f64 a), aM (.pointer (some pb)), aM (.float .f64 b), aM (.pointer (some pk)), hpA undef (HPb b1 b2 N M l cu xB yB r2 ++ [obE 2 A B C]), aM (.pointer (some pl)), aM (.float .f64 u), aM (.float .f64 ab), yes true, aM (.int .i64 k1)]) = some (.normal, outPb b1 b2 N M l cu xB yB r2 k1, lgPh (HPb b1 b2 N M l cu xB yB r) M k po (opV 2 A B C) ++ lgPx (HPb b1 b2 N M l cu xB yB r ++ [obE 2 A B C]) (slV 7 M) A pa a ++ lgPx (HPb b1 b2 N M l cu xB yB r ++ [obE 2 A B C]) (slV 7 M) B pb b ++ lgPw (HPb b1 b2 N M l cu xB yB r ++ [obE 2 A B C]) (HPb b1 b2 N M l cu xB yB r2 ++ [obE 2 A B C]) M k pk pl (fop .add .f64 a b) u ab true ++ lgPn k k1, []) := by kernel_rfl
theorem rdPr_2 (b1 b2 : Option ABlk) (N M : Nat) (l : List OpD) (cu : Array Value) (xB yB : Option ABlk) (r r2 : List Nat) (k k1 : Int) (A B : Int) (C a b u ab : Nat) (po pa pb pk pl : Addr) :
  runPr b1 b2 N M l cu xB yB r k ([yes true, aM (.pointer (some po)), aM (opV 2 A B C), aM (.pointer (some pa)), aM (.float .f64 a), aM (.pointer (some pb)), aM (.float .f64 b), aM (.pointer (some pk)), hpA undef (HPb b1 b2 N M l cu xB yB r2 ++ [obE 2 A B C]), aM (.pointer (some pl)), aM (.float .f64 u), aM (.float .f64 ab), yes false]) = some (.ret, outPr b1 b2, lgPh (HPb b1 b2 N M l cu xB yB r) M k po (opV 2 A B C) ++ lgPx (HPb b1 b2 N M l cu xB yB r ++ [obE 2 A B C]) (slV 7 M) A pa a ++ lgPx (HPb b1 b2 N M l cu xB yB r ++ [obE 2 A B C]) (slV 7 M) B pb b ++ lgPw (HPb b1 b2 N M l cu xB yB r ++ [obE 2 A B C]) (HPb b1 b2 N M l cu xB yB r2 ++ [obE 2 A B C]) M k pk pl (fop .add .f64 a b) u ab false, []) := by kernel_rfl
theorem rdPb_3 (b1 b2 : Option ABlk) (N M : Nat) (l : List OpD) (cu : Array Value) (xB yB : Option ABlk) (r r2 : List Nat) (k k1 : Int) (A B : Int) (C a b u ab : Nat) (po pa pb pk pl : Addr) :
  runPb b1 b2 N M l cu xB yB r k ([yes true, aM (.pointer (some po)), aM (opV 3 A B C), aM (.pointer (some pa)), aM (.float .f64 a), aM (.pointer (some pb)), aM (.float .f64 b), aM (.pointer (some pk)), hpA undef (HPb b1 b2 N M l cu xB yB r2 ++ [obE 3 A B C]), aM (.pointer (some pl)), aM (.float .f64 u), aM (.float .f64 ab), yes true, aM (.int .i64 k1)]) = some (.normal, outPb b1 b2 N M l cu xB yB r2 k1, lgPh (HPb b1 b2 N M l cu xB yB r) M k po (opV 3 A B C) ++ lgPx (HPb b1 b2 N M l cu xB yB r ++ [obE 3 A B C]) (slV 7 M) A pa a ++ lgPx (HPb b1 b2 N M l cu xB yB r ++ [obE 3 A B C]) (slV 7 M) B pb b ++ lgPw (HPb b1 b2 N M l cu xB yB r ++ [obE 3 A B C]) (HPb b1 b2 N M l cu xB yB r2 ++ [obE 3 A B C]) M k pk pl (fop .sub .f64 a b) u ab true ++ lgPn k k1, []) := by kernel_rfl
theorem rdPr_3 (b1 b2 : Option ABlk) (N M : Nat) (l : List OpD) (cu : Array Value) (xB yB : Option ABlk) (r r2 : List Nat) (k k1 : Int) (A B : Int) (C a b u ab : Nat) (po pa pb pk pl : Addr) :
  runPr b1 b2 N M l cu xB yB r k ([yes true, aM (.pointer (some po)), aM (opV 3 A B C), aM (.pointer (some pa)), aM (.float .f64 a), aM (.pointer (some pb)), aM (.float .f64 b), aM (.pointer (some pk)), hpA undef (HPb b1 b2 N M l cu xB yB r2 ++ [obE 3 A B C]), aM (.pointer (some pl)), aM (.float .f64 u), aM (.float .f64 ab), yes false]) = some (.ret, outPr b1 b2, lgPh (HPb b1 b2 N M l cu xB yB r) M k po (opV 3 A B C) ++ lgPx (HPb b1 b2 N M l cu xB yB r ++ [obE 3 A B C]) (slV 7 M) A pa a ++ lgPx (HPb b1 b2 N M l cu xB yB r ++ [obE 3 A B C]) (slV 7 M) B pb b ++ lgPw (HPb b1 b2 N M l cu xB yB r ++ [obE 3 A B C]) (HPb b1 b2 N M l cu xB yB r2 ++ [obE 3 A B C]) M k pk pl (fop .sub .f64 a b) u ab false, []) := by kernel_rfl
theorem rdPb_4 (b1 b2 : Option ABlk) (N M : Nat) (l : List OpD) (cu : Array Value) (xB yB : Option ABlk) (r r2 : List Nat) (k k1 : Int) (A B : Int) (C a b u ab : Nat) (po pa pb pk pl : Addr) :
  runPb b1 b2 N M l cu xB yB r k ([yes true, aM (.pointer (some po)), aM (opV 4 A B C), aM (.pointer (some pa)), aM (.float .f64 a), aM (.pointer (some pb)), aM (.float .f64 b), aM (.pointer (some pk)), hpA undef (HPb b1 b2 N M l cu xB yB r2 ++ [obE 4 A B C]), aM (.pointer (some pl)), aM (.float .f64 u), aM (.float .f64 ab), yes true, aM (.int .i64 k1)]) = some (.normal, outPb b1 b2 N M l cu xB yB r2 k1, lgPh (HPb b1 b2 N M l cu xB yB r) M k po (opV 4 A B C) ++ lgPx (HPb b1 b2 N M l cu xB yB r ++ [obE 4 A B C]) (slV 7 M) A pa a ++ lgPx (HPb b1 b2 N M l cu xB yB r ++ [obE 4 A B C]) (slV 7 M) B pb b ++ lgPw (HPb b1 b2 N M l cu xB yB r ++ [obE 4 A B C]) (HPb b1 b2 N M l cu xB yB r2 ++ [obE 4 A B C]) M k pk pl (fop .mul .f64 a b) u ab true ++ lgPn k k1, []) := by kernel_rfl
theorem rdPr_4 (b1 b2 : Option ABlk) (N M : Nat) (l : List OpD) (cu : Array Value) (xB yB : Option ABlk) (r r2 : List Nat) (k k1 : Int) (A B : Int) (C a b u ab : Nat) (po pa pb pk pl : Addr) :
  runPr b1 b2 N M l cu xB yB r k ([yes true, aM (.pointer (some po)), aM (opV 4 A B C), aM (.pointer (some pa)), aM (.float .f64 a), aM (.pointer (some pb)), aM (.float .f64 b), aM (.pointer (some pk)), hpA undef (HPb b1 b2 N M l cu xB yB r2 ++ [obE 4 A B C]), aM (.pointer (some pl)), aM (.float .f64 u), aM (.float .f64 ab), yes false]) = some (.ret, outPr b1 b2, lgPh (HPb b1 b2 N M l cu xB yB r) M k po (opV 4 A B C) ++ lgPx (HPb b1 b2 N M l cu xB yB r ++ [obE 4 A B C]) (slV 7 M) A pa a ++ lgPx (HPb b1 b2 N M l cu xB yB r ++ [obE 4 A B C]) (slV 7 M) B pb b ++ lgPw (HPb b1 b2 N M l cu xB yB r ++ [obE 4 A B C]) (HPb b1 b2 N M l cu xB yB r2 ++ [obE 4 A B C]) M k pk pl (fop .mul .f64 a b) u ab false, []) := by kernel_rfl
theorem rdPbEnd (b1 b2 : Option ABlk) (N M : Nat) (l : List OpD) (cu : Array Value) (xB yB : Option ABlk) (r : List Nat) (k : Int) :
  runPb b1 b2 N M l cu xB yB r k [yes false] = some (.exit 6, outPb b1 b2 N M l cu xB yB r k, [.cmp .lss 3 (.int .i64 k) (.int .i64 M) false], []) := by kernel_rfl

end Go.Proofs.Ytnbbmihlokajaaa

/-!  The law ModelPoints: its run about its rounds. -/
namespace Go.Proofs.Ytnbbmihlokajaaa
open Go
set_option linter.unusedVariables false
set_option linter.unusedSimpArgs false
set_option maxRecDepth 100000

def hpPt (b1 b2 : Option ABlk) (N M : Nat) (ops : List OpD) (cu : Array Value) (fx : Nat → Nat) : List (Option ABlk) := [b1, b2, opsL ops, iB cu, tcB 2 N M, nwF ((List.range N).map fx)]
noncomputable def lgPt0 (b1 b2 : Option ABlk) (n : Int) (va vb : Value) (N M : Nat) (ops : List OpD) (cu : Array Value) (fx gx : Nat → Nat) : List Obl :=
  [qtO 15 #[] (.bool true), rnO 44 #[.int .i64 n, va, .bool false] [b1, b2] (tpV 2 3 N M) [opsL ops, iB cu], rnO 41 #[.int .i64 (Int.ofNat N), vb] [b1, b2, opsL ops, iB cu, tcB 2 N M] (slV 5 N) [nwF ((List.range N).map fx)]] ++
    (List.range N).flatMap (fun i => [cpO .lss (Int.ofNat i) (Int.ofNat N) true, qtO 48 #[.float .f64 (fx i)] (.float .f64 (gx i))]) ++ [cpO .lss (Int.ofNat N) (Int.ofNat N) false]
noncomputable def lgPt1 (b1 b2 : Option ABlk) (N M : Nat) (ops : List OpD) (cu : Array Value) (gx : Nat → Nat) (f g : Nat → Nat → P2) (l0 : List Nat) : List Obl :=
  (List.range N).flatMap (fun i => [cpO .lss (Int.ofNat i) (Int.ofNat N) true, rnO 24 #[.slice (some ⟨5, i, none⟩) 1 1] (hpPt b1 b2 N M ops cu gx ++ grM i f) (mW (f i)) []]) ++ [cpO .lss (Int.ofNat N) (Int.ofNat N) false,
    rnO 46 #[tpV 2 3 N M, slV (5 + 2 * N) N] (hpPt b1 b2 N M ops cu gx ++ grM N f) (slV (6 + 2 * N) N) [mB ((List.range N).map g)],
    .ex (makeSliceV Try.prog (hpPt b1 b2 N M ops cu gx ++ grM N f ++ [mB ((List.range N).map g)]).toArray 37 (.int .i64 M) (.int .i64 M) = some (slV (7 + 2 * N) M, (hpPt b1 b2 N M ops cu gx ++ grM N f ++ [mB ((List.range N).map g), nwF l0]).toArray))]
noncomputable def lgPt2 (H : List (Option ABlk)) (N M : Nat) (u : Nat → Int) (p : Nat → Addr) (w : Nat → Nat) (g : Nat → Nat → P2) (X : Nat → P2) : List Obl :=
  (List.range N).flatMap (fun i => [cpO .lss (Int.ofNat i) (Int.ofNat N) true, .ex (readVar Try.prog H.toArray 3 ⟨3, i, none⟩ = some (.int .i64 (u i))), .ex (indexAddrV Try.prog 37 (slV 7 M) (.int .i64 (u i)) = some (.pointer (some (p i)))), .ex (readVar Try.prog H.toArray 24 (p i) = some (.float .f64 (w i))),
    qtO 18 #[mW (g i)] (vI (X i)), qtO 20 #[.float .f64 (w i), vI (X i)] (.bool true)]) ++ [cpO .lss (Int.ofNat N) (Int.ofNat N) false]
def asPt (N M : Nat) (ops : List OpD) (cu : Array Value) (b1 b2 : Option ABlk) (ops2 : List OpD) (fx gx : Nat → Nat) (f g : Nat → Nat → P2) (l0 : List Nat) : List Ans :=
  [yes true, cAns (fun s => tpV s (s + 1) N M) [opsL ops, iB cu], rwA N fx] ++ (List.range N).flatMap (fun i => [yes true, aM (.float .f64 (gx i))]) ++ [yes false] ++ (List.range N).flatMap (fun i => [yes true, aM (mW (f i))]) ++ [yes false, rwM N g, hpA (slV (7 + 2 * N) M) (hpPt b1 b2 N M ops2 cu gx ++ grM N f ++ [mB ((List.range N).map g), nwF l0])]
def asPt2 (N : Nat) (u : Nat → Int) (p : Nat → Addr) (w : Nat → Nat) (X : Nat → P2) : List Ans := (List.range N).flatMap (fun i => [yes true, aM (.int .i64 (u i)), aM (.pointer (some (p i))), aM (.float .f64 (w i)), aM (vI (X i)), yes true]) ++ [yes false]
/-- What the loops are asked for. -/
noncomputable def lpPt (b1 b2 : Option ABlk) (N M : Nat) (ops ops2 : List OpD) (cu : Array Value) (gx : Nat → Nat) (f g : Nat → Nat → P2) (l0 : List Nat) (e : AExit × List Value × AHeap) : List (Code × SlM × (AExit × List Value × AHeap)) :=
  [(bodyPa, outPa b1 b2 N M ops cu (nwF ((List.range N).map gx)) 0, (.exit 2, tmA 192 (LPa N M), (hpPt b1 b2 N M ops2 cu gx).toArray)),
   (bodyPb, (192, [ptM 4, slV 5 N, slV (6 + 2 * N) N, slV (7 + 2 * N) M, .int .i64 0], (HPb b1 b2 N M ops2 cu (nwF ((List.range N).map gx)) (mB ((List.range N).map g)) l0).map some), e)]
def FinP (N : Nat) : Prop := ∀ (b1 b2 : Option ABlk) (n : Int) (va vb : Value) (M : Nat) (ops ops2 : List OpD) (cu : Array Value) (fx gx : Nat → Nat) (f g : Nat → Nat → P2) (l0 l : List Nat) (u : Nat → Int) (p : Nat → Addr) (w : Nat → Nat) (X : Nat → P2),
  (askTB askPt cmP 14 #[.int .i64 n, va, vb] #[b1, b2] (asPt N M ops cu b1 b2 ops2 fx gx f g l0 ++ asPt2 N u p w X)
    [none, some ⟨.exit 2, tmA 192 (LPa N M), (hpPt b1 b2 N M ops2 cu gx).toArray⟩, none, some ⟨.exit 6, tmA 192 (LPb N M M), (HPb b1 b2 N M ops2 cu (nwF ((List.range N).map gx)) (mB ((List.range N).map g)) l).toArray⟩, none]).map (fun r => (r.1, r.2.2.1, slL [([7, 8, 10], [0, 1, 2, 3, 4, 5]), ([7, 8, 13, 14, 15], [0, 1, 2, 3, 4, 5, 6 + 2 * N, 7 + 2 * N])] r.2.2.2)) =
  some (.bool true, lgPt0 b1 b2 n va vb N M ops cu fx gx ++ lgPt1 b1 b2 N M ops2 cu gx f g l0 ++ lgPt2 (HPb b1 b2 N M ops2 cu (nwF ((List.range N).map gx)) (mB ((List.range N).map g)) l) N M u p w g X,
    lpPt b1 b2 N M ops ops2 cu gx f g l0 (.exit 6, tmA 192 (LPb N M M), (HPb b1 b2 N M ops2 cu (nwF ((List.range N).map gx)) (mB ((List.range N).map g)) l).toArray))
def FinPr (N : Nat) : Prop := ∀ (b1 b2 : Option ABlk) (n : Int) (va vb : Value) (M : Nat) (ops ops2 : List OpD) (cu : Array Value) (fx gx : Nat → Nat) (f g : Nat → Nat → P2) (l0 : List Nat),
  (askTB askPt cmP 14 #[.int .i64 n, va, vb] #[b1, b2] (asPt N M ops cu b1 b2 ops2 fx gx f g l0)
    [none, some ⟨.exit 2, tmA 192 (LPa N M), (hpPt b1 b2 N M ops2 cu gx).toArray⟩, none, some ⟨.ret, tmA 192 [(6, .bool true)], #[b1, b2]⟩]).map (fun r => (r.1, r.2.2.1, slL [([7, 8, 10], [0, 1, 2, 3, 4, 5]), ([7, 8, 13, 14, 15], [0, 1, 2, 3, 4, 5, 6 + 2 * N, 7 + 2 * N])] r.2.2.2)) =
  some (.bool true, lgPt0 b1 b2 n va vb N M ops cu fx gx ++ lgPt1 b1 b2 N M ops2 cu gx f g l0, lpPt b1 b2 N M ops ops2 cu gx f g l0 (.ret, tmA 192 [(6, .bool true)], #[b1, b2]))
theorem finP_1 : FinP 1 := fun _ _ _ _ _ _ _ _ _ _ _ _ _ _ _ _ _ _ _ => by kernel_rfl
theorem finP_2 : FinP 2 := fun _ _ _ _ _ _ _ _ _ _ _ _ _ _ _ _ _ _ _ => by kernel_rfl
theorem finP_3 : FinP 3 := fun _ _ _ _ _ _ _ _ _ _ _ _ _ _ _ _ _ _ _ => by kernel_rfl
theorem finPr_1 : FinPr 1 := fun _ _ _ _ _ _ _ _ _ _ _ _ _ _ => by kernel_rfl
theorem finPr_2 : FinPr 2 := fun _ _ _ _ _ _ _ _ _ _ _ _ _ _ => by kernel_rfl
theorem finPr_3 : FinPr 3 := fun _ _ _ _ _ _ _ _ _ _ _ _ _ _ => by kernel_rfl

end Go.Proofs.Ytnbbmihlokajaaa

/-!  ModelPoints: Models hold what numbers are; a field's numbers, one by one. -/
namespace Go.Proofs.Ytnbbmihlokajaaa
open Go
set_option linter.unusedVariables false
set_option linter.unusedSimpArgs false
set_option maxRecDepth 100000

structure In0 (a : Nat) (X : P2) : Prop where
  nn : NN a
  rs : Rs X
  is : InP a X
theorem rsA (X Y : P2) : Rs (addP X Y) := opP_rsT 2 X Y
theorem rsS (X Y : P2) : Rs (subP X Y) := opP_rsT 3 X Y
theorem rsM (X Y : P2) : Rs (mulP X Y) := opP_rsT 4 X Y
theorem In0.of {a b : Nat} {X : P2} (h : In0 a X) (hb : NN b) (e : ix b = ix a) : In0 b X := ⟨hb, h.rs, by unfold InP; rw [e]; exact h.is⟩
theorem nnA {a b : Nat} (ha : Fi a) (hb : Fi b) : NN (fop .add .f64 a b) := (add_rd ha hb).nn
theorem nnS {a b : Nat} (ha : Fi a) (hb : Fi b) : NN (fop .sub .f64 a b) := (sub_rd ha hb).nn
theorem nnM {a b : Nat} (ha : Fi a) (hb : Fi b) : NN (fop .mul .f64 a b) := (mul_rd ha hb).nn
theorem In0.add {a b : Nat} {X Y : P2} (h : In0 a X) (h' : In0 b Y) (hn : NN (fop .add .f64 a b)) : In0 (fop .add .f64 a b) (addP X Y) := ⟨hn, rsA _ _, add_inP h.rs h'.rs h.nn h'.nn h.is h'.is hn⟩
theorem In0.sub {a b : Nat} {X Y : P2} (h : In0 a X) (h' : In0 b Y) (hn : NN (fop .sub .f64 a b)) : In0 (fop .sub .f64 a b) (subP X Y) := ⟨hn, rsS _ _, sub_inP h.rs h'.rs h.nn h'.nn h.is h'.is hn⟩
theorem In0.mul {a b : Nat} {X Y : P2} (h : In0 a X) (h' : In0 b Y) (hn : NN (fop .mul .f64 a b)) : In0 (fop .mul .f64 a b) (mulP X Y) := ⟨hn, rsM _ _, mul_inP h.rs.rt h'.rs.rt h.nn h'.nn h.is h'.is hn⟩
theorem kv_z : kv 0 = 0 := by unfold kv; rw [fi_zero.2]; rfl
theorem add0_ix {a : Nat} (h : Fi a) : ix (fop .add .f64 a 0) = ix a := by
  have hr := add_rd h fi_zero.1
  have e : kv a + kv 0 = rk (ix a) * ((1 : Nat) : Int) := by rw [kv_z]; unfold kv; omega
  rw [e] at hr
  exact hr.2.eq (by decide) (by have := h.2; omega) (by have := h.2; omega)
theorem mul0_ix {a : Nat} (h : Fi a) : ix (fop .mul .f64 a 0) = 0 := by
  have hr := mul_rd h fi_zero.1
  have e : kv a * kv 0 = rk 0 * (un : Int) := by rw [kv_z, Int.mul_zero]; rw [show rk 0 = 0 from rfl, Int.zero_mul]
  rw [e] at hr
  exact hr.2.eq un_pos (by decide) (by decide)
theorem mul0_ixL {a : Nat} (h : Fi a) : ix (fop .mul .f64 0 a) = 0 := by rw [mul_comm_w]; exact mul0_ix h
abbrev Z0 (X : P2) : Prop := In0 0 X
theorem Z0.mulR {a : Nat} {X Y : P2} (h : In0 a X) (hf : Fi a) (h' : Z0 Y) : Z0 (mulP X Y) := (h.mul h' (nnM hf fi_zero.1)).of fi_zero.1.nn (by rw [mul0_ix hf, fi_zero.2])
theorem Z0.mulL {a : Nat} {X Y : P2} (h' : Z0 X) (h : In0 a Y) (hf : Fi a) : Z0 (mulP X Y) := (h'.mul h (nnM fi_zero.1 hf)).of fi_zero.1.nn (by rw [mul0_ixL hf, fi_zero.2])
theorem In0.addZ {a : Nat} {X Y : P2} (h : In0 a X) (hf : Fi a) (h' : Z0 Y) : In0 a (addP X Y) := (h.add h' (nnA hf fi_zero.1)).of hf.nn (add0_ix hf).symm
theorem Z0.add {X Y : P2} (h : Z0 X) (h' : Z0 Y) : Z0 (addP X Y) := In0.addZ h fi_zero.1 h'
theorem Z0.mul {X Y : P2} (h : Z0 X) (h' : Z0 Y) : Z0 (mulP X Y) := Z0.mulR h fi_zero.1 h'
theorem sub00 : fop .sub .f64 0 0 = 0 := by decide +kernel
theorem Z0.sub {X Y : P2} (h : Z0 X) (h' : Z0 Y) : Z0 (subP X Y) := by
  have := In0.sub h h' (by rw [sub00]; exact fi_zero.1.nn)
  rwa [sub00] at this
theorem in_ptM {a : Nat} (h : Fi a) : In0 a (a, a) := ⟨h.nn, ⟨⟨h.nn, h.nn, Int.le_refl _⟩, by rw [pinf_nn.2]; exact h.2.2, by rw [ninf_nn.2]; exact h.2.1⟩, Int.le_refl _, Int.le_refl _⟩
theorem z_pw (o : Bool) : Z0 (pwP o) := by
  have h1 := one_fi.1
  cases o with
  | true => exact ⟨fi_zero.1.nn, ⟨⟨mone_fi.1.nn, fi_zero.1.nn, by decide +kernel⟩, by decide +kernel, by decide +kernel⟩, by decide +kernel, by decide +kernel⟩
  | false => exact ⟨fi_zero.1.nn, ⟨⟨fi_zero.1.nn, one_fi.1.nn, by decide +kernel⟩, by decide +kernel, by decide +kernel⟩, by decide +kernel, by decide +kernel⟩
/-- A Model that is a number alone, or holds it. -/
structure MIn (a : Nat) (c : Nat → P2) : Prop where
  z : In0 a (c 0)
  o : ∀ k, 1 ≤ k → k ≤ 9 → Z0 (c k)
theorem MIn.ad {a b : Nat} {c d : Nat → P2} (h : MIn a c) (h' : MIn b d) (hn : NN (fop .add .f64 a b)) : MIn (fop .add .f64 a b) (addM c d) := ⟨h.z.add h'.z hn, fun k h1 h2 => (h.o k h1 h2).add (h'.o k h1 h2)⟩
theorem MIn.sb {a b : Nat} {c d : Nat → P2} (h : MIn a c) (h' : MIn b d) (hn : NN (fop .sub .f64 a b)) : MIn (fop .sub .f64 a b) (subM c d) := ⟨h.z.sub h'.z hn, fun k h1 h2 => (h.o k h1 h2).sub (h'.o k h1 h2)⟩
theorem MIn.poly {a : Nat} {c : Nat → P2} (h : MIn a c) (hf : Fi a) : In0 a (polyM c) := by
  have p := fun k (h1 : 1 ≤ k) (h2 : k ≤ 9) o => (h.o k h1 h2).mul (z_pw o)
  exact (((((((h.z.addZ hf (p 1 (by decide) (by decide) _)).addZ hf (p 2 (by decide) (by decide) _)).addZ hf (p 3 (by decide) (by decide) _)).addZ hf (p 4 (by decide) (by decide) _)).addZ hf (p 5 (by decide) (by decide) _)).addZ hf (p 6 (by decide) (by decide) _)).addZ hf (p 7 (by decide) (by decide) _)).addZ hf (p 8 (by decide) (by decide) _)
theorem MIn.range {a : Nat} {c : Nat → P2} (h : MIn a c) (hf : Fi a) : In0 a (rangeM c) := (h.poly hf).addZ hf (h.o 9 (by decide) (by decide))
theorem MIn.coef {a b : Nat} {c d : Nat → P2} (h : MIn a c) (h' : MIn b d) (ha : Fi a) (hb : Fi b) (k : Nat) (hk : 1 ≤ k) (hk9 : k ≤ 8) : ∀ i, i ≤ k → Z0 (coefA c d k i)
  | 0, _ => Z0.mulR h.z ha (h'.o k hk (by omega))
  | i + 1, hi => by
    refine (MIn.coef h h' ha hb k hk hk9 i (by omega)).add ?_
    by_cases e : k - (i + 1) = 0
    · rw [e]; exact Z0.mulL (h.o (i + 1) (by omega) (by omega)) h'.z hb
    · exact (h.o (i + 1) (by omega) (by omega)).mul (h'.o _ (by omega) (by omega))
theorem mulM_lo (c d : Nat → P2) {k : Nat} (h : k ≤ 8) : mulM c d k = coefA c d k k := by
  unfold mulM
  rw [show Nat.ble k 8 = true from Nat.ble_eq.mpr h]
  rfl
theorem mulM_hi (c d : Nat → P2) : mulM c d 9 = restM c d := by
  unfold mulM
  rw [show Nat.ble 9 8 = false from rfl, cond_false]
theorem pairs_1 : ∀ x ∈ pairs9, 1 ≤ x.1 ∧ x.1 ≤ 8 ∧ 1 ≤ x.2.1 ∧ x.2.1 ≤ 8 := by decide
theorem MIn.restL {a b : Nat} {c d : Nat → P2} (h : MIn a c) (h' : MIn b d) : ∀ (l : List (Nat × Nat × Bool)) (r : P2), (∀ x ∈ l, 1 ≤ x.1 ∧ x.1 ≤ 8 ∧ 1 ≤ x.2.1 ∧ x.2.1 ≤ 8) → Z0 r → Z0 (restL c d l r)
  | [], r, _, hr => hr
  | (i, j, o) :: l, r, hl, hr => by
    obtain ⟨q1, q2, q3, q4⟩ : 1 ≤ i ∧ i ≤ 8 ∧ 1 ≤ j ∧ j ≤ 8 := hl _ (List.mem_cons_self ..)
    exact MIn.restL h h' l _ (fun x hx => hl x (List.mem_cons_of_mem _ hx)) (hr.add (((h.o i q1 (by omega)).mul (h'.o j q3 (by omega))).mul (z_pw o)))
theorem MIn.ml {a b : Nat} {c d : Nat → P2} (h : MIn a c) (h' : MIn b d) (ha : Fi a) (hb : Fi b) : MIn (fop .mul .f64 a b) (mulM c d) := by
  refine ⟨h.z.mul h'.z (nnM ha hb), fun k h1 h2 => ?_⟩
  by_cases e : k ≤ 8
  · rw [mulM_lo c d e]
    exact MIn.coef h h' ha hb k h1 e k (Nat.le_refl _)
  · have r1 := MIn.restL h h' pairs9 _ pairs_1 (in_ptM fi_zero.1)
    have r2 := Z0.mulL (h.o 9 (by decide) (by decide)) (h'.range hb) hb
    have r3 := Z0.mulR (h.poly ha) ha (h'.o 9 (by decide) (by decide))
    have e9 : k = 9 := by omega
    subst e9
    rw [mulM_hi]
    unfold restM
    generalize Go.Proofs.Ytnbbmihlokajaaa.restL c d pairs9 (0, 0) = R at r1 ⊢
    generalize rangeM d = S at r2 ⊢
    generalize polyM c = T at r3 ⊢
    exact (r1.add r2).add r3
theorem MIn.pt {a : Nat} (h : Fi a) : MIn a (ofM [a]) := by
  refine ⟨in_ptM h, fun k h1 h2 => ?_⟩
  match k, h1, h2 with
  | 1, _, _ | 2, _, _ | 3, _, _ | 4, _, _ | 5, _, _ | 6, _, _ | 7, _, _ | 8, _, _ | 9, _, _ => exact in_ptM fi_zero.1

/-! the field's numbers, one by one -/
def opG (K : Int) (a b : Nat) : Nat := if K = 2 then fop .add .f64 a b else if K = 3 then fop .sub .f64 a b else fop .mul .f64 a b
def regG (ops : List OpD) (xs : List Nat) : Nat → Nat := regT 0 (fun c => c) opG (fun i => xs.getD i 0) ops
/-- As long as its numbers are finite, its Models hold them. -/
theorem reg_min {ops : List OpD} {N : Nat} (hok : ∀ k o, ops[k]? = some o → opOkD k N o) (h4 : ∀ o ∈ ops, o.K ≤ 4) (hc : ∀ o ∈ ops, Fi o.C) {xs : List Nat} {Xs : List (Nat → P2)} (hx : ∀ i, MIn (xs.getD i 0) (Xs.getD i zM)) :
    ∀ k, k < ops.length → (∀ i, i < k → Fi (regG ops xs i)) → MIn (regG ops xs k) (regM ops Xs k) := by
  intro k
  induction k using Nat.strongRecOn with
  | _ k ih =>
    intro hk hf
    have ho := List.getElem?_eq_getElem hk
    generalize ops[k] = o at ho
    have hm := List.mem_of_getElem? ho
    have hokk := hok k o ho
    have e1 : regG ops xs k = stepT (fun c => c) opG (fun i => xs.getD i 0) (regG ops xs) o := regT_at ho hokk
    have e2 : regM ops Xs k = stepT (fun c => ofM [c]) opMd (fun i => Xs.getD i zM) (regM ops Xs) o := regT_at ho hokk
    rw [e1, e2]
    unfold stepT
    split
    · exact MIn.pt (hc o hm)
    rename_i n0
    split
    · exact hx _
    rename_i n1
    have h44 := h4 o hm
    obtain ⟨a0, a1, b0, b1, h2⟩ : 0 ≤ o.A ∧ o.A < k ∧ 0 ≤ o.B ∧ o.B < k ∧ 2 ≤ o.K := by
      rcases hokk with h | h | h
      · exact absurd h n0
      · exact absurd h.1 n1
      · exact ⟨h.2.2.1, h.2.2.2.1, h.2.2.2.2.1, h.2.2.2.2.2, h.1⟩
    have fa := hf o.A.toNat (by omega)
    have fb := hf o.B.toNat (by omega)
    have ma := ih o.A.toNat (by omega) (by omega) (fun i hi => hf i (by omega))
    have mb := ih o.B.toNat (by omega) (by omega) (fun i hi => hf i (by omega))
    unfold opG opMd
    have : o.K = 2 ∨ o.K = 3 ∨ o.K = 4 := by omega
    rcases this with e | e | e
    · simp only [e, if_true]; exact ma.ad mb (nnA fa fb)
    · simp only [e, show ¬ (3 : Int) = 2 by decide, if_true, if_false]; exact ma.sb mb (nnS fa fb)
    · simp only [e, show ¬ (4 : Int) = 2 by decide, show ¬ (4 : Int) = 3 by decide, if_true, if_false]; exact ma.ml mb fa fb
/-- None of them is NaN, as long as those ahead are finite. -/
theorem regG_nn {ops : List OpD} {N : Nat} (hok : ∀ k o, ops[k]? = some o → opOkD k N o) (hc : ∀ o ∈ ops, Fi o.C) {xs : List Nat} (hx : ∀ i, Fi (xs.getD i 0)) {k : Nat} (hk : k < ops.length) (hf : ∀ i, i < k → Fi (regG ops xs i)) : NN (regG ops xs k) := by
  have ho := List.getElem?_eq_getElem hk
  generalize ops[k] = o at ho
  have hokk := hok k o ho
  have e1 : regG ops xs k = stepT (fun c => c) opG (fun i => xs.getD i 0) (regG ops xs) o := regT_at ho hokk
  rw [e1]
  unfold stepT
  split
  · exact (hc o (List.mem_of_getElem? ho)).nn
  rename_i n0
  split
  · exact (hx _).nn
  rename_i n1
  obtain ⟨a0, a1, b0, b1⟩ : 0 ≤ o.A ∧ o.A < k ∧ 0 ≤ o.B ∧ o.B < k := by
    rcases hokk with h | h | h
    · exact absurd h n0
    · exact absurd h.1 n1
    · exact ⟨h.2.2.1, h.2.2.2.1, h.2.2.2.2.1, h.2.2.2.2.2⟩
  have fa := hf o.A.toNat (by omega)
  have fb := hf o.B.toNat (by omega)
  unfold opG
  split
  · exact nnA fa fb
  split
  · exact nnS fa fb
  · exact nnM fa fb
theorem small_fi {v : Nat} (h : NN v) (hs : ix (fabs v) < ix 4832362400168542208) : Fi v := by
  have e := (abs_ix h).2
  have : ix 4832362400168542208 = 4832362400168542208 := by decide +kernel
  rw [this] at hs
  obtain ⟨h1, h2, h3⟩ := h
  exact ⟨h1, by omega, by omega⟩

end Go.Proofs.Ytnbbmihlokajaaa

/-!  math.Floor of the constants that Make makes. -/
namespace Go.Proofs.Ytnbbmihlokajaaa
open Go
set_option linter.unusedVariables false
set_option linter.unusedSimpArgs false
set_option maxRecDepth 100000

def FlOK (c : Nat) : Prop := ∃ f, Runs Try.prog 48 #[.float .f64 c] #[] (.float .f64 f) #[] ∧ Fi f ∧ -4616189618054758400 ≤ ix f ∧ ix f ≤ 4616189618054758400
theorem flOK_of {c f : Nat} (h : (askN noF noC 12 48 #[.float .f64 c] #[] []).map (fun r => (r.1, r.2.2)) = some (.float .f64 f, [])) (hf : Fi f) (h1 : -4616189618054758400 ≤ ix f) (h2 : ix f ≤ 4616189618054758400) : FlOK c := ⟨f, quiet_of' h trivial rfl rfl, hf, h1, h2⟩
theorem fl8_m32 : FlOK (fop .quo .f64 (Fz (-32)) 4620693217682128896) := flOK_of (f := Fz ((-32 : Int).fdiv 8)) (by kernel_rfl) (Dy.F (n := (-32 : Int).fdiv 8) (by decide)).fi (by decide +kernel) (by decide +kernel)
theorem fl8_m31 : FlOK (fop .quo .f64 (Fz (-31)) 4620693217682128896) := flOK_of (f := Fz ((-31 : Int).fdiv 8)) (by kernel_rfl) (Dy.F (n := (-31 : Int).fdiv 8) (by decide)).fi (by decide +kernel) (by decide +kernel)
theorem fl8_m30 : FlOK (fop .quo .f64 (Fz (-30)) 4620693217682128896) := flOK_of (f := Fz ((-30 : Int).fdiv 8)) (by kernel_rfl) (Dy.F (n := (-30 : Int).fdiv 8) (by decide)).fi (by decide +kernel) (by decide +kernel)
theorem fl8_m29 : FlOK (fop .quo .f64 (Fz (-29)) 4620693217682128896) := flOK_of (f := Fz ((-29 : Int).fdiv 8)) (by kernel_rfl) (Dy.F (n := (-29 : Int).fdiv 8) (by decide)).fi (by decide +kernel) (by decide +kernel)
theorem fl8_m28 : FlOK (fop .quo .f64 (Fz (-28)) 4620693217682128896) := flOK_of (f := Fz ((-28 : Int).fdiv 8)) (by kernel_rfl) (Dy.F (n := (-28 : Int).fdiv 8) (by decide)).fi (by decide +kernel) (by decide +kernel)
theorem fl8_m27 : FlOK (fop .quo .f64 (Fz (-27)) 4620693217682128896) := flOK_of (f := Fz ((-27 : Int).fdiv 8)) (by kernel_rfl) (Dy.F (n := (-27 : Int).fdiv 8) (by decide)).fi (by decide +kernel) (by decide +kernel)
theorem fl8_m26 : FlOK (fop .quo .f64 (Fz (-26)) 4620693217682128896) := flOK_of (f := Fz ((-26 : Int).fdiv 8)) (by kernel_rfl) (Dy.F (n := (-26 : Int).fdiv 8) (by decide)).fi (by decide +kernel) (by decide +kernel)
theorem fl8_m25 : FlOK (fop .quo .f64 (Fz (-25)) 4620693217682128896) := flOK_of (f := Fz ((-25 : Int).fdiv 8)) (by kernel_rfl) (Dy.F (n := (-25 : Int).fdiv 8) (by decide)).fi (by decide +kernel) (by decide +kernel)
theorem fl8_m24 : FlOK (fop .quo .f64 (Fz (-24)) 4620693217682128896) := flOK_of (f := Fz ((-24 : Int).fdiv 8)) (by kernel_rfl) (Dy.F (n := (-24 : Int).fdiv 8) (by decide)).fi (by decide +kernel) (by decide +kernel)
theorem fl8_m23 : FlOK (fop .quo .f64 (Fz (-23)) 4620693217682128896) := flOK_of (f := Fz ((-23 : Int).fdiv 8)) (by kernel_rfl) (Dy.F (n := (-23 : Int).fdiv 8) (by decide)).fi (by decide +kernel) (by decide +kernel)
theorem fl8_m22 : FlOK (fop .quo .f64 (Fz (-22)) 4620693217682128896) := flOK_of (f := Fz ((-22 : Int).fdiv 8)) (by kernel_rfl) (Dy.F (n := (-22 : Int).fdiv 8) (by decide)).fi (by decide +kernel) (by decide +kernel)
theorem fl8_m21 : FlOK (fop .quo .f64 (Fz (-21)) 4620693217682128896) := flOK_of (f := Fz ((-21 : Int).fdiv 8)) (by kernel_rfl) (Dy.F (n := (-21 : Int).fdiv 8) (by decide)).fi (by decide +kernel) (by decide +kernel)
theorem fl8_m20 : FlOK (fop .quo .f64 (Fz (-20)) 4620693217682128896) := flOK_of (f := Fz ((-20 : Int).fdiv 8)) (by kernel_rfl) (Dy.F (n := (-20 : Int).fdiv 8) (by decide)).fi (by decide +kernel) (by decide +kernel)
theorem fl8_m19 : FlOK (fop .quo .f64 (Fz (-19)) 4620693217682128896) := flOK_of (f := Fz ((-19 : Int).fdiv 8)) (by kernel_rfl) (Dy.F (n := (-19 : Int).fdiv 8) (by decide)).fi (by decide +kernel) (by decide +kernel)
theorem fl8_m18 : FlOK (fop .quo .f64 (Fz (-18)) 4620693217682128896) := flOK_of (f := Fz ((-18 : Int).fdiv 8)) (by kernel_rfl) (Dy.F (n := (-18 : Int).fdiv 8) (by decide)).fi (by decide +kernel) (by decide +kernel)
theorem fl8_m17 : FlOK (fop .quo .f64 (Fz (-17)) 4620693217682128896) := flOK_of (f := Fz ((-17 : Int).fdiv 8)) (by kernel_rfl) (Dy.F (n := (-17 : Int).fdiv 8) (by decide)).fi (by decide +kernel) (by decide +kernel)
theorem fl8_m16 : FlOK (fop .quo .f64 (Fz (-16)) 4620693217682128896) := flOK_of (f := Fz ((-16 : Int).fdiv 8)) (by kernel_rfl) (Dy.F (n := (-16 : Int).fdiv 8) (by decide)).fi (by decide +kernel) (by decide +kernel)
theorem fl8_m15 : FlOK (fop .quo .f64 (Fz (-15)) 4620693217682128896) := flOK_of (f := Fz ((-15 : Int).fdiv 8)) (by kernel_rfl) (Dy.F (n := (-15 : Int).fdiv 8) (by decide)).fi (by decide +kernel) (by decide +kernel)
theorem fl8_m14 : FlOK (fop .quo .f64 (Fz (-14)) 4620693217682128896) := flOK_of (f := Fz ((-14 : Int).fdiv 8)) (by kernel_rfl) (Dy.F (n := (-14 : Int).fdiv 8) (by decide)).fi (by decide +kernel) (by decide +kernel)
theorem fl8_m13 : FlOK (fop .quo .f64 (Fz (-13)) 4620693217682128896) := flOK_of (f := Fz ((-13 : Int).fdiv 8)) (by kernel_rfl) (Dy.F (n := (-13 : Int).fdiv 8) (by decide)).fi (by decide +kernel) (by decide +kernel)
theorem fl8_m12 : FlOK (fop .quo .f64 (Fz (-12)) 4620693217682128896) := flOK_of (f := Fz ((-12 : Int).fdiv 8)) (by kernel_rfl) (Dy.F (n := (-12 : Int).fdiv 8) (by decide)).fi (by decide +kernel) (by decide +kernel)
theorem fl8_m11 : FlOK (fop .quo .f64 (Fz (-11)) 4620693217682128896) := flOK_of (f := Fz ((-11 : Int).fdiv 8)) (by kernel_rfl) (Dy.F (n := (-11 : Int).fdiv 8) (by decide)).fi (by decide +kernel) (by decide +kernel)
theorem fl8_m10 : FlOK (fop .quo .f64 (Fz (-10)) 4620693217682128896) := flOK_of (f := Fz ((-10 : Int).fdiv 8)) (by kernel_rfl) (Dy.F (n := (-10 : Int).fdiv 8) (by decide)).fi (by decide +kernel) (by decide +kernel)
theorem fl8_m9 : FlOK (fop .quo .f64 (Fz (-9)) 4620693217682128896) := flOK_of (f := Fz ((-9 : Int).fdiv 8)) (by kernel_rfl) (Dy.F (n := (-9 : Int).fdiv 8) (by decide)).fi (by decide +kernel) (by decide +kernel)
theorem fl8_m8 : FlOK (fop .quo .f64 (Fz (-8)) 4620693217682128896) := flOK_of (f := Fz ((-8 : Int).fdiv 8)) (by kernel_rfl) (Dy.F (n := (-8 : Int).fdiv 8) (by decide)).fi (by decide +kernel) (by decide +kernel)
theorem fl8_m7 : FlOK (fop .quo .f64 (Fz (-7)) 4620693217682128896) := flOK_of (f := Fz ((-7 : Int).fdiv 8)) (by kernel_rfl) (Dy.F (n := (-7 : Int).fdiv 8) (by decide)).fi (by decide +kernel) (by decide +kernel)
theorem fl8_m6 : FlOK (fop .quo .f64 (Fz (-6)) 4620693217682128896) := flOK_of (f := Fz ((-6 : Int).fdiv 8)) (by kernel_rfl) (Dy.F (n := (-6 : Int).fdiv 8) (by decide)).fi (by decide +kernel) (by decide +kernel)
theorem fl8_m5 : FlOK (fop .quo .f64 (Fz (-5)) 4620693217682128896) := flOK_of (f := Fz ((-5 : Int).fdiv 8)) (by kernel_rfl) (Dy.F (n := (-5 : Int).fdiv 8) (by decide)).fi (by decide +kernel) (by decide +kernel)
theorem fl8_m4 : FlOK (fop .quo .f64 (Fz (-4)) 4620693217682128896) := flOK_of (f := Fz ((-4 : Int).fdiv 8)) (by kernel_rfl) (Dy.F (n := (-4 : Int).fdiv 8) (by decide)).fi (by decide +kernel) (by decide +kernel)
theorem fl8_m3 : FlOK (fop .quo .f64 (Fz (-3)) 4620693217682128896) := flOK_of (f := Fz ((-3 : Int).fdiv 8)) (by kernel_rfl) (Dy.F (n := (-3 : Int).fdiv 8) (by decide)).fi (by decide +kernel) (by decide +kernel)
theorem fl8_m2 : FlOK (fop .quo .f64 (Fz (-2)) 4620693217682128896) := flOK_of (f := Fz ((-2 : Int).fdiv 8)) (by kernel_rfl) (Dy.F (n := (-2 : Int).fdiv 8) (by decide)).fi (by decide +kernel) (by decide +kernel)
theorem fl8_m1 : FlOK (fop .quo .f64 (Fz (-1)) 4620693217682128896) := flOK_of (f := Fz ((-1 : Int).fdiv 8)) (by kernel_rfl) (Dy.F (n := (-1 : Int).fdiv 8) (by decide)).fi (by decide +kernel) (by decide +kernel)
theorem fl8_0 : FlOK (fop .quo .f64 (Fz (0)) 4620693217682128896) := flOK_of (f := Fz ((0 : Int).fdiv 8)) (by kernel_rfl) (Dy.F (n := (0 : Int).fdiv 8) (by decide)).fi (by decide +kernel) (by decide +kernel)
theorem fl8_1 : FlOK (fop .quo .f64 (Fz (1)) 4620693217682128896) := flOK_of (f := Fz ((1 : Int).fdiv 8)) (by kernel_rfl) (Dy.F (n := (1 : Int).fdiv 8) (by decide)).fi (by decide +kernel) (by decide +kernel)
theorem fl8_2 : FlOK (fop .quo .f64 (Fz (2)) 4620693217682128896) := flOK_of (f := Fz ((2 : Int).fdiv 8)) (by kernel_rfl) (Dy.F (n := (2 : Int).fdiv 8) (by decide)).fi (by decide +kernel) (by decide +kernel)
theorem fl8_3 : FlOK (fop .quo .f64 (Fz (3)) 4620693217682128896) := flOK_of (f := Fz ((3 : Int).fdiv 8)) (by kernel_rfl) (Dy.F (n := (3 : Int).fdiv 8) (by decide)).fi (by decide +kernel) (by decide +kernel)
theorem fl8_4 : FlOK (fop .quo .f64 (Fz (4)) 4620693217682128896) := flOK_of (f := Fz ((4 : Int).fdiv 8)) (by kernel_rfl) (Dy.F (n := (4 : Int).fdiv 8) (by decide)).fi (by decide +kernel) (by decide +kernel)
theorem fl8_5 : FlOK (fop .quo .f64 (Fz (5)) 4620693217682128896) := flOK_of (f := Fz ((5 : Int).fdiv 8)) (by kernel_rfl) (Dy.F (n := (5 : Int).fdiv 8) (by decide)).fi (by decide +kernel) (by decide +kernel)
theorem fl8_6 : FlOK (fop .quo .f64 (Fz (6)) 4620693217682128896) := flOK_of (f := Fz ((6 : Int).fdiv 8)) (by kernel_rfl) (Dy.F (n := (6 : Int).fdiv 8) (by decide)).fi (by decide +kernel) (by decide +kernel)
theorem fl8_7 : FlOK (fop .quo .f64 (Fz (7)) 4620693217682128896) := flOK_of (f := Fz ((7 : Int).fdiv 8)) (by kernel_rfl) (Dy.F (n := (7 : Int).fdiv 8) (by decide)).fi (by decide +kernel) (by decide +kernel)
theorem fl8_8 : FlOK (fop .quo .f64 (Fz (8)) 4620693217682128896) := flOK_of (f := Fz ((8 : Int).fdiv 8)) (by kernel_rfl) (Dy.F (n := (8 : Int).fdiv 8) (by decide)).fi (by decide +kernel) (by decide +kernel)
theorem fl8_9 : FlOK (fop .quo .f64 (Fz (9)) 4620693217682128896) := flOK_of (f := Fz ((9 : Int).fdiv 8)) (by kernel_rfl) (Dy.F (n := (9 : Int).fdiv 8) (by decide)).fi (by decide +kernel) (by decide +kernel)
theorem fl8_10 : FlOK (fop .quo .f64 (Fz (10)) 4620693217682128896) := flOK_of (f := Fz ((10 : Int).fdiv 8)) (by kernel_rfl) (Dy.F (n := (10 : Int).fdiv 8) (by decide)).fi (by decide +kernel) (by decide +kernel)
theorem fl8_11 : FlOK (fop .quo .f64 (Fz (11)) 4620693217682128896) := flOK_of (f := Fz ((11 : Int).fdiv 8)) (by kernel_rfl) (Dy.F (n := (11 : Int).fdiv 8) (by decide)).fi (by decide +kernel) (by decide +kernel)
theorem fl8_12 : FlOK (fop .quo .f64 (Fz (12)) 4620693217682128896) := flOK_of (f := Fz ((12 : Int).fdiv 8)) (by kernel_rfl) (Dy.F (n := (12 : Int).fdiv 8) (by decide)).fi (by decide +kernel) (by decide +kernel)
theorem fl8_13 : FlOK (fop .quo .f64 (Fz (13)) 4620693217682128896) := flOK_of (f := Fz ((13 : Int).fdiv 8)) (by kernel_rfl) (Dy.F (n := (13 : Int).fdiv 8) (by decide)).fi (by decide +kernel) (by decide +kernel)
theorem fl8_14 : FlOK (fop .quo .f64 (Fz (14)) 4620693217682128896) := flOK_of (f := Fz ((14 : Int).fdiv 8)) (by kernel_rfl) (Dy.F (n := (14 : Int).fdiv 8) (by decide)).fi (by decide +kernel) (by decide +kernel)
theorem fl8_15 : FlOK (fop .quo .f64 (Fz (15)) 4620693217682128896) := flOK_of (f := Fz ((15 : Int).fdiv 8)) (by kernel_rfl) (Dy.F (n := (15 : Int).fdiv 8) (by decide)).fi (by decide +kernel) (by decide +kernel)
theorem fl8_16 : FlOK (fop .quo .f64 (Fz (16)) 4620693217682128896) := flOK_of (f := Fz ((16 : Int).fdiv 8)) (by kernel_rfl) (Dy.F (n := (16 : Int).fdiv 8) (by decide)).fi (by decide +kernel) (by decide +kernel)
theorem fl8_17 : FlOK (fop .quo .f64 (Fz (17)) 4620693217682128896) := flOK_of (f := Fz ((17 : Int).fdiv 8)) (by kernel_rfl) (Dy.F (n := (17 : Int).fdiv 8) (by decide)).fi (by decide +kernel) (by decide +kernel)
theorem fl8_18 : FlOK (fop .quo .f64 (Fz (18)) 4620693217682128896) := flOK_of (f := Fz ((18 : Int).fdiv 8)) (by kernel_rfl) (Dy.F (n := (18 : Int).fdiv 8) (by decide)).fi (by decide +kernel) (by decide +kernel)
theorem fl8_19 : FlOK (fop .quo .f64 (Fz (19)) 4620693217682128896) := flOK_of (f := Fz ((19 : Int).fdiv 8)) (by kernel_rfl) (Dy.F (n := (19 : Int).fdiv 8) (by decide)).fi (by decide +kernel) (by decide +kernel)
theorem fl8_20 : FlOK (fop .quo .f64 (Fz (20)) 4620693217682128896) := flOK_of (f := Fz ((20 : Int).fdiv 8)) (by kernel_rfl) (Dy.F (n := (20 : Int).fdiv 8) (by decide)).fi (by decide +kernel) (by decide +kernel)
theorem fl8_21 : FlOK (fop .quo .f64 (Fz (21)) 4620693217682128896) := flOK_of (f := Fz ((21 : Int).fdiv 8)) (by kernel_rfl) (Dy.F (n := (21 : Int).fdiv 8) (by decide)).fi (by decide +kernel) (by decide +kernel)
theorem fl8_22 : FlOK (fop .quo .f64 (Fz (22)) 4620693217682128896) := flOK_of (f := Fz ((22 : Int).fdiv 8)) (by kernel_rfl) (Dy.F (n := (22 : Int).fdiv 8) (by decide)).fi (by decide +kernel) (by decide +kernel)
theorem fl8_23 : FlOK (fop .quo .f64 (Fz (23)) 4620693217682128896) := flOK_of (f := Fz ((23 : Int).fdiv 8)) (by kernel_rfl) (Dy.F (n := (23 : Int).fdiv 8) (by decide)).fi (by decide +kernel) (by decide +kernel)
theorem fl8_24 : FlOK (fop .quo .f64 (Fz (24)) 4620693217682128896) := flOK_of (f := Fz ((24 : Int).fdiv 8)) (by kernel_rfl) (Dy.F (n := (24 : Int).fdiv 8) (by decide)).fi (by decide +kernel) (by decide +kernel)
theorem fl8_25 : FlOK (fop .quo .f64 (Fz (25)) 4620693217682128896) := flOK_of (f := Fz ((25 : Int).fdiv 8)) (by kernel_rfl) (Dy.F (n := (25 : Int).fdiv 8) (by decide)).fi (by decide +kernel) (by decide +kernel)
theorem fl8_26 : FlOK (fop .quo .f64 (Fz (26)) 4620693217682128896) := flOK_of (f := Fz ((26 : Int).fdiv 8)) (by kernel_rfl) (Dy.F (n := (26 : Int).fdiv 8) (by decide)).fi (by decide +kernel) (by decide +kernel)
theorem fl8_27 : FlOK (fop .quo .f64 (Fz (27)) 4620693217682128896) := flOK_of (f := Fz ((27 : Int).fdiv 8)) (by kernel_rfl) (Dy.F (n := (27 : Int).fdiv 8) (by decide)).fi (by decide +kernel) (by decide +kernel)
theorem fl8_28 : FlOK (fop .quo .f64 (Fz (28)) 4620693217682128896) := flOK_of (f := Fz ((28 : Int).fdiv 8)) (by kernel_rfl) (Dy.F (n := (28 : Int).fdiv 8) (by decide)).fi (by decide +kernel) (by decide +kernel)
theorem fl8_29 : FlOK (fop .quo .f64 (Fz (29)) 4620693217682128896) := flOK_of (f := Fz ((29 : Int).fdiv 8)) (by kernel_rfl) (Dy.F (n := (29 : Int).fdiv 8) (by decide)).fi (by decide +kernel) (by decide +kernel)
theorem fl8_30 : FlOK (fop .quo .f64 (Fz (30)) 4620693217682128896) := flOK_of (f := Fz ((30 : Int).fdiv 8)) (by kernel_rfl) (Dy.F (n := (30 : Int).fdiv 8) (by decide)).fi (by decide +kernel) (by decide +kernel)
theorem fl8_31 : FlOK (fop .quo .f64 (Fz (31)) 4620693217682128896) := flOK_of (f := Fz ((31 : Int).fdiv 8)) (by kernel_rfl) (Dy.F (n := (31 : Int).fdiv 8) (by decide)).fi (by decide +kernel) (by decide +kernel)
theorem fl8_32 : FlOK (fop .quo .f64 (Fz (32)) 4620693217682128896) := flOK_of (f := Fz ((32 : Int).fdiv 8)) (by kernel_rfl) (Dy.F (n := (32 : Int).fdiv 8) (by decide)).fi (by decide +kernel) (by decide +kernel)
theorem fl4_m8 : FlOK (fop .quo .f64 (Fz (-8)) 4616189618054758400) := flOK_of (f := Fz ((-8 : Int).fdiv 4)) (by kernel_rfl) (Dy.F (n := (-8 : Int).fdiv 4) (by decide)).fi (by decide +kernel) (by decide +kernel)
theorem fl4_m7 : FlOK (fop .quo .f64 (Fz (-7)) 4616189618054758400) := flOK_of (f := Fz ((-7 : Int).fdiv 4)) (by kernel_rfl) (Dy.F (n := (-7 : Int).fdiv 4) (by decide)).fi (by decide +kernel) (by decide +kernel)
theorem fl4_m6 : FlOK (fop .quo .f64 (Fz (-6)) 4616189618054758400) := flOK_of (f := Fz ((-6 : Int).fdiv 4)) (by kernel_rfl) (Dy.F (n := (-6 : Int).fdiv 4) (by decide)).fi (by decide +kernel) (by decide +kernel)
theorem fl4_m5 : FlOK (fop .quo .f64 (Fz (-5)) 4616189618054758400) := flOK_of (f := Fz ((-5 : Int).fdiv 4)) (by kernel_rfl) (Dy.F (n := (-5 : Int).fdiv 4) (by decide)).fi (by decide +kernel) (by decide +kernel)
theorem fl4_m4 : FlOK (fop .quo .f64 (Fz (-4)) 4616189618054758400) := flOK_of (f := Fz ((-4 : Int).fdiv 4)) (by kernel_rfl) (Dy.F (n := (-4 : Int).fdiv 4) (by decide)).fi (by decide +kernel) (by decide +kernel)
theorem fl4_m3 : FlOK (fop .quo .f64 (Fz (-3)) 4616189618054758400) := flOK_of (f := Fz ((-3 : Int).fdiv 4)) (by kernel_rfl) (Dy.F (n := (-3 : Int).fdiv 4) (by decide)).fi (by decide +kernel) (by decide +kernel)
theorem fl4_m2 : FlOK (fop .quo .f64 (Fz (-2)) 4616189618054758400) := flOK_of (f := Fz ((-2 : Int).fdiv 4)) (by kernel_rfl) (Dy.F (n := (-2 : Int).fdiv 4) (by decide)).fi (by decide +kernel) (by decide +kernel)
theorem fl4_m1 : FlOK (fop .quo .f64 (Fz (-1)) 4616189618054758400) := flOK_of (f := Fz ((-1 : Int).fdiv 4)) (by kernel_rfl) (Dy.F (n := (-1 : Int).fdiv 4) (by decide)).fi (by decide +kernel) (by decide +kernel)
theorem fl4_0 : FlOK (fop .quo .f64 (Fz (0)) 4616189618054758400) := flOK_of (f := Fz ((0 : Int).fdiv 4)) (by kernel_rfl) (Dy.F (n := (0 : Int).fdiv 4) (by decide)).fi (by decide +kernel) (by decide +kernel)
theorem fl4_1 : FlOK (fop .quo .f64 (Fz (1)) 4616189618054758400) := flOK_of (f := Fz ((1 : Int).fdiv 4)) (by kernel_rfl) (Dy.F (n := (1 : Int).fdiv 4) (by decide)).fi (by decide +kernel) (by decide +kernel)
theorem fl4_2 : FlOK (fop .quo .f64 (Fz (2)) 4616189618054758400) := flOK_of (f := Fz ((2 : Int).fdiv 4)) (by kernel_rfl) (Dy.F (n := (2 : Int).fdiv 4) (by decide)).fi (by decide +kernel) (by decide +kernel)
theorem fl4_3 : FlOK (fop .quo .f64 (Fz (3)) 4616189618054758400) := flOK_of (f := Fz ((3 : Int).fdiv 4)) (by kernel_rfl) (Dy.F (n := (3 : Int).fdiv 4) (by decide)).fi (by decide +kernel) (by decide +kernel)
theorem fl4_4 : FlOK (fop .quo .f64 (Fz (4)) 4616189618054758400) := flOK_of (f := Fz ((4 : Int).fdiv 4)) (by kernel_rfl) (Dy.F (n := (4 : Int).fdiv 4) (by decide)).fi (by decide +kernel) (by decide +kernel)
theorem fl4_5 : FlOK (fop .quo .f64 (Fz (5)) 4616189618054758400) := flOK_of (f := Fz ((5 : Int).fdiv 4)) (by kernel_rfl) (Dy.F (n := (5 : Int).fdiv 4) (by decide)).fi (by decide +kernel) (by decide +kernel)
theorem fl4_6 : FlOK (fop .quo .f64 (Fz (6)) 4616189618054758400) := flOK_of (f := Fz ((6 : Int).fdiv 4)) (by kernel_rfl) (Dy.F (n := (6 : Int).fdiv 4) (by decide)).fi (by decide +kernel) (by decide +kernel)
theorem fl4_7 : FlOK (fop .quo .f64 (Fz (7)) 4616189618054758400) := flOK_of (f := Fz ((7 : Int).fdiv 4)) (by kernel_rfl) (Dy.F (n := (7 : Int).fdiv 4) (by decide)).fi (by decide +kernel) (by decide +kernel)
theorem fl4_8 : FlOK (fop .quo .f64 (Fz (8)) 4616189618054758400) := flOK_of (f := Fz ((8 : Int).fdiv 4)) (by kernel_rfl) (Dy.F (n := (8 : Int).fdiv 4) (by decide)).fi (by decide +kernel) (by decide +kernel)
theorem fl8 (i : Int) (h1 : -32 ≤ i) (h2 : i ≤ 32) : FlOK (fop .quo .f64 (Fz i) 4620693217682128896) := by
  have : i = -32 ∨ i = -31 ∨ i = -30 ∨ i = -29 ∨ i = -28 ∨ i = -27 ∨ i = -26 ∨ i = -25 ∨ i = -24 ∨ i = -23 ∨ i = -22 ∨ i = -21 ∨ i = -20 ∨ i = -19 ∨ i = -18 ∨ i = -17 ∨ i = -16 ∨ i = -15 ∨ i = -14 ∨ i = -13 ∨ i = -12 ∨ i = -11 ∨ i = -10 ∨ i = -9 ∨ i = -8 ∨ i = -7 ∨ i = -6 ∨ i = -5 ∨ i = -4 ∨ i = -3 ∨ i = -2 ∨ i = -1 ∨ i = 0 ∨ i = 1 ∨ i = 2 ∨ i = 3 ∨ i = 4 ∨ i = 5 ∨ i = 6 ∨ i = 7 ∨ i = 8 ∨ i = 9 ∨ i = 10 ∨ i = 11 ∨ i = 12 ∨ i = 13 ∨ i = 14 ∨ i = 15 ∨ i = 16 ∨ i = 17 ∨ i = 18 ∨ i = 19 ∨ i = 20 ∨ i = 21 ∨ i = 22 ∨ i = 23 ∨ i = 24 ∨ i = 25 ∨ i = 26 ∨ i = 27 ∨ i = 28 ∨ i = 29 ∨ i = 30 ∨ i = 31 ∨ i = 32 := by omega
  rcases this with rfl | rfl | rfl | rfl | rfl | rfl | rfl | rfl | rfl | rfl | rfl | rfl | rfl | rfl | rfl | rfl | rfl | rfl | rfl | rfl | rfl | rfl | rfl | rfl | rfl | rfl | rfl | rfl | rfl | rfl | rfl | rfl | rfl | rfl | rfl | rfl | rfl | rfl | rfl | rfl | rfl | rfl | rfl | rfl | rfl | rfl | rfl | rfl | rfl | rfl | rfl | rfl | rfl | rfl | rfl | rfl | rfl | rfl | rfl | rfl | rfl | rfl | rfl | rfl | rfl
  · exact fl8_m32
  · exact fl8_m31
  · exact fl8_m30
  · exact fl8_m29
  · exact fl8_m28
  · exact fl8_m27
  · exact fl8_m26
  · exact fl8_m25
  · exact fl8_m24
  · exact fl8_m23
  · exact fl8_m22
  · exact fl8_m21
  · exact fl8_m20
  · exact fl8_m19
  · exact fl8_m18
  · exact fl8_m17
  · exact fl8_m16
  · exact fl8_m15
  · exact fl8_m14
  · exact fl8_m13
  · exact fl8_m12
  · exact fl8_m11
  · exact fl8_m10
  · exact fl8_m9
  · exact fl8_m8
  · exact fl8_m7
  · exact fl8_m6
  · exact fl8_m5
  · exact fl8_m4
  · exact fl8_m3
  · exact fl8_m2
  · exact fl8_m1
  · exact fl8_0
  · exact fl8_1
  · exact fl8_2
  · exact fl8_3
  · exact fl8_4
  · exact fl8_5
  · exact fl8_6
  · exact fl8_7
  · exact fl8_8
  · exact fl8_9
  · exact fl8_10
  · exact fl8_11
  · exact fl8_12
  · exact fl8_13
  · exact fl8_14
  · exact fl8_15
  · exact fl8_16
  · exact fl8_17
  · exact fl8_18
  · exact fl8_19
  · exact fl8_20
  · exact fl8_21
  · exact fl8_22
  · exact fl8_23
  · exact fl8_24
  · exact fl8_25
  · exact fl8_26
  · exact fl8_27
  · exact fl8_28
  · exact fl8_29
  · exact fl8_30
  · exact fl8_31
  · exact fl8_32
theorem fl4 (i : Int) (h1 : -8 ≤ i) (h2 : i ≤ 8) : FlOK (fop .quo .f64 (Fz i) 4616189618054758400) := by
  have : i = -8 ∨ i = -7 ∨ i = -6 ∨ i = -5 ∨ i = -4 ∨ i = -3 ∨ i = -2 ∨ i = -1 ∨ i = 0 ∨ i = 1 ∨ i = 2 ∨ i = 3 ∨ i = 4 ∨ i = 5 ∨ i = 6 ∨ i = 7 ∨ i = 8 := by omega
  rcases this with rfl | rfl | rfl | rfl | rfl | rfl | rfl | rfl | rfl | rfl | rfl | rfl | rfl | rfl | rfl | rfl | rfl
  · exact fl4_m8
  · exact fl4_m7
  · exact fl4_m6
  · exact fl4_m5
  · exact fl4_m4
  · exact fl4_m3
  · exact fl4_m2
  · exact fl4_m1
  · exact fl4_0
  · exact fl4_1
  · exact fl4_2
  · exact fl4_3
  · exact fl4_4
  · exact fl4_5
  · exact fl4_6
  · exact fl4_7
  · exact fl4_8
/-- Each constant of a field that Make makes has a floor. -/
theorem mk_floor (n : Int) (zs : List Int) (dv : Bool) {k : Nat} (hk : k < mkM n zs) (h0 : (tmkO n zs dv k).K = 0) : FlOK (tmkO n zs dv k).C := by
  by_cases h1 : k < mkN n
  · have e : tmkO n zs dv k = ⟨1, Int.ofNat k, 0, 0⟩ := by unfold tmkO Omk; rw [if_pos h1]
    rw [e] at h0
    exact absurd h0 (show ¬ ((1 : Int) = 0) by decide)
  by_cases h2 : k = mkN n
  · have e : tmkO n zs dv k = ⟨0, 0, 0, fop .quo .f64 (mkC n) 4616189618054758400⟩ := by unfold tmkO Omk; rw [if_neg h1, if_pos h2]
    rw [e]
    unfold mkC
    have a1 := Int.emod_nonneg n (b := 17) (by decide)
    have a2 := Int.emod_lt_of_pos n (b := 17) (by decide)
    rw [show wr (n % 17 - 8) = n % 17 - 8 from wrap_id (by omega) (by omega)]
    exact fl4 _ (by omega) (by omega)
  · obtain ⟨i, rfl⟩ : ∃ i, k = mkN n + 1 + i := ⟨k - (mkN n + 1), by omega⟩
    have hi : i < 8 ∧ i < zs.length := by unfold mkM mkL at hk; omega
    rw [mkO_at (List.getElem?_eq_getElem hi.2) hi.1] at h0 ⊢
    generalize zs[i] = z at h0 ⊢
    unfold mkOp RnK.op at h0 ⊢
    by_cases h : decide (z % 11 = 0) = true
    · rw [h]
      have a1 := Int.emod_nonneg (wr (z.tdiv 11)) (b := 33) (by decide)
      have a2 := Int.emod_lt_of_pos (wr (z.tdiv 11)) (b := 33) (by decide)
      show FlOK (fop .quo .f64 (Fz (wr (wr (z.tdiv 11) % 33 - 16))) 4620693217682128896)
      rw [show wr (wr (z.tdiv 11) % 33 - 16) = wr (z.tdiv 11) % 33 - 16 from wrap_id (by omega) (by omega)]
      exact fl8 _ (by omega) (by omega)
    · rw [Bool.not_eq_true] at h
      rw [h] at h0
      have b1 := Int.emod_nonneg z (b := 3) (by decide)
      have b2 := Int.emod_lt_of_pos z (b := 3) (by decide)
      have hK : (mkRn (mkN n + 1 + i) z).K = 2 + z % 3 := wrap_id (by omega) (by omega)
      simp only [Bool.false_eq_true, if_false] at h0
      split at h0
      · exact absurd h0 (by decide)
      · rw [hK] at h0; omega
theorem fl_zero : FlOK 0 := by
  have h := fl8 0 (by decide) (by decide)
  have e : fop .quo .f64 (Fz 0) 4620693217682128896 = 0 := by decide +kernel
  rwa [e] at h
/-- Each number of its operations has a floor; none of them divides. -/
theorem mk_floors (n : Int) (zs : List Int) : ∀ o ∈ mkOps n zs false, FlOK o.C ∧ o.K ≤ 4 := by
  intro o ho
  unfold mkOps at ho
  obtain ⟨k, hk, rfl⟩ := List.mem_map.1 ho
  have hk := List.mem_range.1 hk
  by_cases h0 : (tmkO n zs false k).K = 0
  · exact ⟨mk_floor n zs false hk h0, by omega⟩
  by_cases h1 : k < mkN n
  · have e : tmkO n zs false k = ⟨1, Int.ofNat k, 0, 0⟩ := by unfold tmkO Omk; rw [if_pos h1]
    rw [e]
    exact ⟨fl_zero, show (1 : Int) ≤ 4 by decide⟩
  by_cases h2 : k = mkN n
  · have e : tmkO n zs false k = ⟨0, 0, 0, fop .quo .f64 (mkC n) 4616189618054758400⟩ := by unfold tmkO Omk; rw [if_neg h1, if_pos h2]
    rw [e] at h0
    exact absurd rfl h0
  · obtain ⟨i, rfl⟩ : ∃ i, k = mkN n + 1 + i := ⟨k - (mkN n + 1), by omega⟩
    have hi : i < 8 ∧ i < zs.length := by unfold mkM mkL at hk; omega
    rw [mkO_at (List.getElem?_eq_getElem hi.2) hi.1] at h0 ⊢
    generalize zs[i] = z at h0 ⊢
    unfold mkOp RnK.op at h0 ⊢
    by_cases h : decide (z % 11 = 0) = true
    · rw [h] at h0
      exact absurd rfl h0
    · rw [Bool.not_eq_true] at h
      rw [h] at h0 ⊢
      have b1 := Int.emod_nonneg z (b := 3) (by decide)
      have b2 := Int.emod_lt_of_pos z (b := 3) (by decide)
      have hK : (mkRn (mkN n + 1 + i) z).K = 2 + z % 3 := wrap_id (by omega) (by omega)
      refine ⟨fl_zero, ?_⟩
      simp only [Bool.false_and, Bool.false_eq_true, if_false]
      rw [hK]; omega
theorem vl_floor (ms : List Int) (i : Nat) : FlOK (vw8 (Fz (vlI ms i))) := by
  have := vlI_bd ms i
  exact fl8 _ (by omega) (by omega)

end Go.Proofs.Ytnbbmihlokajaaa

/-!  ModelPoints: its rounds in a row; what it asks for. -/
namespace Go.Proofs.Ytnbbmihlokajaaa
open Go
set_option linter.unusedVariables false
set_option linter.unusedSimpArgs false
set_option maxRecDepth 100000

/-! floors -/
open Classical in
noncomputable def fl (c : Nat) : Nat := if h : FlOK c then h.choose else 0
theorem fl_ok {c : Nat} (h : FlOK c) : Runs Try.prog 48 #[.float .f64 c] #[] (.float .f64 (fl c)) #[] ∧ Fi (fl c) := by
  unfold fl
  rw [dif_pos h]
  exact ⟨h.choose_spec.1, h.choose_spec.2.1⟩
noncomputable def flo (o : OpD) : OpD := ⟨o.K, o.A, o.B, fl o.C⟩
noncomputable def opsAt (ops : List OpD) (k : Nat) : List OpD := (ops.take k).map flo ++ ops.drop k
theorem opsAt_zero (ops : List OpD) : opsAt ops 0 = ops := by simp [opsAt]
theorem opsAt_full (ops : List OpD) : opsAt ops ops.length = ops.map flo := by simp [opsAt]
theorem opsAt_get {ops : List OpD} {k : Nat} {o : OpD} (h : ops[k]? = some o) : (opsAt ops k)[k]? = some o := by
  have hk := (List.getElem?_eq_some_iff.1 h).1
  unfold opsAt
  rw [List.getElem?_append_right (by simp; omega)]
  simp [Nat.min_eq_left (Nat.le_of_lt hk), h]
theorem opsAt_set {ops : List OpD} {k : Nat} {o : OpD} (h : ops[k]? = some o) : (opsAt ops k).set k (flo o) = opsAt ops (k + 1) := by
  have hk := (List.getElem?_eq_some_iff.1 h).1
  have ho := (List.getElem?_eq_some_iff.1 h).2
  unfold opsAt
  have hl : ((ops.take k).map flo).length = k := by simp; omega
  rw [List.set_append_right _ _ (by omega), hl, Nat.sub_self, List.drop_eq_getElem_cons hk, ho, List.set_cons_zero, List.take_add_one, h]
  simp
theorem flat_get : ∀ (l : List OpD) (k : Nat) (o : OpD), l[k]? = some o → (l.flatMap opC)[k * 4 + 3]? = some (.float .f64 o.C)
  | [], k, o, h => by simp at h
  | a :: l, 0, o, h => by
    simp only [List.getElem?_cons_zero, Option.some.injEq] at h
    subst h
    rfl
  | a :: l, k + 1, o, h => by
    rw [List.getElem?_cons_succ] at h
    rw [List.flatMap_cons, List.getElem?_append_right (by simp [opC]; omega)]
    rw [show (k + 1) * 4 + 3 - (opC a).length = k * 4 + 3 by simp [opC]; omega]
    exact flat_get l k o h
theorem flat_set : ∀ (l : List OpD) (k : Nat) (o : OpD) (f : Nat), l[k]? = some o → (l.flatMap opC).set (k * 4 + 3) (.float .f64 f) = (l.set k ⟨o.K, o.A, o.B, f⟩).flatMap opC
  | [], k, o, f, h => by simp at h
  | a :: l, 0, o, f, h => by
    simp only [List.getElem?_cons_zero, Option.some.injEq] at h
    subst h
    rfl
  | a :: l, k + 1, o, f, h => by
    rw [List.getElem?_cons_succ] at h
    rw [List.flatMap_cons, List.set_append_right _ _ (by simp [opC]; omega), List.set_cons_succ, List.flatMap_cons]
    rw [show (k + 1) * 4 + 3 - (opC a).length = k * 4 + 3 by simp [opC]; omega]
    rw [flat_set l k o f h]
theorem fa_op (b o : Nat) : fieldAddrV Try.prog 68 (.pointer (some ⟨b, o, none⟩)) 3 = some (.pointer (some ⟨b, o + 3, none⟩)) := by kernel_rfl
theorem flatId (l : List Value) : (l.flatMap fun x => [x]) = l := by induction l with | nil => rfl | cons a l ih => rw [List.flatMap_cons, ih]; rfl

section
variable {b1 b2 : Option ABlk} (p1 : PlO b1) (p2 : PlO b2) {N M : Nat} {cu : Array Value} (hcu : ∀ (i : Nat) (v : Value), cu[i]? = some v → closN 4 v = true) {xs : List Nat}
include p1 p2 hcu in
theorem entPa (l : List OpD) (k : Int) : EntOK 2 [7, 8, 10] [0, 1, 2, 3, 4, 5] (outPa b1 b2 N M l cu (nwF xs) k) (tmA 192 (LPa N k)) (HPa b1 b2 N M l cu (nwF xs)).toArray := by
  refine entOK (H2 := HPa b1 b2 N M l cu (nwF xs)) rfl rfl (by decide) ?_ ?_
  · exact .cons (.ptr 4 4 0 none (show (4 : Nat) < 6 by decide) rfl) (.cons (.slice 5 5 0 none _ _ _ (show (5 : Nat) < 6 by decide) rfl) (.cons (.clos rfl) .nil))
  · refine relBs_pl p1 (relBs_pl p2 (relBs_own (opsB_plain l true) (relBs_own hcu (.some (RelK.list ?_) (relBs_own (plain_flat fC_cl xs 24 1 true) .nil)))))
    exact .cons (.clos rfl) (.cons (.slice 2 2 0 none _ _ _ (show (2 : Nat) < 6 by decide) rfl) (.cons (.slice 3 3 0 none _ _ _ (show (3 : Nat) < 6 by decide) rfl) .nil))
include p1 p2 hcu in
theorem roundPa {ops : List OpD} {k : Nat} {o : OpD} (ho : ops[k]? = some o) (hf : FlOK o.C) (hM : ops.length = M) (h9 : M < 1000) :
    CodeB Try.prog 2 bodyPa (tmA 192 (LPa N (k : Nat))) (HPa b1 b2 N M (opsAt ops k) cu (nwF xs)).toArray (.normal, tmA 192 (LPa N ((k + 1 : Nat) : Int)), (HPa b1 b2 N M (opsAt ops (k + 1)) cu (nwF xs)).toArray) := by
  have hk := (List.getElem?_eq_some_iff.1 ho).1
  have hg := opsAt_get ho
  refine rndB_to (rdPa b1 b2 N M (opsAt ops k) (opsAt ops (k + 1)) cu (nwF xs) (k : Nat) ((k + 1 : Nat) : Int) ⟨2, k * 4, none⟩ ⟨2, k * 4 + 3, none⟩ ⟨2, k * 4, none⟩ ⟨2, k * 4 + 3, none⟩ o.C (fl o.C)) okPa ?_ (entPa p1 p2 hcu _ _)
  refine ⟨cmp_ok (decide_eq_true (by omega)), ixOp (by omega) (by omega) (by simp), fa_op _ _, ?_, (fl_ok hf).1, ixOp (by omega) (by omega) (by simp), fa_op _ _, ?_, addK k (by omega), trivial⟩
  · exact rd_one (g := fun x : Value => x) (isPlainB_ex ty_f) (B := ⟨((opsAt ops k).flatMap opC).toArray, 68, 4, true⟩) (l := (opsAt ops k).flatMap opC) rfl (by rw [flatId]) (flat_get _ _ _ hg) rfl
  · obtain ⟨i, hi, hz⟩ := sizeB_ex sz_f
    have hlen : k * 4 + 3 < ((opsAt ops k).flatMap opC).length := (List.getElem?_eq_some_iff.1 (flat_get _ _ _ hg)).1
    refine (wr_at (f := fun x : Value => [x]) (n := 1) (fun _ => rfl) hi hz (H := (HPa b1 b2 N M (opsAt ops k) cu (nwF xs)).toArray) (b := 2) (k := k * 4 + 3) (B := ⟨((opsAt ops k).flatMap opC).toArray, 68, 4, true⟩) (l := (opsAt ops k).flatMap opC) (a := .float .f64 (fl o.C)) rfl rfl rfl rfl (by rw [flatId]) hlen (by omega)).trans ?_
    rw [flatId, flat_set _ _ _ _ hg]
    have := opsAt_set ho
    unfold flo at this
    rw [this]
    rfl
include p1 p2 hcu in
theorem roundsPa {ops : List OpD} (hf : ∀ o ∈ ops, FlOK o.C) (hM : ops.length = M) (h9 : M < 1000) : ∀ (d k : Nat), k + d = M →
    RdsB Try.prog 2 bodyPa (tmA 192 (LPa N (k : Nat))) (HPa b1 b2 N M (opsAt ops k) cu (nwF xs)).toArray (.exit 2, tmA 192 (LPa N M), (HPa b1 b2 N M (ops.map flo) cu (nwF xs)).toArray)
  | 0, k, hk => by
    have e : k = M := by omega
    subst e
    rw [show opsAt ops k = ops.map flo by rw [← hM]; exact opsAt_full ops]
    exact .last (rndB_to (rdPaEnd b1 b2 N k (ops.map flo) cu (nwF xs) (k : Nat)) okPa ⟨cmp_ok (decide_eq_false (by omega)), trivial⟩ (entPa p1 p2 hcu _ _)) (by simp)
  | d + 1, k, hk => by
    have hlt : k < ops.length := by omega
    exact .next (roundPa p1 p2 hcu (List.getElem?_eq_getElem hlt) (hf _ (List.getElem_mem hlt)) hM h9) (roundsPa hf hM h9 d (k + 1) (by omega))

/-! registers -/
variable {yl : List (Nat → P2)} {ops : List OpD}
include p1 p2 hcu in
theorem entPb (r : List Nat) (R : List Nat) (S T : Nat) (hR : R = [0, 1, 2, 3, 4, 5, S, T]) (hS : 6 ≤ S) (hT : S < T) (k : Int) :
    EntOK 2 [7, 8, 13, 14, 15] R (192, [ptM 4, slV 5 N, slV S N, slV T M, .int .i64 k], (HPb b1 b2 N M ops cu (nwF xs) (mB yl) r).map some) (tmA 192 (LPb N M k)) (HPb b1 b2 N M ops cu (nwF xs) (mB yl) r).toArray := by
  subst hR
  refine entOK (H2 := HPb b1 b2 N M ops cu (nwF xs) (mB yl) r) rfl rfl ?_ ?_ ?_
  · simp
    omega
  · exact .cons (.ptr 4 4 0 none (show (4 : Nat) < 8 by decide) rfl) (.cons (.slice 5 5 0 none _ _ _ (show (5 : Nat) < 8 by decide) rfl) (.cons (.slice 6 S 0 none _ _ _ (show (6 : Nat) < 8 by decide) rfl) (.cons (.slice 7 T 0 none _ _ _ (show (7 : Nat) < 8 by decide) rfl) (.cons (.clos rfl) .nil))))
  · refine relBs_pl p1 (relBs_pl p2 (relBs_own (opsB_plain ops true) (relBs_own hcu (.some (RelK.list ?_) (relBs_own (plain_flat fC_cl xs 24 1 true) (relBs_own (mB_cl yl) (relBs_own (plain_flat fC_cl r 24 1 true) .nil)))))))
    exact .cons (.clos rfl) (.cons (.slice 2 2 0 none _ _ _ (show (2 : Nat) < 8 by decide) rfl) (.cons (.slice 3 3 0 none _ _ _ (show (3 : Nat) < 8 by decide) rfl) .nil))
include p1 p2 in
theorem entPr : EntOK 2 [6] [0, 1] (outPr b1 b2) (tmA 192 [(6, .bool true)]) #[b1, b2] := by
  refine entOK (H2 := [b1, b2]) rfl rfl (by decide) (.cons (.clos rfl) .nil) (relBs_pl p1 (relBs_pl p2 .nil))
/-- What is written, and read again. -/
theorem wrPb {k : Nat} (hk : k < M) {F : Nat → Nat} (hn : NN (F k)) (c : List (Option ABlk)) :
    okAll Try.prog (lgPw (HPb b1 b2 N M ops cu (nwF xs) (mB yl) (rL 0 F M k) ++ c) (HPb b1 b2 N M ops cu (nwF xs) (mB yl) (rL 0 F M (k + 1)) ++ c) M (k : Nat) ⟨7, k, none⟩ ⟨7, k, none⟩ (F k) (F k) (fabs (F k)) (decide (ix (fabs (F k)) < ix 4832362400168542208))) := by
  refine ⟨ixF (by omega) (by omega) (by simp), ?_, ixF (by omega) (by omega) (by simp), rdF (B := ⟨((rL 0 F M (k + 1)).flatMap fC).toArray, 24, 1, true⟩) (l := rL 0 F M (k + 1)) (k := k) rfl rfl (rL_get 0 F (by omega) hk) rfl, abs_runs hn, (fc .lss rfl _ _).trans (lss_ix (abs_ix hn).1 ⟨by decide, by decide +kernel, by decide +kernel⟩), trivial⟩
  obtain ⟨i, hi, hz⟩ := sizeB_ex sz_f
  refine (wr_at (f := fC) (n := 1) (fun _ => rfl) hi hz (H := (HPb b1 b2 N M ops cu (nwF xs) (mB yl) (rL 0 F M k) ++ c).toArray) (b := 7) (k := k) (B := ⟨((rL 0 F M k).flatMap fC).toArray, 24, 1, true⟩) (l := rL 0 F M k) (a := F k) rfl rfl rfl rfl rfl (by rw [rL_len]; exact hk) (by omega)).trans ?_
  rw [rL_set 0 F M k hk]
  congr 1
/-- A register that was reckoned. -/
theorem rgPb {A : Int} {k : Nat} (h0 : 0 ≤ A) (h1 : A < k) (hk : k ≤ M) (F : Nat → Nat) (c : List (Option ABlk)) : okAll Try.prog (lgPx (HPb b1 b2 N M ops cu (nwF xs) (mB yl) (rL 0 F M k) ++ c) (slV 7 M) A ⟨7, A.toNat, none⟩ (F A.toNat)) :=
  ⟨ixF h0 (by omega) rfl, rdF (B := ⟨((rL 0 F M k).flatMap fC).toArray, 24, 1, true⟩) (l := rL 0 F M k) (k := A.toNat) rfl rfl (rL_get 0 F (by omega) (by omega)) rfl, trivial⟩
theorem hdPb {k : Nat} {o : OpD} (ho : ops[k]? = some o) (hM : ops.length = M) (r : List Nat) : okAll Try.prog (lgPh (HPb b1 b2 N M ops cu (nwF xs) (mB yl) r) M (k : Nat) ⟨2, k * 4, none⟩ (opV o.K o.A o.B o.C)) := by
  have hk := (List.getElem?_eq_some_iff.1 ho).1
  exact ⟨cmp_ok (decide_eq_true (by omega)), ixOp (by omega) (by omega) (by simp), rdOp (B := ⟨(ops.flatMap opC).toArray, 68, 4, true⟩) (l := ops) (k := k) rfl rfl ho rfl, trivial⟩
theorem vrPb {A : Int} (h0 : 0 ≤ A) (h1 : A < N) (hx : xs.length = N) (r : List Nat) (c : List (Option ABlk)) : okAll Try.prog (lgPx (HPb b1 b2 N M ops cu (nwF xs) (mB yl) r ++ c) (slV 5 N) A ⟨5, A.toNat, none⟩ (xs.getD A.toNat 0)) :=
  ⟨ixF h0 h1 rfl, rdF (B := ⟨(xs.flatMap fC).toArray, 24, 1, true⟩) (l := xs) (k := A.toNat) rfl rfl (getD_at 0 (by omega)) rfl, trivial⟩
/-- A round: on, or back with the truth. -/
def RdPbOK (b1 b2 : Option ABlk) (N M : Nat) (cu : Array Value) (xs : List Nat) (yl : List (Nat → P2)) (ops : List OpD) (F : Nat → Nat) (k : Nat) : Prop :=
  CodeB Try.prog 2 bodyPb (tmA 192 (LPb N M (k : Nat))) (HPb b1 b2 N M ops cu (nwF xs) (mB yl) (rL 0 F M k)).toArray
    (if ix (fabs (F k)) < ix 4832362400168542208 then (.normal, tmA 192 (LPb N M ((k + 1 : Nat) : Int)), (HPb b1 b2 N M ops cu (nwF xs) (mB yl) (rL 0 F M (k + 1))).toArray) else (.ret, tmA 192 [(6, .bool true)], #[b1, b2]))
include p1 p2 hcu in
theorem roundPb (hok : ∀ k o, ops[k]? = some o → opOkD k N o) (h4 : ∀ o ∈ ops, o.K ≤ 4) (hc : ∀ o ∈ ops, Fi o.C) (hM : ops.length = M) (h9 : M < 1000) (hx : xs.length = N) (hxf : ∀ i, Fi (xs.getD i 0)) {k : Nat} (hk : k < M) (hf : ∀ i, i < k → Fi (regG ops xs i)) : RdPbOK b1 b2 N M cu xs yl ops (regG ops xs) k := by
  have hn := regG_nn hok hc hxf (by omega) hf
  have ho := List.getElem?_eq_getElem (l := ops) (i := k) (by omega)
  generalize ops[k]'(by omega) = o at ho
  have hm := List.mem_of_getElem? ho
  have hokk := hok k o ho
  have e1 : regG ops xs k = stepT (fun c => c) opG (fun i => xs.getD i 0) (regG ops xs) o := regT_at ho hokk
  have hd := hdPb (b1 := b1) (b2 := b2) (N := N) (cu := cu) (xs := xs) (yl := yl) ho hM (rL 0 (regG ops xs) M k)
  have hw := fun c => wrPb (b1 := b1) (b2 := b2) (N := N) (cu := cu) (xs := xs) (yl := yl) (ops := ops) hk (F := regG ops xs) hn c
  have e0 := entPb p1 p2 hcu (N := N) (M := M) (xs := xs) (yl := yl) (ops := ops) (rL 0 (regG ops xs) M (k + 1)) _ 6 7 rfl (by decide) (by decide) ((k + 1 : Nat) : Int)
  have ek := entPr p1 p2
  have hadd : okAll Try.prog (lgPn (k : Nat) ((k + 1 : Nat) : Int)) := ⟨addK k (by omega), trivial⟩
  have h44 := h4 o hm
  unfold RdPbOK
  unfold stepT at e1
  by_cases k0 : o.K = 0
  · rw [if_pos k0] at e1
    rw [k0] at hd
    by_cases ht : ix (fabs (regG ops xs k)) < ix 4832362400168542208
    · rw [if_pos ht]
      rw [decide_eq_true ht] at hw
      refine rndB_to (rdPb_0 b1 b2 N M ops cu (nwF xs) (mB yl) (rL 0 (regG ops xs) M k) (rL 0 (regG ops xs) M (k + 1)) (k : Nat) ((k + 1 : Nat) : Int) o.A o.B o.C 0 0 (regG ops xs k) (fabs (regG ops xs k)) ⟨2, k * 4, none⟩ ⟨0, 0, none⟩ ⟨0, 0, none⟩ ⟨7, k, none⟩ ⟨7, k, none⟩) okPb (okApp' (okApp' hd ?_) hadd) e0
      have := hw [obE 0 o.A o.B o.C]
      rwa [e1] at this ⊢
    · rw [if_neg ht]
      rw [decide_eq_false ht] at hw
      refine rndB_to (rdPr_0 b1 b2 N M ops cu (nwF xs) (mB yl) (rL 0 (regG ops xs) M k) (rL 0 (regG ops xs) M (k + 1)) (k : Nat) ((k + 1 : Nat) : Int) o.A o.B o.C 0 0 (regG ops xs k) (fabs (regG ops xs k)) ⟨2, k * 4, none⟩ ⟨0, 0, none⟩ ⟨0, 0, none⟩ ⟨7, k, none⟩ ⟨7, k, none⟩) okPb (okApp' hd ?_) ek
      have := hw [obE 0 o.A o.B o.C]
      rwa [e1] at this ⊢
  by_cases k1 : o.K = 1
  · obtain ⟨a0, a1⟩ : 0 ≤ o.A ∧ o.A < N := by
      rcases hokk with h | h | h
      · omega
      · exact h.2
      · omega
    rw [if_neg k0, if_pos k1] at e1
    rw [k1] at hd
    have hv := vrPb (b1 := b1) (b2 := b2) (M := M) (cu := cu) (yl := yl) (ops := ops) a0 a1 hx (rL 0 (regG ops xs) M k) [obE 1 o.A o.B o.C]
    by_cases ht : ix (fabs (regG ops xs k)) < ix 4832362400168542208
    · rw [if_pos ht]
      rw [decide_eq_true ht] at hw
      refine rndB_to (rdPb_1 b1 b2 N M ops cu (nwF xs) (mB yl) (rL 0 (regG ops xs) M k) (rL 0 (regG ops xs) M (k + 1)) (k : Nat) ((k + 1 : Nat) : Int) o.A o.B o.C (xs.getD o.A.toNat 0) 0 (regG ops xs k) (fabs (regG ops xs k)) ⟨2, k * 4, none⟩ ⟨5, o.A.toNat, none⟩ ⟨0, 0, none⟩ ⟨7, k, none⟩ ⟨7, k, none⟩) okPb (okApp' (okApp' (okApp' hd hv) ?_) hadd) e0
      have := hw [obE 1 o.A o.B o.C]
      rwa [e1] at this ⊢
    · rw [if_neg ht]
      rw [decide_eq_false ht] at hw
      refine rndB_to (rdPr_1 b1 b2 N M ops cu (nwF xs) (mB yl) (rL 0 (regG ops xs) M k) (rL 0 (regG ops xs) M (k + 1)) (k : Nat) ((k + 1 : Nat) : Int) o.A o.B o.C (xs.getD o.A.toNat 0) 0 (regG ops xs k) (fabs (regG ops xs k)) ⟨2, k * 4, none⟩ ⟨5, o.A.toNat, none⟩ ⟨0, 0, none⟩ ⟨7, k, none⟩ ⟨7, k, none⟩) okPb (okApp' (okApp' hd hv) ?_) ek
      have := hw [obE 1 o.A o.B o.C]
      rwa [e1] at this ⊢
  obtain ⟨k2, _, a0, a1, q0, q1⟩ : 2 ≤ o.K ∧ o.K ≤ 5 ∧ 0 ≤ o.A ∧ o.A < k ∧ 0 ≤ o.B ∧ o.B < k := by
    rcases hokk with h | h | h
    · omega
    · omega
    · exact h
  rw [if_neg k0, if_neg k1] at e1
  have ra := fun K => rgPb (b1 := b1) (b2 := b2) (N := N) (M := M) (cu := cu) (xs := xs) (yl := yl) (ops := ops) a0 a1 (by omega) (regG ops xs) [obE K o.A o.B o.C]
  have rb := fun K => rgPb (b1 := b1) (b2 := b2) (N := N) (M := M) (cu := cu) (xs := xs) (yl := yl) (ops := ops) q0 q1 (by omega) (regG ops xs) [obE K o.A o.B o.C]
  have : o.K = 2 ∨ o.K = 3 ∨ o.K = 4 := by omega
  unfold opG at e1
  rcases this with kk | kk | kk
  · rw [kk, if_pos rfl] at e1
    rw [kk] at hd
    by_cases ht : ix (fabs (regG ops xs k)) < ix 4832362400168542208
    · rw [if_pos ht]
      rw [decide_eq_true ht] at hw
      refine rndB_to (rdPb_2 b1 b2 N M ops cu (nwF xs) (mB yl) (rL 0 (regG ops xs) M k) (rL 0 (regG ops xs) M (k + 1)) (k : Nat) ((k + 1 : Nat) : Int) o.A o.B o.C (regG ops xs o.A.toNat) (regG ops xs o.B.toNat) (regG ops xs k) (fabs (regG ops xs k)) ⟨2, k * 4, none⟩ ⟨7, o.A.toNat, none⟩ ⟨7, o.B.toNat, none⟩ ⟨7, k, none⟩ ⟨7, k, none⟩) okPb (okApp' (okApp' (okApp' (okApp' hd (ra _)) (rb _)) ?_) hadd) e0
      have := hw [obE 2 o.A o.B o.C]
      rwa [e1] at this ⊢
    · rw [if_neg ht]
      rw [decide_eq_false ht] at hw
      refine rndB_to (rdPr_2 b1 b2 N M ops cu (nwF xs) (mB yl) (rL 0 (regG ops xs) M k) (rL 0 (regG ops xs) M (k + 1)) (k : Nat) ((k + 1 : Nat) : Int) o.A o.B o.C (regG ops xs o.A.toNat) (regG ops xs o.B.toNat) (regG ops xs k) (fabs (regG ops xs k)) ⟨2, k * 4, none⟩ ⟨7, o.A.toNat, none⟩ ⟨7, o.B.toNat, none⟩ ⟨7, k, none⟩ ⟨7, k, none⟩) okPb (okApp' (okApp' (okApp' hd (ra _)) (rb _)) ?_) ek
      have := hw [obE 2 o.A o.B o.C]
      rwa [e1] at this ⊢
  · rw [kk, if_neg (by decide), if_pos rfl] at e1
    rw [kk] at hd
    by_cases ht : ix (fabs (regG ops xs k)) < ix 4832362400168542208
    · rw [if_pos ht]
      rw [decide_eq_true ht] at hw
      refine rndB_to (rdPb_3 b1 b2 N M ops cu (nwF xs) (mB yl) (rL 0 (regG ops xs) M k) (rL 0 (regG ops xs) M (k + 1)) (k : Nat) ((k + 1 : Nat) : Int) o.A o.B o.C (regG ops xs o.A.toNat) (regG ops xs o.B.toNat) (regG ops xs k) (fabs (regG ops xs k)) ⟨2, k * 4, none⟩ ⟨7, o.A.toNat, none⟩ ⟨7, o.B.toNat, none⟩ ⟨7, k, none⟩ ⟨7, k, none⟩) okPb (okApp' (okApp' (okApp' (okApp' hd (ra _)) (rb _)) ?_) hadd) e0
      have := hw [obE 3 o.A o.B o.C]
      rwa [e1] at this ⊢
    · rw [if_neg ht]
      rw [decide_eq_false ht] at hw
      refine rndB_to (rdPr_3 b1 b2 N M ops cu (nwF xs) (mB yl) (rL 0 (regG ops xs) M k) (rL 0 (regG ops xs) M (k + 1)) (k : Nat) ((k + 1 : Nat) : Int) o.A o.B o.C (regG ops xs o.A.toNat) (regG ops xs o.B.toNat) (regG ops xs k) (fabs (regG ops xs k)) ⟨2, k * 4, none⟩ ⟨7, o.A.toNat, none⟩ ⟨7, o.B.toNat, none⟩ ⟨7, k, none⟩ ⟨7, k, none⟩) okPb (okApp' (okApp' (okApp' hd (ra _)) (rb _)) ?_) ek
      have := hw [obE 3 o.A o.B o.C]
      rwa [e1] at this ⊢
  · rw [kk, if_neg (by decide), if_neg (by decide)] at e1
    rw [kk] at hd
    by_cases ht : ix (fabs (regG ops xs k)) < ix 4832362400168542208
    · rw [if_pos ht]
      rw [decide_eq_true ht] at hw
      refine rndB_to (rdPb_4 b1 b2 N M ops cu (nwF xs) (mB yl) (rL 0 (regG ops xs) M k) (rL 0 (regG ops xs) M (k + 1)) (k : Nat) ((k + 1 : Nat) : Int) o.A o.B o.C (regG ops xs o.A.toNat) (regG ops xs o.B.toNat) (regG ops xs k) (fabs (regG ops xs k)) ⟨2, k * 4, none⟩ ⟨7, o.A.toNat, none⟩ ⟨7, o.B.toNat, none⟩ ⟨7, k, none⟩ ⟨7, k, none⟩) okPb (okApp' (okApp' (okApp' (okApp' hd (ra _)) (rb _)) ?_) hadd) e0
      have := hw [obE 4 o.A o.B o.C]
      rwa [e1] at this ⊢
    · rw [if_neg ht]
      rw [decide_eq_false ht] at hw
      refine rndB_to (rdPr_4 b1 b2 N M ops cu (nwF xs) (mB yl) (rL 0 (regG ops xs) M k) (rL 0 (regG ops xs) M (k + 1)) (k : Nat) ((k + 1 : Nat) : Int) o.A o.B o.C (regG ops xs o.A.toNat) (regG ops xs o.B.toNat) (regG ops xs k) (fabs (regG ops xs k)) ⟨2, k * 4, none⟩ ⟨7, o.A.toNat, none⟩ ⟨7, o.B.toNat, none⟩ ⟨7, k, none⟩ ⟨7, k, none⟩) okPb (okApp' (okApp' (okApp' hd (ra _)) (rb _)) ?_) ek
      have := hw [obE 4 o.A o.B o.C]
      rwa [e1] at this ⊢
include p1 p2 hcu in
theorem roundsPb (hok : ∀ k o, ops[k]? = some o → opOkD k N o) (h4 : ∀ o ∈ ops, o.K ≤ 4) (hc : ∀ o ∈ ops, Fi o.C) (hM : ops.length = M) (h9 : M < 1000) (hx : xs.length = N) (hxf : ∀ i, Fi (xs.getD i 0)) : ∀ (d k : Nat), k + d = M → (∀ i, i < k → Fi (regG ops xs i)) →
    RdsB Try.prog 2 bodyPb (tmA 192 (LPb N M (k : Nat))) (HPb b1 b2 N M ops cu (nwF xs) (mB yl) (rL 0 (regG ops xs) M k)).toArray (.ret, tmA 192 [(6, .bool true)], #[b1, b2]) ∨
    ((∀ i, i < M → Fi (regG ops xs i)) ∧ RdsB Try.prog 2 bodyPb (tmA 192 (LPb N M (k : Nat))) (HPb b1 b2 N M ops cu (nwF xs) (mB yl) (rL 0 (regG ops xs) M k)).toArray (.exit 6, tmA 192 (LPb N M M), (HPb b1 b2 N M ops cu (nwF xs) (mB yl) (rL 0 (regG ops xs) M M)).toArray))
  | 0, k, hk, hf => by
    have e : k = M := by omega
    subst e
    exact .inr ⟨hf, .last (rndB_to (rdPbEnd b1 b2 N k ops cu (nwF xs) (mB yl) (rL 0 (regG ops xs) k k) (k : Nat)) okPb ⟨cmp_ok (decide_eq_false (by omega)), trivial⟩ (entPb p1 p2 hcu _ _ 6 7 rfl (by decide) (by decide) _)) (by simp)⟩
  | d + 1, k, hk, hf => by
    have r := roundPb p1 p2 hcu (yl := yl) hok h4 hc hM h9 hx hxf (show k < M by omega) hf
    have hn := regG_nn hok hc hxf (show k < ops.length by omega) hf
    unfold RdPbOK at r
    by_cases ht : ix (fabs (regG ops xs k)) < ix 4832362400168542208
    · rw [if_pos ht] at r
      have hf' : ∀ i, i < k + 1 → Fi (regG ops xs i) := fun i hi => by
        by_cases e : i = k
        · rw [e]; exact small_fi hn ht
        · exact hf i (by omega)
      rcases roundsPb hok h4 hc hM h9 hx hxf d (k + 1) (by omega) hf' with h | ⟨h1, h2⟩
      · exact .inl (.next r h)
      · exact .inr ⟨h1, .next r h2⟩
    · rw [if_neg ht] at r
      exact .inl (.last r (by simp))
end

/-! model.Of of a number in a row -/
def OfRun (N i : Nat) : Prop := ∀ f : Nat → Nat, (askN noF noC 12 24 #[.slice (some ⟨0, i, none⟩) 1 1] #[some ⟨((List.range N).flatMap fun i => fC (f i)).toArray, 24, 1, false⟩] []).map (fun r => (r.1, r.2.2)) = some (mW (ofM [f i]), [])
theorem ofRun_1_0 : OfRun 1 0 := fun _ => by kernel_rfl
theorem ofRun_2_0 : OfRun 2 0 := fun _ => by kernel_rfl
theorem ofRun_2_1 : OfRun 2 1 := fun _ => by kernel_rfl
theorem ofRun_3_0 : OfRun 3 0 := fun _ => by kernel_rfl
theorem ofRun_3_1 : OfRun 3 1 := fun _ => by kernel_rfl
theorem ofRun_3_2 : OfRun 3 2 := fun _ => by kernel_rfl
theorem ofRun {N i : Nat} (h : i < N) (h3 : N ≤ 3) : OfRun N i := by
  have : (N = 1 ∧ i = 0) ∨ (N = 2 ∧ i = 0) ∨ (N = 2 ∧ i = 1) ∨ (N = 3 ∧ i = 0) ∨ (N = 3 ∧ i = 1) ∨ (N = 3 ∧ i = 2) := by omega
  rcases this with ⟨rfl, rfl⟩ | ⟨rfl, rfl⟩ | ⟨rfl, rfl⟩ | ⟨rfl, rfl⟩ | ⟨rfl, rfl⟩ | ⟨rfl, rfl⟩
  · exact ofRun_1_0
  · exact ofRun_2_0
  · exact ofRun_2_1
  · exact ofRun_3_0
  · exact ofRun_3_1
  · exact ofRun_3_2
section
variable {l : List (Option ABlk)}
theorem ofAt_rn {N i b : Nat} (h : i < N) (h3 : N ≤ 3) {f : Nat → Nat} (hb : l[b]? = some (nwF ((List.range N).map f))) : (rnO 24 #[.slice (some ⟨b, i, none⟩) 1 1] l (mW (ofM [f i])) []).ok Try.prog := by
  show Runs _ _ _ _ _ (_ ++ #[])
  rw [Array.append_empty]
  obtain ⟨H', r⟩ := tells_of (ofRun h h3 f) trivial
  have r2 : Runs Try.prog 24 #[.slice (some ⟨0, i, none⟩) 1 1] #[some ⟨((List.range N).flatMap fun i => fC (f i)).toArray, 24, 1, false⟩] (mW (ofM [f i])) (#[some ⟨((List.range N).flatMap fun i => fC (f i)).toArray, 24, 1, false⟩] ++ #[]) := by
    rw [Array.append_empty]
    have e : (#[some ⟨((List.range N).flatMap fun i => fC (f i)).toArray, 24, 1, false⟩] : AHeap) = froze #[some ⟨((List.range N).flatMap fun i => fC (f i)).toArray, 24, 1, false⟩] := rfl
    rw [e] at r
    exact r.reads rfl
  refine r2.moveR (fun i => b) rfl ?_ ?_ rfl ?_
  · intro i hi
    have : i = 0 := by simp at hi; omega
    subst this
    exact ⟨_, rfl⟩
  · intro i C hC
    have : i = 0 := by have := (Array.getElem?_eq_some_iff.1 hC).1; simp at this; omega
    subst this
    injection hC with hC; injection hC with hC; subst hC
    exact ⟨rfl, plain_flat (fun _ => fC_cl _) _ _ _ _, _, fz_at hb, by rw [List.flatMap_map]⟩
  · intro j g1 g2
    have : j = 0 := by simp at g1; omega
    subst this
    exact .inl (.slice 0 i _ _ (by simp))
/-- model.Eval of any field of few operations. -/
theorem evMG_rn {ops : List OpD} {out : List Int} {xs : List (Nat → P2)} {N M bo bu bx s : Nat} (hM : ops.length = M) (h3 : 1 ≤ M) (h4 : M < 1000) (h1 : 1 ≤ N) (h2 : N ≤ 3) (hx : xs.length = N) (ho : out.length = N) (hok : ∀ k o, ops[k]? = some o → opOkD k N o) (hu : ∀ u ∈ out, 0 ≤ u ∧ u < M) (hr : ∀ k, AllN (regM ops xs k))
    {co cu : Array Value} {B : ABlk} (q0 : l[bo]? = some (opB co)) (e0 : co = (opsB ops true).cells) (q1 : l[bu]? = some (iB cu)) (e1 : cu = (intB out true).cells) (q2 : l[bx]? = some (some B)) (e2 : B.cells = (xs.flatMap mC).toArray) (hs : s = l.length) {fy : Nat → Nat → P2} (hy : evOut (regM ops xs) out = (List.range N).map fy) :
    (rnO 46 #[tpV bo bu N M, slV bx N] l (slV s N) [mB ((List.range N).map fy)]).ok Try.prog := by
  subst hM hs
  rw [← hy]
  have hG : EvM (some (opsB ops false)) (some (intB out false)) (some ⟨(xs.flatMap mC).toArray, 29, 20, false⟩) N ops out xs := ⟨⟨_, rfl, rfl⟩, ⟨_, rfl, rfl⟩, ⟨_, rfl, rfl⟩, hok, hx, ho, hu⟩
  have r1 := EvM.eval hG (pl_of (opsB_plain _ _)) (pl_of (intB_plain _ _)) (pl_of (plain_flat mC_cl _ _ _ _)) hr rfl rfl rfl h3 h4 h1 h2
  have r2 := ev_move r1 rfl rfl rfl rfl (opsB_plain _ _) (intB_plain _ _) (plain_flat mC_cl _ _ _ _) (plain_flat mC_cl _ _ _ _) (H := froze l.toArray) (fz_at q0) e0 (fz_at q1) e1 (fz_at q2) e2
  rw [fz_size] at r2
  exact r2
end

end Go.Proofs.Ytnbbmihlokajaaa

/-!  The law ModelPoints returns true, whatever it is handed. -/
namespace Go.Proofs.Ytnbbmihlokajaaa
open Go
set_option linter.unusedVariables false
set_option linter.unusedSimpArgs false
set_option maxRecDepth 100000

theorem zr_fl : zeroB Try.prog 24 1 = true := by kernel_rfl
theorem zc_fl : zeroC Try.prog 24 = fC 0 := by kernel_rfl
theorem grM_len (N : Nat) (f : Nat → Nat → P2) : (grM N f).length = 2 * N := by
  unfold grM
  rw [List.length_flatMap]
  simp only [List.length_cons, List.length_nil]
  rw [List.map_const', List.sum_replicate_nat, List.length_range]
  omega
theorem finPt (N : Nat) (h1 : 1 ≤ N) (h2 : N ≤ 3) : FinP N := by
  have : N = 1 ∨ N = 2 ∨ N = 3 := by omega
  rcases this with rfl | rfl | rfl
  · exact finP_1
  · exact finP_2
  · exact finP_3
theorem finPtr (N : Nat) (h1 : 1 ≤ N) (h2 : N ≤ 3) : FinPr N := by
  have : N = 1 ∨ N = 2 ∨ N = 3 := by omega
  rcases this with rfl | rfl | rfl
  · exact finPr_1
  · exact finPr_2
  · exact finPr_3
theorem evOut_rangeM {α : Type} (F : Nat → α) (u : Nat → Int) (N : Nat) : evOut F ((List.range N).map u) = (List.range N).map fun i => F (u i).toNat := by
  unfold evOut
  rw [List.map_map]
  rfl
theorem modelPoints_pad {o o2 : Option ABlk} (p1 : PlO o) (p2 : PlO o2) {va vb : Value} {zs ms : List Int} (ha : Handed #[o, o2] zs va) (hb : Handed #[o, o2] ms vb) (n : Int) :
    Tells 14 #[.int .i64 n, va, vb] #[o, o2] (.bool true) := by
  obtain ⟨n1, n2⟩ := mkN_le n
  obtain ⟨m1, m2⟩ := mkM_le n zs
  have hN : mkN n = mkN n := rfl
  generalize hNN : mkN n = N at n1 n2
  generalize hMM : mkM n zs = M at m1 m2
  have hh := fun (c : List (Option ABlk)) {zs : List Int} {v : Value} (h : Handed [o, o2].toArray zs v) => h.list c
  let ops := mkOps n zs false
  let ops2 := ops.map flo
  let cu := (intB (mkOut n M) true).cells
  let fx : Nat → Nat := fun i => vw8 (Fz (vlI ms i))
  let gx : Nat → Nat := fun i => fl (fx i)
  let xs : List Nat := (List.range N).map gx
  let f : Nat → Nat → P2 := fun i => ofM [gx i]
  let Xs : List (Nat → P2) := (List.range N).map f
  let F := regG ops2 xs
  let u : Nat → Int := mkU n M
  let g : Nat → Nat → P2 := fun i => regM ops2 Xs (u i).toNat
  have hlen : ops.length = M := by show (mkOps n zs false).length = M; rw [mkOps_len, hMM]
  have hlen2 : ops2.length = M := by show (ops.map flo).length = M; rw [List.length_map]; exact hlen
  have hfl := mk_floors n zs
  have hok : ∀ k o, ops2[k]? = some o → opOkD k N o := by
    intro k q hq
    rw [List.getElem?_map] at hq
    cases e : ops[k]? with
    | none => rw [e] at hq; cases hq
    | some p =>
      rw [e] at hq
      injection hq with hq
      have := mk_ok n zs false k p e
      rw [hNN] at this
      rw [← hq]
      exact this
  have h4 : ∀ o ∈ ops2, o.K ≤ 4 := by
    intro q hq
    obtain ⟨p, hp, rfl⟩ := List.mem_map.1 hq
    exact (hfl p hp).2
  have hc : ∀ o ∈ ops2, Fi o.C := by
    intro q hq
    obtain ⟨p, hp, rfl⟩ := List.mem_map.1 hq
    exact (fl_ok (hfl p hp).1).2
  have hgx : ∀ i, Fi (gx i) := fun i => (fl_ok (vl_floor ms i)).2
  have hxl : xs.length = N := by show ((List.range N).map gx).length = N; simp
  have hXl : Xs.length = N := by show ((List.range N).map f).length = N; simp
  have hxf : ∀ i, Fi (xs.getD i 0) := fun i => getD_allM (Q := Fi) fi_zero.1 (fun a ha => by obtain ⟨j, _, rfl⟩ := List.mem_map.1 ha; exact hgx j) i
  have hpt0 : MIn 0 zM := ⟨in_ptM fi_zero.1, fun k _ _ => in_ptM fi_zero.1⟩
  have hxX : ∀ i, MIn (xs.getD i 0) (Xs.getD i zM) := by
    intro i
    by_cases hi : i < N
    · have e1 : xs.getD i 0 = gx i := by
        show ((List.range N).map gx).getD i 0 = _
        rw [List.getD_eq_getElem?_getD, List.getElem?_map, List.getElem?_range hi]; rfl
      have e2 : Xs.getD i zM = f i := by
        show ((List.range N).map f).getD i zM = _
        rw [List.getD_eq_getElem?_getD, List.getElem?_map, List.getElem?_range hi]; rfl
      rw [e1, e2]
      exact MIn.pt (hgx i)
    · have e1 : xs.getD i 0 = 0 := by
        rw [List.getD_eq_getElem?_getD, List.getElem?_eq_none (by omega)]; rfl
      have e2 : Xs.getD i zM = zM := by
        rw [List.getD_eq_getElem?_getD, List.getElem?_eq_none (by omega)]; rfl
      rw [e1, e2]
      exact hpt0
  have hn1 : ∀ {a : Nat}, Fi a → AllN (ofM [a]) := fun ha => ofM_n fun x hx => by rw [List.mem_singleton] at hx; subst hx; exact ha.nn
  have hrM : ∀ k, AllN (regM ops2 Xs k) := fun k => regT_all (Q := AllN) zM_n (fun i => getD_allM zM_n (fun X hX => by obtain ⟨j, _, rfl⟩ := List.mem_map.1 hX; exact hn1 (hgx j)) i) opMd_n (fun q hq _ => hn1 (hc q hq)) k
  have hu : ∀ i, 0 ≤ u i ∧ u i < M := fun i => mkU_bd n (by omega) (by omega) i
  have hcu : ∀ (i : Nat) (v : Value), cu[i]? = some v → closN 4 v = true := intB_plain _ _
  have o0 : okAll Try.prog (lgPt0 o o2 n va vb N M ops cu fx gx) := by
    unfold lgPt0
    refine okApp' (okApp' ⟨known5, ?_, ?_, trivial⟩ (each_ok _ _ fun i hi => ⟨cmp_ok (decide_eq_true (List.mem_range.1 hi)), (fl_ok (vl_floor ms i)).1, trivial⟩)) ⟨cmp_ok (decide_eq_false (by omega)), trivial⟩
    · have := make_rn (l := [o, o2]) n false (hh [] ha) hNN hMM rfl
      rw [hMM] at this
      exact this
    · exact val_rn n1 (by omega) (hh [_, _, _] hb) rfl
  have hl7 : (hpPt o o2 N M ops2 cu gx ++ grM N f).length = 6 + 2 * N := by
    rw [List.length_append, grM_len]
    rfl
  have o1 : okAll Try.prog (lgPt1 o o2 N M ops2 cu gx f g (rL 0 F M 0)) := by
    unfold lgPt1
    refine okApp' (each_ok _ _ fun i hi => ?_) ⟨cmp_ok (decide_eq_false (by omega)), ?_, ?_, trivial⟩
    · have hin := List.mem_range.1 hi
      exact ⟨cmp_ok (decide_eq_true hin), ofAt_rn hin n2 rfl, trivial⟩
    · refine evMG_rn hlen2 (by omega) (by omega) n1 n2 hXl (out := (List.range N).map u) (by simp) hok (fun q hq => ?_) hrM (co := (opsB ops2 true).cells) rfl rfl (cu := cu) rfl ?_ (B := ⟨(Xs.flatMap mC).toArray, 29, 20, true⟩) ?_ rfl hl7.symm (evOut_rangeM _ _ _)
      · obtain ⟨i, _, rfl⟩ := List.mem_map.1 hq
        exact hu i
      · show (intB (mkOut n M) true).cells = _
        unfold mkOut
        rw [hNN]
      · rw [List.getElem?_append_right (by show 6 ≤ _; omega)]
        show (grM N f)[5 + 2 * N - 6]? = _
        rw [show 5 + 2 * N - 6 = 2 * N - 1 by omega]
        exact grM_last n1 n2 f
    · refine (mk_sliceT ty_fs zr_fl zc_fl (M := M) (by omega)).trans ?_
      have hs : (hpPt o o2 N M ops2 cu gx ++ grM N f ++ [mB ((List.range N).map g)]).toArray.size = 7 + 2 * N := by
        rw [List.size_toArray, List.length_append, hl7]
        simp
        omega
      rw [hs, rL_zero]
      congr 2
      apply Array.ext'
      simp [nwF]
  have la := roundsPa p1 p2 hcu (N := N) (xs := xs) (ops := ops) (fun q hq => (hfl q hq).1) hlen (by omega) M 0 (by omega)
  rw [opsAt_zero] at la
  have ea := entPa p1 p2 hcu (N := N) (M := M) (xs := xs) ops 0
  have eb := entPb p1 p2 hcu (N := N) (M := M) (xs := xs) (yl := (List.range N).map g) (ops := ops2) (rL 0 F M 0) _ (6 + 2 * N) (7 + 2 * N) rfl (by omega) (by omega) 0
  rcases roundsPb p1 p2 hcu (yl := (List.range N).map g) hok h4 hc hlen2 (by omega) hxl hxf M 0 (by omega) (fun i hi => by omega) with hr | ⟨hF, hr⟩
  · have fin := finPtr N n1 n2 o o2 n va vb M ops ops2 cu fx gx f g (rL 0 F M 0)
    exact askTB_tells fin (okApp' o0 o1) ⟨⟨_, _, ea, la.loop⟩, ⟨_, _, eb, hr.loop⟩, trivial⟩
  · have fin := finPt N n1 n2 o o2 n va vb M ops ops2 cu fx gx f g (rL 0 F M 0) (rL 0 F M M) u (fun i => ⟨7, (u i).toNat, none⟩) (fun i => F (u i).toNat) (fun i => rangeM (g i))
    refine askTB_tells fin (okApp' (okApp' o0 o1) ?_) ⟨⟨_, _, ea, la.loop⟩, ⟨_, _, eb, hr.loop⟩, trivial⟩
    unfold lgPt2
    refine okApp' (each_ok _ _ fun i hi => ?_) ⟨cmp_ok (decide_eq_false (by omega)), trivial⟩
    have hin := List.mem_range.1 hi
    obtain ⟨u0, u1⟩ := hu i
    have hlt : (u i).toNat < M := by omega
    have hm := reg_min hok h4 hc hxX (u i).toNat (by omega) (fun j hj => hF j (by omega))
    have hi0 := hm.range (hF _ hlt)
    refine ⟨cmp_ok (decide_eq_true hin), rdI (B := intB (mkOut n M) true) (l := mkOut n M) (k := i) rfl rfl ?_ rfl, ixF u0 u1 rfl, rdF (B := ⟨((rL 0 F M M).flatMap fC).toArray, 24, 1, true⟩) (l := rL 0 F M M) (k := (u i).toNat) rfl rfl (rL_get 0 F hlt hlt) rfl, rangeM_runs _, in_yesR hi0.nn hi0.rs.rt.l hi0.rs.rt.h hi0.is.1 hi0.is.2, trivial⟩
    unfold mkOut
    rw [hNN, List.getElem?_map, List.getElem?_range hin]
    rfl

end Go.Proofs.Ytnbbmihlokajaaa
