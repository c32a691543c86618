/- The document's JacIv: its rounds' shapes. -/
import Derived.Test.YtdlinjijccnaeaaJiI
import Derived.Test.YtdlinjijccnaeaaJrR
namespace Go.Proofs.Ytdlinjijccnaeaa
open Go
set_option linter.unusedVariables false
set_option linter.unusedSimpArgs false
set_option maxRecDepth 100000

noncomputable def askRji (g : FuncId) : Nat := if [51, 52, 53, 54, 55].contains g then 1 else if [30, 31, 37, 61, 68, 69, 75, 76, 78, 79, 87, 88, 92, 93, 95, 103, 104, 108, 109, 111, 119, 120, 124, 125, 127, 45, 46, 50, 51, 53, 136, 137, 144, 145, 149, 150, 153, 154, 158, 159, 162, 166, 167, 170, 15, 19, 186, 187, 188, 189].contains (g - 1000000) && Nat.ble 1000000 g then 7 else 0
noncomputable def bodyRji : Code := bodyG Try.prog 29 0
theorem okRji : codeOk q1 bodyRji = true := by kernel_rfl
/-- Rows' slices, as far as k. -/
def dlBi (N M k : Nat) : Option ABlk := some ⟨((List.range M).map fun j => if j < k then slV (6 + j) N else .slice none 0 0).toArray, 26, 1, true⟩
def dlXi (N M k : Nat) : Option ABlk := some ⟨((List.range M).map fun j => if j < k then slV (6 + j) N else if j = k then slV (7 + k) N else .slice none 0 0).toArray, 26, 1, true⟩
def HQi (b0 b1 b2 : Option ABlk) (N M : Nat) (rl : List P2) (dl : Option ABlk) (k : Nat) (S : Nat → Nat → P2) : List (Option ABlk) := [b0, b1, b2, tbE N M, nwPj rl, dl] ++ (List.range k).map (dJI N S)
def rwIi (N i : Nat) (s : Nat → P2) : Option ABlk := nwPj ((List.range N).map fun j => if j < i then s j else (0, 0))
def outRji (b0 b1 b2 : Option ABlk) (N M : Nat) (rl : List P2) (k : Nat) (S : Nat → Nat → P2) (s : Nat → P2) : SlJ :=
  (193, [slV 2 N, ptJ 3, slV 4 M, slV 5 M, .int .i64 (Int.ofNat (k + 1))], (HQi b0 b1 b2 N M rl (dlXi N M k) k S).map some ++ [some (nwPj ((List.range N).map s))])
noncomputable def runRji (b0 b1 b2 : Option ABlk) (N M : Nat) (rl : List P2) (k : Nat) (S : Nat → Nat → P2) (s : List Ans) (ls : List (Option LpA)) : Option (AExit × SlJ × List Obl × List LpO) :=
  (rndB askRji lssC bodyRji (tmA 193 (LRj N M k)) (HQi b0 b1 b2 N M rl (dlBi N M k) k S).toArray s ls).map fun r => (r.1, slG [1, 2, 5, 6, 7] (RRj k) r.2.1 r.2.2.1, r.2.2.2)
noncomputable def lgXi (H : List (Option ABlk)) (x : Value) (A : Int) (p : Addr) (v : P2) : List Obl := lgV H 26 29 x A p (vI v)
noncomputable def lgYi (H : List (Option ABlk)) (x : Value) (A : Int) (p : Addr) (v : Value) : List Obl := lgV H 25 26 x A p v
noncomputable def lgWi (H H2 : List (Option ABlk)) (t1 t2 : TypeId) (x : Value) (A : Int) (p : Addr) (v : Value) : List Obl := [.ex (indexAddrV Try.prog t1 x (.int .i64 A) = some (.pointer (some p))), .ex (writeVar Try.prog H.toArray t2 p v = some H2.toArray)]
def hdAi (b0 b1 b2 : Option ABlk) (N M : Nat) (rl : List P2) (k : Nat) (S : Nat → Nat → P2) (K A B : Int) (C : Nat) (po pd : Addr) : List Ans :=
  [yes true, pAnsT po, vAns (opV K A B C), pAnsT pd, mAnsT undef (HQi b0 b1 b2 N M rl (dlXi N M k) k S ++ [obE K A B C, rwIi N 0 (fun _ => (0, 0))])]
noncomputable def hdOi (b0 b1 b2 : Option ABlk) (N M : Nat) (rl : List P2) (k : Nat) (S : Nat → Nat → P2) (K A B : Int) (C : Nat) (po pd : Addr) : List Obl :=
  lgE (HQi b0 b1 b2 N M rl (dlBi N M k) k S) M k po (opV K A B C) ++ lgWi (HQi b0 b1 b2 N M rl (dlBi N M k) k S ++ [obE K A B C, rwIi N 0 (fun _ => (0, 0))]) (HQi b0 b1 b2 N M rl (dlXi N M k) k S ++ [obE K A B C, rwIi N 0 (fun _ => (0, 0))]) 25 26 (slV 5 M) (Int.ofNat k) pd (slV (7 + k) N)
def RjCi (N k : Nat) : Prop := ∀ (b0 b1 b2 : Option ABlk) (M : Nat) (rl rl2 : List P2) (S : Nat → Nat → P2) (A B : Int) (C : Nat) (po pd pr : Addr),
  runRji b0 b1 b2 N M rl k S (hdAi b0 b1 b2 N M rl k S 0 A B C po pd ++ [pAnsT pr, mAnsT undef (HQi b0 b1 b2 N M rl2 (dlXi N M k) k S ++ [obE 0 A B C, rwIi N 0 (fun _ => (0, 0))])]) [] =
  some (.normal, outRji b0 b1 b2 N M rl2 k S (fun _ => (0, 0)), hdOi b0 b1 b2 N M rl k S 0 A B C po pd ++ lgWi (HQi b0 b1 b2 N M rl (dlXi N M k) k S ++ [obE 0 A B C, rwIi N 0 (fun _ => (0, 0))]) (HQi b0 b1 b2 N M rl2 (dlXi N M k) k S ++ [obE 0 A B C, rwIi N 0 (fun _ => (0, 0))]) 26 29 (slV 4 M) (Int.ofNat k) pr (vI (C, C)), [])
def RjVi (N k : Nat) : Prop := ∀ (b0 b1 b2 : Option ABlk) (M : Nat) (rl rl2 : List P2) (S : Nat → Nat → P2) (A B : Int) (C : Nat) (fx : P2) (s : Nat → P2) (po pd : Addr) (od ox or oA : Nat),
  runRji b0 b1 b2 N M rl k S (hdAi b0 b1 b2 N M rl k S 1 A B C po pd ++ [pAnsT ⟨5, od, none⟩, vAns (slV (7 + k) N), pAnsT ⟨2, ox, none⟩, vAns (vI fx), pAnsT ⟨4, or, none⟩, mAnsT undef (HQi b0 b1 b2 N M rl2 (dlXi N M k) k S ++ [obE 1 A B C, rwIi N 0 (fun _ => (0, 0))]), pAnsT ⟨7 + k, oA, none⟩, mAnsT undef (HQi b0 b1 b2 N M rl2 (dlXi N M k) k S ++ [obE 1 A B C, nwPj ((List.range N).map s)])]) [] =
  some (.normal, outRji b0 b1 b2 N M rl2 k S s, hdOi b0 b1 b2 N M rl k S 1 A B C po pd ++ lgYi (HQi b0 b1 b2 N M rl (dlXi N M k) k S ++ [obE 1 A B C, rwIi N 0 (fun _ => (0, 0))]) (slV 5 M) (Int.ofNat k) ⟨5, od, none⟩ (slV (7 + k) N) ++
    lgXi (HQi b0 b1 b2 N M rl (dlXi N M k) k S ++ [obE 1 A B C, rwIi N 0 (fun _ => (0, 0))]) (slV 2 N) A ⟨2, ox, none⟩ fx ++ lgWi (HQi b0 b1 b2 N M rl (dlXi N M k) k S ++ [obE 1 A B C, rwIi N 0 (fun _ => (0, 0))]) (HQi b0 b1 b2 N M rl2 (dlXi N M k) k S ++ [obE 1 A B C, rwIi N 0 (fun _ => (0, 0))]) 26 29 (slV 4 M) (Int.ofNat k) ⟨4, or, none⟩ (vI fx) ++
    lgWi (HQi b0 b1 b2 N M rl2 (dlXi N M k) k S ++ [obE 1 A B C, rwIi N 0 (fun _ => (0, 0))]) (HQi b0 b1 b2 N M rl2 (dlXi N M k) k S ++ [obE 1 A B C, nwPj ((List.range N).map s)]) 26 29 (slV (7 + k) N) A ⟨7 + k, oA, none⟩ (vI (4607182418800017408, 4607182418800017408)), [])
noncomputable def fnRi (K : Int) : FuncId := if K = 2 then 51 else if K = 3 then 52 else if K = 4 then 53 else 54
noncomputable def lgRoi (b0 b1 b2 : Option ABlk) (N M : Nat) (rl : List P2) (k : Nat) (S : Nat → Nat → P2) (K A B : Int) (C : Nat) (u v q : P2) (x y s : Nat → P2) (pd pa pb pr pda pdb : Addr) (da db : Nat) (i : Nat) : List Obl :=
  [.cmp .lss 3 (.int .i64 (Int.ofNat i)) (.int .i64 (Int.ofNat N)) true] ++ lgYi (HQi b0 b1 b2 N M rl (dlXi N M k) k S ++ [obE K A B C, rwIi N i s]) (slV 5 M) (Int.ofNat k) pd (slV (7 + k) N) ++
      lgXi (HQi b0 b1 b2 N M rl (dlXi N M k) k S ++ [obE K A B C, rwIi N i s]) (slV 4 M) A pa u ++ lgXi (HQi b0 b1 b2 N M rl (dlXi N M k) k S ++ [obE K A B C, rwIi N i s]) (slV 4 M) B pb v ++ lgXi (HQi b0 b1 b2 N M rl (dlXi N M k) k S ++ [obE K A B C, rwIi N i s]) (slV 4 M) (Int.ofNat k) pr q ++
      lgYi (HQi b0 b1 b2 N M rl (dlXi N M k) k S ++ [obE K A B C, rwIi N i s]) (slV 5 M) A pda (slV da N) ++ [.ex (readVar Try.prog (HQi b0 b1 b2 N M rl (dlXi N M k) k S ++ [obE K A B C, rwIi N i s]).toArray 29 ⟨da, i * 2, none⟩ = some (vI (x i)))] ++
      lgYi (HQi b0 b1 b2 N M rl (dlXi N M k) k S ++ [obE K A B C, rwIi N i s]) (slV 5 M) B pdb (slV db N) ++ [.ex (readVar Try.prog (HQi b0 b1 b2 N M rl (dlXi N M k) k S ++ [obE K A B C, rwIi N i s]).toArray 29 ⟨db, i * 2, none⟩ = some (vI (y i))),
      qtO 55 #[.int .i64 K, vI u, vI v, vI q, vI (x i), vI (y i)] (vI (s i))]
def RjOi (N k : Nat) (K : Int) : Prop := ∀ (b0 b1 b2 : Option ABlk) (M : Nat) (rl rl2 : List P2) (S : Nat → Nat → P2) (A B : Int) (C : Nat) (u v w q : P2) (x y s : Nat → P2) (po pd pa pb pr pda pdb : Addr) (da db : Nat),
  runRji b0 b1 b2 N M rl k S (hdAi b0 b1 b2 N M rl k S K A B C po pd ++ [pAnsT pa, vAns (vI u), pAnsT pb, vAns (vI v), vAns (vI w), pAnsT pr, mAnsT undef (HQi b0 b1 b2 N M rl2 (dlXi N M k) k S ++ [obE K A B C, rwIi N 0 (fun _ => (0, 0))])] ++
    (List.range N).flatMap (fun i => [yes true, pAnsT pd, vAns (slV (7 + k) N), pAnsT pa, vAns (vI u), pAnsT pb, vAns (vI v), pAnsT pr, vAns (vI q), pAnsT pda, vAns (slV da N), vAns (vI (x i)), pAnsT pdb, vAns (slV db N), vAns (vI (y i)), vAns (vI (s i))]) ++ [yes false]) [none] =
  some (.normal, outRji b0 b1 b2 N M rl2 k S s, hdOi b0 b1 b2 N M rl k S K A B C po pd ++ lgXi (HQi b0 b1 b2 N M rl (dlXi N M k) k S ++ [obE K A B C, rwIi N 0 (fun _ => (0, 0))]) (slV 4 M) A pa u ++ lgXi (HQi b0 b1 b2 N M rl (dlXi N M k) k S ++ [obE K A B C, rwIi N 0 (fun _ => (0, 0))]) (slV 4 M) B pb v ++
    [qtO (fnRi K) #[vI u, vI v] (vI w)] ++ lgWi (HQi b0 b1 b2 N M rl (dlXi N M k) k S ++ [obE K A B C, rwIi N 0 (fun _ => (0, 0))]) (HQi b0 b1 b2 N M rl2 (dlXi N M k) k S ++ [obE K A B C, rwIi N 0 (fun _ => (0, 0))]) 26 29 (slV 4 M) (Int.ofNat k) pr (vI w) ++
    (List.range N).flatMap (lgRoi b0 b1 b2 N M rl2 k S K A B C u v q x y s pd pa pb pr pda pdb da db) ++
    [.cmp .lss 3 (.int .i64 (Int.ofNat N)) (.int .i64 (Int.ofNat N)) false], [])
def RjEi (N k : Nat) : Prop := ∀ (b0 b1 b2 : Option ABlk) (M : Nat) (rl : List P2) (S : Nat → Nat → P2),
  (rndB askRji lssC bodyRji (tmA 193 (LRj N M k)) (HQi b0 b1 b2 N M rl (dlBi N M k) k S).toArray [yes false] []).map (fun r => (r.1, slG [1, 2, 5, 6, 7] (RRe k) r.2.1 r.2.2.1, r.2.2.2)) =
  some (.exit 0, (193, (LRj N M k).map (·.2), (HQi b0 b1 b2 N M rl (dlBi N M k) k S).map some), [.cmp .lss 3 (.int .i64 (Int.ofNat k)) (.int .i64 M) false], [])

end Go.Proofs.Ytdlinjijccnaeaa
