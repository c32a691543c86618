/- The document's Jac of numbers: its rounds' shapes. -/
import Derived.Test.YtdlinjijccnaeaaJcI
import Derived.Test.YtdlinjijccnaeaaTpW
namespace Go.Proofs.Ytdlinjijccnaeaa
open Go
set_option linter.unusedVariables false
set_option linter.unusedSimpArgs false
set_option maxRecDepth 100000

noncomputable def askRj (g : FuncId) : Nat := if [30, 31, 37, 60, 67, 68, 74, 75, 76, 77, 85, 86, 90, 91, 93, 101, 102, 106, 107, 109, 117, 118, 122, 123, 125, 45, 46, 50, 51, 53, 134, 135, 142, 143, 147, 148, 151, 152, 156, 157, 160, 164, 165, 168, 15, 19, 184, 185, 186, 187].contains (g - 1000000) && Nat.ble 1000000 g then 7 else 0
noncomputable def bodyRj : Code := bodyG Try.prog 25 0
theorem okRj : codeOk q1 bodyRj = true := by kernel_rfl
/-- Rows' slices, as far as k. -/
def dlB (N M k : Nat) : Option ABlk := some ⟨((List.range M).map fun j => if j < k then slV (6 + j) N else .slice none 0 0).toArray, 37, 1, true⟩
def dlX (N M k : Nat) : Option ABlk := some ⟨((List.range M).map fun j => if j < k then slV (6 + j) N else if j = k then slV (7 + k) N else .slice none 0 0).toArray, 37, 1, true⟩
def HQ (b0 b1 b2 : Option ABlk) (N M : Nat) (rl : List Nat) (dl : Option ABlk) (k : Nat) (S : Nat → Nat → Nat) : List (Option ABlk) := [b0, b1, b2, tbE N M, nwF rl, dl] ++ (List.range k).map (dJ N S)
def LRj (N M k : Nat) : List (Nat × Value) := [(1, slV 2 N), (2, ptJ 3), (5, slV 4 M), (6, slV 5 M), (7, .int .i64 (Int.ofNat k))]
def rwI (N i : Nat) (s : Nat → Nat) : Option ABlk := nwF ((List.range N).map fun j => if j < i then s j else 0)
def outRj (b0 b1 b2 : Option ABlk) (N M : Nat) (rl : List Nat) (k : Nat) (S : Nat → Nat → Nat) (s : Nat → Nat) : SlJ :=
  (191, [slV 2 N, ptJ 3, slV 4 M, slV 5 M, .int .i64 (Int.ofNat (k + 1))], (HQ b0 b1 b2 N M rl (dlX N M k) k S).map some ++ [some (nwF ((List.range N).map s))])
def RRj (k : Nat) : List Nat := [0, 1, 2, 3, 4, 5] ++ (List.range k).map (fun j => 6 + j) ++ [7 + k]
noncomputable def runRj (b0 b1 b2 : Option ABlk) (N M : Nat) (rl : List Nat) (k : Nat) (S : Nat → Nat → Nat) (s : List Ans) (ls : List (Option LpA)) : Option (AExit × SlJ × List Obl × List LpO) :=
  (rndB askRj lssC bodyRj (tmA 191 (LRj N M k)) (HQ b0 b1 b2 N M rl (dlB N M k) k S).toArray s ls).map fun r => (r.1, slG [1, 2, 5, 6, 7] (RRj k) r.2.1 r.2.2.1, r.2.2.2)
noncomputable def lgX (H : List (Option ABlk)) (x : Value) (A : Int) (p : Addr) (v : Nat) : List Obl := lgV H 37 27 x A p (.float .f64 v)
noncomputable def lgY (H : List (Option ABlk)) (x : Value) (A : Int) (p : Addr) (v : Value) : List Obl := lgV H 38 37 x A p v
noncomputable def lgW (H H2 : List (Option ABlk)) (t1 t2 : TypeId) (x : Value) (A : Int) (p : Addr) (v : Value) : List Obl := [.ex (indexAddrV Try.prog t1 x (.int .i64 A) = some (.pointer (some p))), .ex (writeVar Try.prog H.toArray t2 p v = some H2.toArray)]
def hdA (b0 b1 b2 : Option ABlk) (N M : Nat) (rl : List Nat) (k : Nat) (S : Nat → Nat → Nat) (K A B : Int) (C : Nat) (po pd : Addr) : List Ans :=
  [yes true, pAnsT po, vAns (opV K A B C), pAnsT pd, mAnsT undef (HQ b0 b1 b2 N M rl (dlX N M k) k S ++ [obE K A B C, rwI N 0 (fun _ => 0)])]
noncomputable def hdO (b0 b1 b2 : Option ABlk) (N M : Nat) (rl : List Nat) (k : Nat) (S : Nat → Nat → Nat) (K A B : Int) (C : Nat) (po pd : Addr) : List Obl :=
  lgE (HQ b0 b1 b2 N M rl (dlB N M k) k S) M k po (opV K A B C) ++ lgW (HQ b0 b1 b2 N M rl (dlB N M k) k S ++ [obE K A B C, rwI N 0 (fun _ => 0)]) (HQ b0 b1 b2 N M rl (dlX N M k) k S ++ [obE K A B C, rwI N 0 (fun _ => 0)]) 38 37 (slV 5 M) (Int.ofNat k) pd (slV (7 + k) N)
def RjC (N k : Nat) : Prop := ∀ (b0 b1 b2 : Option ABlk) (M : Nat) (rl rl2 : List Nat) (S : Nat → Nat → Nat) (A B : Int) (C : Nat) (po pd pr : Addr),
  runRj b0 b1 b2 N M rl k S (hdA b0 b1 b2 N M rl k S 0 A B C po pd ++ [pAnsT pr, mAnsT undef (HQ b0 b1 b2 N M rl2 (dlX N M k) k S ++ [obE 0 A B C, rwI N 0 (fun _ => 0)])]) [] =
  some (.normal, outRj b0 b1 b2 N M rl2 k S (fun _ => 0), hdO b0 b1 b2 N M rl k S 0 A B C po pd ++ lgW (HQ b0 b1 b2 N M rl (dlX N M k) k S ++ [obE 0 A B C, rwI N 0 (fun _ => 0)]) (HQ b0 b1 b2 N M rl2 (dlX N M k) k S ++ [obE 0 A B C, rwI N 0 (fun _ => 0)]) 37 27 (slV 4 M) (Int.ofNat k) pr (.float .f64 C), [])
def RjV (N k : Nat) : Prop := ∀ (b0 b1 b2 : Option ABlk) (M : Nat) (rl rl2 : List Nat) (S : Nat → Nat → Nat) (A B : Int) (C fx : Nat) (s : Nat → Nat) (po pd : Addr) (od ox or oA : Nat),
  runRj b0 b1 b2 N M rl k S (hdA b0 b1 b2 N M rl k S 1 A B C po pd ++ [pAnsT ⟨5, od, none⟩, vAns (slV (7 + k) N), pAnsT ⟨2, ox, none⟩, vAns (.float .f64 fx), pAnsT ⟨4, or, none⟩, mAnsT undef (HQ b0 b1 b2 N M rl2 (dlX N M k) k S ++ [obE 1 A B C, rwI N 0 (fun _ => 0)]), pAnsT ⟨7 + k, oA, none⟩, mAnsT undef (HQ b0 b1 b2 N M rl2 (dlX N M k) k S ++ [obE 1 A B C, nwF ((List.range N).map s)])]) [] =
  some (.normal, outRj b0 b1 b2 N M rl2 k S s, hdO b0 b1 b2 N M rl k S 1 A B C po pd ++ lgY (HQ b0 b1 b2 N M rl (dlX N M k) k S ++ [obE 1 A B C, rwI N 0 (fun _ => 0)]) (slV 5 M) (Int.ofNat k) ⟨5, od, none⟩ (slV (7 + k) N) ++
    lgX (HQ b0 b1 b2 N M rl (dlX N M k) k S ++ [obE 1 A B C, rwI N 0 (fun _ => 0)]) (slV 2 N) A ⟨2, ox, none⟩ fx ++ lgW (HQ b0 b1 b2 N M rl (dlX N M k) k S ++ [obE 1 A B C, rwI N 0 (fun _ => 0)]) (HQ b0 b1 b2 N M rl2 (dlX N M k) k S ++ [obE 1 A B C, rwI N 0 (fun _ => 0)]) 37 27 (slV 4 M) (Int.ofNat k) ⟨4, or, none⟩ (.float .f64 fx) ++
    lgW (HQ b0 b1 b2 N M rl2 (dlX N M k) k S ++ [obE 1 A B C, rwI N 0 (fun _ => 0)]) (HQ b0 b1 b2 N M rl2 (dlX N M k) k S ++ [obE 1 A B C, nwF ((List.range N).map s)]) 37 27 (slV (7 + k) N) A ⟨7 + k, oA, none⟩ (.float .f64 4607182418800017408), [])
def RjO (N k : Nat) (K : Int) : Prop := ∀ (b0 b1 b2 : Option ABlk) (M : Nat) (rl rl2 : List Nat) (S : Nat → Nat → Nat) (A B : Int) (C u v q : Nat) (x y : Nat → Nat) (po pd pa pb pr pda pdb : Addr) (da db : Nat),
  runRj b0 b1 b2 N M rl k S (hdA b0 b1 b2 N M rl k S K A B C po pd ++ [pAnsT pa, vAns (.float .f64 u), pAnsT pb, vAns (.float .f64 v), pAnsT pr, mAnsT undef (HQ b0 b1 b2 N M rl2 (dlX N M k) k S ++ [obE K A B C, rwI N 0 (fun _ => 0)])] ++
    (List.range N).flatMap (fun i => [yes true, pAnsT pd, vAns (slV (7 + k) N), pAnsT pa, vAns (.float .f64 u), pAnsT pb, vAns (.float .f64 v), pAnsT pr, vAns (.float .f64 q), pAnsT pda, vAns (slV da N), vAns (.float .f64 (x i)), pAnsT pdb, vAns (slV db N), vAns (.float .f64 (y i))]) ++ [yes false]) [none] =
  some (.normal, outRj b0 b1 b2 N M rl2 k S (fun j => slF K u v q (x j) (y j)), hdO b0 b1 b2 N M rl k S K A B C po pd ++ lgX (HQ b0 b1 b2 N M rl (dlX N M k) k S ++ [obE K A B C, rwI N 0 (fun _ => 0)]) (slV 4 M) A pa u ++ lgX (HQ b0 b1 b2 N M rl (dlX N M k) k S ++ [obE K A B C, rwI N 0 (fun _ => 0)]) (slV 4 M) B pb v ++
    lgW (HQ b0 b1 b2 N M rl (dlX N M k) k S ++ [obE K A B C, rwI N 0 (fun _ => 0)]) (HQ b0 b1 b2 N M rl2 (dlX N M k) k S ++ [obE K A B C, rwI N 0 (fun _ => 0)]) 37 27 (slV 4 M) (Int.ofNat k) pr (.float .f64 (fop (opKd K) .f64 u v)) ++
    (List.range N).flatMap (fun i => [.cmp .lss 3 (.int .i64 (Int.ofNat i)) (.int .i64 (Int.ofNat N)) true] ++ lgY (HQ b0 b1 b2 N M rl2 (dlX N M k) k S ++ [obE K A B C, rwI N i (fun j => slF K u v q (x j) (y j))]) (slV 5 M) (Int.ofNat k) pd (slV (7 + k) N) ++
      lgX (HQ b0 b1 b2 N M rl2 (dlX N M k) k S ++ [obE K A B C, rwI N i (fun j => slF K u v q (x j) (y j))]) (slV 4 M) A pa u ++ lgX (HQ b0 b1 b2 N M rl2 (dlX N M k) k S ++ [obE K A B C, rwI N i (fun j => slF K u v q (x j) (y j))]) (slV 4 M) B pb v ++ lgX (HQ b0 b1 b2 N M rl2 (dlX N M k) k S ++ [obE K A B C, rwI N i (fun j => slF K u v q (x j) (y j))]) (slV 4 M) (Int.ofNat k) pr q ++
      lgY (HQ b0 b1 b2 N M rl2 (dlX N M k) k S ++ [obE K A B C, rwI N i (fun j => slF K u v q (x j) (y j))]) (slV 5 M) A pda (slV da N) ++ [.ex (readVar Try.prog (HQ b0 b1 b2 N M rl2 (dlX N M k) k S ++ [obE K A B C, rwI N i (fun j => slF K u v q (x j) (y j))]).toArray 27 ⟨da, i, none⟩ = some (.float .f64 (x i)))] ++
      lgY (HQ b0 b1 b2 N M rl2 (dlX N M k) k S ++ [obE K A B C, rwI N i (fun j => slF K u v q (x j) (y j))]) (slV 5 M) B pdb (slV db N) ++ [.ex (readVar Try.prog (HQ b0 b1 b2 N M rl2 (dlX N M k) k S ++ [obE K A B C, rwI N i (fun j => slF K u v q (x j) (y j))]).toArray 27 ⟨db, i, none⟩ = some (.float .f64 (y i)))]) ++
    [.cmp .lss 3 (.int .i64 (Int.ofNat N)) (.int .i64 (Int.ofNat N)) false], [])
def RRe (k : Nat) : List Nat := [0, 1, 2, 3, 4, 5] ++ (List.range k).map (fun j => 6 + j)
def RjE (N k : Nat) : Prop := ∀ (b0 b1 b2 : Option ABlk) (M : Nat) (rl : List Nat) (S : Nat → Nat → Nat),
  (rndB askRj lssC bodyRj (tmA 191 (LRj N M k)) (HQ b0 b1 b2 N M rl (dlB N M k) k S).toArray [yes false] []).map (fun r => (r.1, slG [1, 2, 5, 6, 7] (RRe k) r.2.1 r.2.2.1, r.2.2.2)) =
  some (.exit 0, (191, (LRj N M k).map (·.2), (HQ b0 b1 b2 N M rl (dlB N M k) k S).map some), [.cmp .lss 3 (.int .i64 (Int.ofNat k)) (.int .i64 M) false], [])

end Go.Proofs.Ytdlinjijccnaeaa
