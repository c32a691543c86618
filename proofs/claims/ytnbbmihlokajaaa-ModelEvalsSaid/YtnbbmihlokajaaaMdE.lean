/- model.Eval: a round, at any number of registers; the run about its rounds. -/
import Derived.Test.YtnbbmihlokajaaaMdC
namespace Go.Proofs.Ytnbbmihlokajaaa
open Go
set_option linter.unusedVariables false
set_option linter.unusedSimpArgs false
set_option maxRecDepth 100000

noncomputable def askMe (g : FuncId) : Nat := if [24, 31, 32, 27, 37].contains g then 1 else
  if [16, 17, 28, 35, 36, 38, 45, 46, 50, 51, 54, 61, 62, 66, 67, 70, 77, 78, 82, 83, 86, 93, 94, 98, 99, 102, 103, 114, 119, 120].contains (g - 1000000) && Nat.ble 1000000 g then 7 else 0
noncomputable def bodyMe : Code := bodyG Try.prog 46 0
def ptM (b : Nat) : Value := .pointer (some ⟨b, 0, none⟩)
def aM (v : Value) : Ans := ⟨fun _ => v, []⟩
def hpA (v : Value) (l : List (Option ABlk)) : Ans := ⟨fun _ => v, l⟩
def fB1 (C : Nat) : Option ABlk := some ⟨#[.float .f64 C], 24, 1, true⟩
def LMe (x rv : Value) (M : Nat) (k : Int) : List (Nat × Value) := [(1, x), (2, ptM 3), (5, rv), (12, .slice (some ⟨0, 0, none⟩) M M), (13, .int .i64 M), (14, .int .i64 k)]
def rvMe (z : Bool) (n : Nat) : Value := if z then .slice none 0 0 else .slice (some ⟨4, 0, none⟩) n n
def HMe (b0 b1 b2 : Option ABlk) (N M : Nat) (z : Bool) (l : List (Nat → P2)) : List (Option ABlk) := [b0, b1, b2, tbE N M] ++ (if z then [] else [mB l])
/-- The same, the registers given up. -/
def HMx (b0 b1 b2 : Option ABlk) (N M : Nat) (z : Bool) : List (Option ABlk) := [b0, b1, b2, tbE N M] ++ (if z then [] else [none])
def sz (z : Bool) : Nat := if z then 4 else 5
abbrev SlM := Nat × List Value × List (Option (Option ABlk))
def KMe : List Nat := [1, 2, 5, 12, 13, 14]
def outMe (b0 b1 b2 : Option ABlk) (N M : Nat) (x rv : Value) (k : Int) (l : List (Nat → P2)) : SlM :=
  (124, [x, ptM 3, rv, .slice (some ⟨0, 0, none⟩) M M, .int .i64 M, .int .i64 k], [some b0, some b1, some b2, some (tbE N M), some (mB l)])
noncomputable def runMe (z : Bool) (b0 b1 b2 : Option ABlk) (N M n : Nat) (x : Value) (k : Int) (l : List (Nat → P2)) (S : Nat) (s : List Ans) : Option (AExit × SlM × List Obl × List LpO) :=
  (rndB askMe lssC bodyMe (tmA 124 (LMe x (rvMe z n) M k)) (HMe b0 b1 b2 N M z l).toArray s []).map fun r => (r.1, slG KMe [0, 1, 2, 3, S] r.2.1 r.2.2.1, r.2.2.2)
noncomputable def lgMh (H : List (Option ABlk)) (M : Nat) (k : Int) (po : Addr) (op : Value) : List Obl :=
  [.cmp .lss 3 (.int .i64 k) (.int .i64 M) true, .ex (indexAddrV Try.prog 58 (.slice (some ⟨0, 0, none⟩) M M) (.int .i64 k) = some (.pointer (some po))), .ex (readVar Try.prog H.toArray 68 po = some op)]
noncomputable def lgMr (H : List (Option ABlk)) (x : Value) (A : Int) (pa : Addr) (c : Nat → P2) : List Obl :=
  [.ex (indexAddrV Try.prog 62 x (.int .i64 A) = some (.pointer (some pa))), .ex (readVar Try.prog H.toArray 29 pa = some (mW c))]
noncomputable def lgMa (H H2 : List (Option ABlk)) (rv : Value) (S n : Nat) (k k1 : Int) : List Obl :=
  [.ex (appendV Try.prog H.toArray 62 62 rv (.slice (some ⟨S - 1, 0, none⟩) 1 1) = some (.slice (some ⟨S, 0, none⟩) (n + 1) (n + 1), H2.toArray)), .ex (pureV Try.prog (binOp .add 3 (.int .i64 k) (.int .i64 1)) = some (.int .i64 k1))]
def opFM (K : Int) : FuncId := if K = 2 then 31 else if K = 3 then 32 else if K = 4 then 27 else 37
/-- A constant. -/
def RdMeC (z : Bool) : Prop := ∀ (b0 b1 b2 : Option ABlk) (N M n : Nat) (x : Value) (k k1 : Int) (l : List (Nat → P2)) (A B : Int) (C : Nat) (po : Addr) (v : Nat → P2),
  runMe z b0 b1 b2 N M n x k l (sz z + 3) [yes true, aM (.pointer (some po)), aM (opV 0 A B C), aM (mW v), hpA (.slice (some ⟨sz z + 3, 0, none⟩) (n + 1) (n + 1)) (HMx b0 b1 b2 N M z ++ [obE 0 A B C, fB1 C, mB [v], mB (l ++ [v])]), isI k1] =
  some (.normal, outMe b0 b1 b2 N M x (.slice (some ⟨sz z + 3, 0, none⟩) (n + 1) (n + 1)) k1 (l ++ [v]),
    lgMh (HMe b0 b1 b2 N M z l) M k po (opV 0 A B C) ++ [rnO 24 #[.slice (some ⟨sz z + 1, 0, none⟩) 1 1] (HMe b0 b1 b2 N M z l ++ [obE 0 A B C, fB1 C]) (mW v) []] ++
      lgMa (HMe b0 b1 b2 N M z l ++ [obE 0 A B C, fB1 C, mB [v]]) (HMx b0 b1 b2 N M z ++ [obE 0 A B C, fB1 C, mB [v], mB (l ++ [v])]) (rvMe z n) (sz z + 3) n k k1, [])
/-- A variable. -/
def RdMeV (z : Bool) : Prop := ∀ (b0 b1 b2 : Option ABlk) (N M n : Nat) (x : Value) (k k1 : Int) (l : List (Nat → P2)) (A B : Int) (C : Nat) (po px : Addr) (v : Nat → P2),
  runMe z b0 b1 b2 N M n x k l (sz z + 2) [yes true, aM (.pointer (some po)), aM (opV 1 A B C), aM (.pointer (some px)), aM (mW v), hpA (.slice (some ⟨sz z + 2, 0, none⟩) (n + 1) (n + 1)) (HMx b0 b1 b2 N M z ++ [obE 1 A B C, mB [v], mB (l ++ [v])]), isI k1] =
  some (.normal, outMe b0 b1 b2 N M x (.slice (some ⟨sz z + 2, 0, none⟩) (n + 1) (n + 1)) k1 (l ++ [v]),
    lgMh (HMe b0 b1 b2 N M z l) M k po (opV 1 A B C) ++ lgMr (HMe b0 b1 b2 N M z l ++ [obE 1 A B C]) x A px v ++
      lgMa (HMe b0 b1 b2 N M z l ++ [obE 1 A B C, mB [v]]) (HMx b0 b1 b2 N M z ++ [obE 1 A B C, mB [v], mB (l ++ [v])]) (rvMe z n) (sz z + 2) n k k1, [])
/-- An operation of two registers. -/
def RdMeB (K : Int) : Prop := ∀ (b0 b1 b2 : Option ABlk) (N M n : Nat) (x : Value) (k k1 : Int) (l : List (Nat → P2)) (A B : Int) (C : Nat) (po pa pb : Addr) (u w v : Nat → P2),
  runMe false b0 b1 b2 N M n x k l 7 [yes true, aM (.pointer (some po)), aM (opV K A B C), aM (.pointer (some pa)), aM (mW u), aM (.pointer (some pb)), aM (mW w), aM (mW v), hpA (.slice (some ⟨7, 0, none⟩) (n + 1) (n + 1)) (HMx b0 b1 b2 N M false ++ [obE K A B C, mB [v], mB (l ++ [v])]), isI k1] =
  some (.normal, outMe b0 b1 b2 N M x (.slice (some ⟨7, 0, none⟩) (n + 1) (n + 1)) k1 (l ++ [v]),
    lgMh (HMe b0 b1 b2 N M false l) M k po (opV K A B C) ++ lgMr (HMe b0 b1 b2 N M false l ++ [obE K A B C]) (rvMe false n) A pa u ++ lgMr (HMe b0 b1 b2 N M false l ++ [obE K A B C]) (rvMe false n) B pb w ++ [qtO (opFM K) #[mW u, mW w] (mW v)] ++
      lgMa (HMe b0 b1 b2 N M false l ++ [obE K A B C, mB [v]]) (HMx b0 b1 b2 N M false ++ [obE K A B C, mB [v], mB (l ++ [v])]) (rvMe false n) 7 n k k1, [])
theorem rdMeC_t : RdMeC true := fun _ _ _ _ _ _ _ _ _ _ _ _ _ _ _ => by kernel_rfl
theorem rdMeC_f : RdMeC false := fun _ _ _ _ _ _ _ _ _ _ _ _ _ _ _ => by kernel_rfl
theorem rdMeV_t : RdMeV true := fun _ _ _ _ _ _ _ _ _ _ _ _ _ _ _ _ => by kernel_rfl
theorem rdMeV_f : RdMeV false := fun _ _ _ _ _ _ _ _ _ _ _ _ _ _ _ _ => by kernel_rfl
theorem rdMeB_2 : RdMeB 2 := fun _ _ _ _ _ _ _ _ _ _ _ _ _ _ _ _ _ _ _ => by kernel_rfl
theorem rdMeB_3 : RdMeB 3 := fun _ _ _ _ _ _ _ _ _ _ _ _ _ _ _ _ _ _ _ => by kernel_rfl
theorem rdMeB_4 : RdMeB 4 := fun _ _ _ _ _ _ _ _ _ _ _ _ _ _ _ _ _ _ _ => by kernel_rfl
theorem rdMeB_5 : RdMeB 5 := fun _ _ _ _ _ _ _ _ _ _ _ _ _ _ _ _ _ _ _ => by kernel_rfl
theorem rdMeEnd (b0 b1 b2 : Option ABlk) (N M n : Nat) (x : Value) (k : Int) (l : List (Nat → P2)) :
  runMe false b0 b1 b2 N M n x k l 4 [yes false] = some (.exit 0, outMe b0 b1 b2 N M x (rvMe false n) k l, [.cmp .lss 3 (.int .i64 k) (.int .i64 M) false], []) := by kernel_rfl
theorem okMe : codeOk q1 bodyMe = true := by kernel_rfl
def outMt (N i : Nat) (f : Nat → Nat → P2) : Option ABlk := mB ((List.range N).map fun n => if n < i then f n else zM)
noncomputable def lgMo (H : List (Option ABlk)) (rv : Value) (N : Nat) (u : Nat → Int) (p : Nat → Addr) (f : Nat → Nat → P2) : List Obl :=
  ((List.range N).flatMap fun i => [.cmp .lss 3 (.int .i64 (Int.ofNat i)) (.int .i64 (Int.ofNat N)) true, .ex (readVar Try.prog (H ++ [outMt N i f]).toArray 3 ⟨1, i, none⟩ = some (.int .i64 (u i))),
    .ex (indexAddrV Try.prog 62 rv (.int .i64 (u i)) = some (.pointer (some (p i)))), .ex (readVar Try.prog (H ++ [outMt N i f]).toArray 29 (p i) = some (mW (f i)))]) ++ [.cmp .lss 3 (.int .i64 (Int.ofNat N)) (.int .i64 (Int.ofNat N)) false]
def FinMe (N : Nat) : Prop := ∀ (b0 b1 b2 : Option ABlk) (M n : Nat) (x : Value) (l : List (Nat → P2)) (u : Nat → Int) (p : Nat → Addr) (f : Nat → Nat → P2),
  (askTB askMe lssC 46 #[tpV 0 1 N M, x] #[b0, b1, b2] (((List.range N).flatMap fun i => [yes true, aM (.int .i64 (u i)), aM (.pointer (some (p i))), aM (mW (f i))]) ++ [yes false])
    [some ⟨.exit 0, tmA 124 (LMe x (rvMe false n) M M), (HMe b0 b1 b2 N M false l).toArray⟩, none]).map (fun r => (r.1, r.2.1, r.2.2.1, slL [(KMe, [0, 1, 2, 3])] r.2.2.2)) =
  some (.slice (some ⟨5, 0, none⟩) N N, (HMe b0 b1 b2 N M false l ++ [outMt N N f]).toArray, lgMo (HMe b0 b1 b2 N M false l) (rvMe false n) N u p f,
    [(bodyMe, (124, [x, ptM 3, .slice none 0 0, .slice (some ⟨0, 0, none⟩) M M, .int .i64 M, .int .i64 0], [some b0, some b1, some b2, some (tbE N M)]), (.exit 0, tmA 124 (LMe x (rvMe false n) M M), (HMe b0 b1 b2 N M false l).toArray))])
theorem finMe_1 : FinMe 1 := fun _ _ _ _ _ _ _ _ _ _ => by kernel_rfl
theorem finMe_2 : FinMe 2 := fun _ _ _ _ _ _ _ _ _ _ => by kernel_rfl
theorem finMe_3 : FinMe 3 := fun _ _ _ _ _ _ _ _ _ _ => by kernel_rfl

end Go.Proofs.Ytnbbmihlokajaaa
