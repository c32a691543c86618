/- The document's Eval of Models: a round, at any number of registers; the run about its rounds. -/
import Derived.Test.YtnbbmihlokajaaaMdF
namespace Go.Proofs.Ytnbbmihlokajaaa
open Go
set_option linter.unusedVariables false
set_option linter.unusedSimpArgs false
set_option maxRecDepth 100000

noncomputable def askRm (g : FuncId) : Nat := if [26, 73].contains g then 1 else
  if [13, 20, 24, 25, 35, 36, 40, 41, 43, 52, 60, 61, 62, 75, 76, 77].contains (g - 1000000) && Nat.ble 1000000 g then 7 else 0
noncomputable def bodyRm : Code := bodyG Try.prog 47 0
def LRm (x : Value) (M : Nat) (k : Int) : List (Nat × Value) := [(1, x), (2, ptM 3), (5, .slice (some ⟨4, 0, none⟩) M M), (6, .int .i64 k)]
def KRm : List Nat := [1, 2, 5, 6]
def HRm (b0 b1 b2 : Option ABlk) (N M : Nat) (l : List (Nat → P2)) : List (Option ABlk) := [b0, b1, b2, tbE N M, mB l]
def outRm (b0 b1 b2 : Option ABlk) (N M : Nat) (x : Value) (k : Int) (l : List (Nat → P2)) : SlM := (81, [x, ptM 3, .slice (some ⟨4, 0, none⟩) M M, .int .i64 k], [some b0, some b1, some b2, some (tbE N M), some (mB l)])
noncomputable def runRm (b0 b1 b2 : Option ABlk) (N M : Nat) (x : Value) (k : Int) (l : List (Nat → P2)) (s : List Ans) : Option (AExit × SlM × List Obl × List LpO) :=
  (rndB askRm lssC bodyRm (tmA 81 (LRm x M k)) (HRm b0 b1 b2 N M l).toArray s []).map fun r => (r.1, slG KRm [0, 1, 2, 3, 4] r.2.1 r.2.2.1, r.2.2.2)
noncomputable def lgRw (H H2 : List (Option ABlk)) (M : Nat) (k k1 : Int) (pk : Addr) (v : Nat → P2) : List Obl :=
  [.ex (indexAddrV Try.prog 62 (.slice (some ⟨4, 0, none⟩) M M) (.int .i64 k) = some (.pointer (some pk))), .ex (writeVar Try.prog H.toArray 29 pk (mW v) = some H2.toArray), .ex (pureV Try.prog (binOp .add 3 (.int .i64 k) (.int .i64 1)) = some (.int .i64 k1))]
theorem rdRmC (b0 b1 b2 : Option ABlk) (N M : Nat) (x : Value) (k k1 : Int) (l l2 : List (Nat → P2)) (A B : Int) (C : Nat) (po pk : Addr) (v : Nat → P2) :
  runRm b0 b1 b2 N M x k l [yes true, aM (.pointer (some po)), aM (opV 0 A B C), aM (mW v), aM (.pointer (some pk)), hpA undef (HRm b0 b1 b2 N M l2 ++ [obE 0 A B C, fB1 C]), isI k1] =
  some (.normal, outRm b0 b1 b2 N M x k1 l2, lgMh (HRm b0 b1 b2 N M l) M k po (opV 0 A B C) ++ [rnO 26 #[.slice (some ⟨6, 0, none⟩) 1 1] (HRm b0 b1 b2 N M l ++ [obE 0 A B C, fB1 C]) (mW v) []] ++
    lgRw (HRm b0 b1 b2 N M l ++ [obE 0 A B C, fB1 C]) (HRm b0 b1 b2 N M l2 ++ [obE 0 A B C, fB1 C]) M k k1 pk v, []) := by kernel_rfl
theorem rdRmV (b0 b1 b2 : Option ABlk) (N M : Nat) (x : Value) (k k1 : Int) (l l2 : List (Nat → P2)) (A B : Int) (C : Nat) (po px pk : Addr) (v : Nat → P2) :
  runRm b0 b1 b2 N M x k l [yes true, aM (.pointer (some po)), aM (opV 1 A B C), aM (.pointer (some px)), aM (mW v), aM (.pointer (some pk)), hpA undef (HRm b0 b1 b2 N M l2 ++ [obE 1 A B C]), isI k1] =
  some (.normal, outRm b0 b1 b2 N M x k1 l2, lgMh (HRm b0 b1 b2 N M l) M k po (opV 1 A B C) ++ lgMr (HRm b0 b1 b2 N M l ++ [obE 1 A B C]) x A px v ++
    lgRw (HRm b0 b1 b2 N M l ++ [obE 1 A B C]) (HRm b0 b1 b2 N M l2 ++ [obE 1 A B C]) M k k1 pk v, []) := by kernel_rfl
def RdRmB (K : Int) : Prop := ∀ (b0 b1 b2 : Option ABlk) (N M : Nat) (x : Value) (k k1 : Int) (l l2 : List (Nat → P2)) (A B : Int) (C : Nat) (po pa pb pk : Addr) (u w v : Nat → P2),
  runRm b0 b1 b2 N M x k l [yes true, aM (.pointer (some po)), aM (opV K A B C), aM (.pointer (some pa)), aM (mW u), aM (.pointer (some pb)), aM (mW w), aM (mW v), aM (.pointer (some pk)), hpA undef (HRm b0 b1 b2 N M l2 ++ [obE K A B C]), isI k1] =
  some (.normal, outRm b0 b1 b2 N M x k1 l2, lgMh (HRm b0 b1 b2 N M l) M k po (opV K A B C) ++ lgMr (HRm b0 b1 b2 N M l ++ [obE K A B C]) (.slice (some ⟨4, 0, none⟩) M M) A pa u ++ lgMr (HRm b0 b1 b2 N M l ++ [obE K A B C]) (.slice (some ⟨4, 0, none⟩) M M) B pb w ++
      [qtO 73 #[.int .i64 K, mW u, mW w] (mW v)] ++ lgRw (HRm b0 b1 b2 N M l ++ [obE K A B C]) (HRm b0 b1 b2 N M l2 ++ [obE K A B C]) M k k1 pk v, [])
theorem rdRmB_2 : RdRmB 2 := fun _ _ _ _ _ _ _ _ _ _ _ _ _ _ _ _ _ _ _ _ => by kernel_rfl
theorem rdRmB_3 : RdRmB 3 := fun _ _ _ _ _ _ _ _ _ _ _ _ _ _ _ _ _ _ _ _ => by kernel_rfl
theorem rdRmB_4 : RdRmB 4 := fun _ _ _ _ _ _ _ _ _ _ _ _ _ _ _ _ _ _ _ _ => by kernel_rfl
theorem rdRmB_5 : RdRmB 5 := fun _ _ _ _ _ _ _ _ _ _ _ _ _ _ _ _ _ _ _ _ => by kernel_rfl
theorem rdRmEnd (b0 b1 b2 : Option ABlk) (N M : Nat) (x : Value) (k : Int) (l : List (Nat → P2)) :
  runRm b0 b1 b2 N M x k l [yes false] = some (.exit 0, outRm b0 b1 b2 N M x k l, [.cmp .lss 3 (.int .i64 k) (.int .i64 M) false], []) := by kernel_rfl
theorem okRm : codeOk q1 bodyRm = true := by kernel_rfl
def grM (N : Nat) (f : Nat → Nat → P2) : List (Option ABlk) := (List.range N).flatMap fun i => [mB [f i], if i + 1 = N then mB ((List.range N).map f) else none]
noncomputable def lgRo (H : List (Option ABlk)) (N M : Nat) (u : Nat → Int) (p : Nat → Addr) (f : Nat → Nat → P2) : List Obl :=
  ((List.range N).flatMap fun i => [.cmp .lss 3 (.int .i64 (Int.ofNat i)) (.int .i64 (Int.ofNat N)) true, .ex (readVar Try.prog (H ++ grM i f).toArray 3 ⟨1, i, none⟩ = some (.int .i64 (u i))),
    .ex (indexAddrV Try.prog 62 (.slice (some ⟨4, 0, none⟩) M M) (.int .i64 (u i)) = some (.pointer (some (p i)))), .ex (readVar Try.prog (H ++ grM i f).toArray 29 (p i) = some (mW (f i)))]) ++ [.cmp .lss 3 (.int .i64 (Int.ofNat N)) (.int .i64 (Int.ofNat N)) false]
def FinRm (N : Nat) : Prop := ∀ (b0 b1 b2 : Option ABlk) (M : Nat) (x : Value) (l0 l : List (Nat → P2)) (u : Nat → Int) (p : Nat → Addr) (f : Nat → Nat → P2),
  (askTB askRm lssC 47 #[tpV 0 1 N M, x] #[b0, b1, b2] ([hpA (.slice (some ⟨4, 0, none⟩) M M) (HRm b0 b1 b2 N M l0)] ++ ((List.range N).flatMap fun i => [yes true, aM (.int .i64 (u i)), aM (.pointer (some (p i))), aM (mW (f i))]) ++ [yes false])
    [some ⟨.exit 0, tmA 81 (LRm x M M), (HRm b0 b1 b2 N M l).toArray⟩, none]).map (fun r => (r.1, r.2.1, r.2.2.1, slL [(KRm, [0, 1, 2, 3, 4])] r.2.2.2)) =
  some (.slice (some ⟨4 + 2 * N, 0, none⟩) N N, (HRm b0 b1 b2 N M l ++ grM N f).toArray, [.ex (makeSliceV Try.prog [b0, b1, b2, tbE N M].toArray 62 (.int .i64 M) (.int .i64 M) = some (.slice (some ⟨4, 0, none⟩) M M, (HRm b0 b1 b2 N M l0).toArray))] ++ lgRo (HRm b0 b1 b2 N M l) N M u p f,
    [(bodyRm, outRm b0 b1 b2 N M x 0 l0, (.exit 0, tmA 81 (LRm x M M), (HRm b0 b1 b2 N M l).toArray))])
theorem finRm_1 : FinRm 1 := fun _ _ _ _ _ _ _ _ _ _ => by kernel_rfl
theorem finRm_2 : FinRm 2 := fun _ _ _ _ _ _ _ _ _ _ => by kernel_rfl
theorem finRm_3 : FinRm 3 := fun _ _ _ _ _ _ _ _ _ _ => by kernel_rfl
noncomputable def askTwm (g : FuncId) : Nat := if [34, 35, 36, 38].contains g then 1 else 0
def opFR (K : Int) : FuncId := if K = 2 then 34 else if K = 3 then 35 else if K = 4 then 36 else 38
def TwRun (K : Int) : Prop := ∀ (u w v : Nat → P2), (askN askTwm noC 12 73 #[.int .i64 K, mW u, mW w] #[] [aM (mW v)]).map (fun r => (r.1, r.2.2)) = some (mW v, [qtO (opFR K) #[mW u, mW w] (mW v)])
theorem twRun_2 : TwRun 2 := fun _ _ _ => by kernel_rfl
theorem twRun_3 : TwRun 3 := fun _ _ _ => by kernel_rfl
theorem twRun_4 : TwRun 4 := fun _ _ _ => by kernel_rfl
theorem twRun_5 : TwRun 5 := fun _ _ _ => by kernel_rfl

end Go.Proofs.Ytnbbmihlokajaaa
