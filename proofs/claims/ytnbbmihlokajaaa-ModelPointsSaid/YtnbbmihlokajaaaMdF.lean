/- MdC / MdE / MdF: several texts in one. -/
import Derived.Test.YtnbbmihlokajaaaApp
import Derived.Test.YtnbbmihlokajaaaTpK
import Derived.Test.YtnbbmihlokajaaaGenB
import Derived.Test.YtnbbmihlokajaaaHget
import Derived.Test.YtnbbmihlokajaaaModelAllA
/-!  Fields of Models in memory. -/
namespace Go.Proofs.Ytnbbmihlokajaaa
open Go
set_option linter.unusedVariables false
set_option linter.unusedSimpArgs false
set_option maxRecDepth 100000

def mC (c : Nat → P2) : List Value := [.float .f64 (c 0).1, .float .f64 (c 0).2, .float .f64 (c 1).1, .float .f64 (c 1).2, .float .f64 (c 2).1, .float .f64 (c 2).2, .float .f64 (c 3).1, .float .f64 (c 3).2, .float .f64 (c 4).1, .float .f64 (c 4).2, .float .f64 (c 5).1, .float .f64 (c 5).2,
  .float .f64 (c 6).1, .float .f64 (c 6).2, .float .f64 (c 7).1, .float .f64 (c 7).2, .float .f64 (c 8).1, .float .f64 (c 8).2, .float .f64 (c 9).1, .float .f64 (c 9).2]
theorem mC_len (c : Nat → P2) : (mC c).length = 20 := rfl
theorem mC_one (c : Nat → P2) : (mC c).all oneC = true := rfl
theorem mW_eq (c : Nat → P2) : mW c = .agg (mC c).toArray := rfl
theorem mC_cl (c : Nat → P2) : ∀ u ∈ mC c, closN 4 u = true := by
  intro u hu
  simp only [mC, List.mem_cons, List.not_mem_nil, or_false] at hu
  rcases hu with rfl | rfl | rfl | rfl | rfl | rfl | rfl | rfl | rfl | rfl | rfl | rfl | rfl | rfl | rfl | rfl | rfl | rfl | rfl | rfl <;> rfl
theorem ty_md : isStructB Try.prog 29 = true := by kernel_rfl
theorem sz_md : sizeB Try.prog 29 20 = true := by kernel_rfl
theorem ty_mds : isSliceB Try.prog 62 29 = true := by kernel_rfl
theorem gr_md : growOk Try.prog 62 29 20 = true := by kernel_rfl
theorem rdM {H : AHeap} {b k : Nat} {B : ABlk} {l : List (Nat → P2)} {a : Nat → P2} (hb : H[b]? = some (some B)) (hc : B.cells = (l.flatMap mC).toArray) (hk : l[k]? = some a) {o : Nat} (ho : o = k * 20) : readVar Try.prog H 29 ⟨b, o, none⟩ = some (mW a) := by
  obtain ⟨fs, hu⟩ := isStructB_ex ty_md
  obtain ⟨i, hi, hz⟩ := sizeB_ex sz_md
  exact rd_agg (f := mC) (fun _ => rfl) hu hi hz hb hc hk ho
theorem ixM {b n c : Nat} {A : Int} (h0 : 0 ≤ A) (h1 : A < n) {o : Nat} (ho : o = A.toNat * 20) : indexAddrV Try.prog 62 (.slice (some ⟨b, 0, none⟩) n c) (.int .i64 A) = some (.pointer (some ⟨b, o, none⟩)) := by
  obtain ⟨i, hi, hz⟩ := sizeB_ex sz_md
  exact ix_slice (isSliceB_ex ty_mds) hi hz h0 h1 ho
abbrev EvM := @EvG (Nat → P2) mC
def zM : Nat → P2 := fun _ => (0, 0)
def opMd (K : Int) (c d : Nat → P2) : Nat → P2 := if K = 2 then addM c d else if K = 3 then subM c d else if K = 4 then mulM c d else quoM c d
def regM (ops : List OpD) (xs : List (Nat → P2)) : Nat → Nat → P2 := regT zM (fun c => ofM [c]) opMd (fun i => xs.getD i zM) ops
def mB (l : List (Nat → P2)) : Option ABlk := some ⟨(l.flatMap mC).toArray, 29, 20, true⟩
theorem mB_cl (l : List (Nat → P2)) : ∀ (i : Nat) (v : Value), (l.flatMap mC).toArray[i]? = some v → closN 4 v = true := by
  intro i v h
  have : v ∈ l.flatMap mC := List.mem_of_getElem? (by simpa using h)
  obtain ⟨a, _, g⟩ := List.mem_flatMap.1 this
  exact mC_cl a v g
/-- Ends that are none of NaN. -/
def NNm (c : Nat → P2) : Prop := AllN c

end Go.Proofs.Ytnbbmihlokajaaa

/-!  model.Eval: a round, at any number of registers; the run about its rounds. -/
namespace Go.Proofs.Ytnbbmihlokajaaa
open Go
set_option linter.unusedVariables false
set_option linter.unusedSimpArgs false
set_option maxRecDepth 100000

noncomputable def askMe (g : FuncId) : Nat := if [24, 31, 32, 27, 37].contains g then 1 else
  if [16, 17, 28, 35, 36, 38, 45, 46, 50, 51, 54, 61, 62, 66, 67, 70, 77, 78, 82, 83, 86, 93, 94, 98, 99, 102, 103, 114, 119, 120].contains (g - 1000000) && Nat.ble 1000000 g then 7 else 0
noncomputable def bodyMe : Code := bodyG Try.prog 46 0
def ptM (b : Nat) : Value := .pointer (some ⟨b, 0, none⟩)
def aM (v : Value) : Ans := ⟨fun _ => v, []⟩
def hpA (v : Value) (l : List (Option ABlk)) : Ans := ⟨fun _ => v, l⟩
def fB1 (C : Nat) : Option ABlk := some ⟨#[.float .f64 C], 24, 1, true⟩
def LMe (x rv : Value) (M : Nat) (k : Int) : List (Nat × Value) := [(1, x), (2, ptM 3), (5, rv), (12, .slice (some ⟨0, 0, none⟩) M M), (13, .int .i64 M), (14, .int .i64 k)]
def rvMe (z : Bool) (n : Nat) : Value := if z then .slice none 0 0 else .slice (some ⟨4, 0, none⟩) n n
def HMe (b0 b1 b2 : Option ABlk) (N M : Nat) (z : Bool) (l : List (Nat → P2)) : List (Option ABlk) := [b0, b1, b2, tbE N M] ++ (if z then [] else [mB l])
/-- The same, the registers given up. -/
def HMx (b0 b1 b2 : Option ABlk) (N M : Nat) (z : Bool) : List (Option ABlk) := [b0, b1, b2, tbE N M] ++ (if z then [] else [none])
def sz (z : Bool) : Nat := if z then 4 else 5
abbrev SlM := Nat × List Value × List (Option (Option ABlk))
def KMe : List Nat := [1, 2, 5, 12, 13, 14]
def outMe (b0 b1 b2 : Option ABlk) (N M : Nat) (x rv : Value) (k : Int) (l : List (Nat → P2)) : SlM :=
  (124, [x, ptM 3, rv, .slice (some ⟨0, 0, none⟩) M M, .int .i64 M, .int .i64 k], [some b0, some b1, some b2, some (tbE N M), some (mB l)])
noncomputable def runMe (z : Bool) (b0 b1 b2 : Option ABlk) (N M n : Nat) (x : Value) (k : Int) (l : List (Nat → P2)) (S : Nat) (s : List Ans) : Option (AExit × SlM × List Obl × List LpO) :=
  (rndB askMe lssC bodyMe (tmA 124 (LMe x (rvMe z n) M k)) (HMe b0 b1 b2 N M z l).toArray s []).map fun r => (r.1, slG KMe [0, 1, 2, 3, S] r.2.1 r.2.2.1, r.2.2.2)
noncomputable def lgMh (H : List (Option ABlk)) (M : Nat) (k : Int) (po : Addr) (op : Value) : List Obl :=
  [.cmp .lss 3 (.int .i64 k) (.int .i64 M) true, .ex (indexAddrV Try.prog 58 (.slice (some ⟨0, 0, none⟩) M M) (.int .i64 k) = some (.pointer (some po))), .ex (readVar Try.prog H.toArray 68 po = some op)]
noncomputable def lgMr (H : List (Option ABlk)) (x : Value) (A : Int) (pa : Addr) (c : Nat → P2) : List Obl :=
  [.ex (indexAddrV Try.prog 62 x (.int .i64 A) = some (.pointer (some pa))), .ex (readVar Try.prog H.toArray 29 pa = some (mW c))]
noncomputable def lgMa (H H2 : List (Option ABlk)) (rv : Value) (S n : Nat) (k k1 : Int) : List Obl :=
  [.ex (appendV Try.prog H.toArray 62 62 rv (.slice (some ⟨S - 1, 0, none⟩) 1 1) = some (.slice (some ⟨S, 0, none⟩) (n + 1) (n + 1), H2.toArray)), .ex (pureV Try.prog (binOp .add 3 (.int .i64 k) (.int .i64 1)) = some (.int .i64 k1))]
def opFM (K : Int) : FuncId := if K = 2 then 31 else if K = 3 then 32 else if K = 4 then 27 else 37
/-- A constant. -/
def RdMeC (z : Bool) : Prop := ∀ (b0 b1 b2 : Option ABlk) (N M n : Nat) (x : Value) (k k1 : Int) (l : List (Nat → P2)) (A B : Int) (C : Nat) (po : Addr) (v : Nat → P2),
  runMe z b0 b1 b2 N M n x k l (sz z + 3) [yes true, aM (.pointer (some po)), aM (opV 0 A B C), aM (mW v), hpA (.slice (some ⟨sz z + 3, 0, none⟩) (n + 1) (n + 1)) (HMx b0 b1 b2 N M z ++ [obE 0 A B C, fB1 C, mB [v], mB (l ++ [v])]), isI k1] =
  some (.normal, outMe b0 b1 b2 N M x (.slice (some ⟨sz z + 3, 0, none⟩) (n + 1) (n + 1)) k1 (l ++ [v]),
    lgMh (HMe b0 b1 b2 N M z l) M k po (opV 0 A B C) ++ [rnO 24 #[.slice (some ⟨sz z + 1, 0, none⟩) 1 1] (HMe b0 b1 b2 N M z l ++ [obE 0 A B C, fB1 C]) (mW v) []] ++
      lgMa (HMe b0 b1 b2 N M z l ++ [obE 0 A B C, fB1 C, mB [v]]) (HMx b0 b1 b2 N M z ++ [obE 0 A B C, fB1 C, mB [v], mB (l ++ [v])]) (rvMe z n) (sz z + 3) n k k1, [])
/-- A variable. -/
def RdMeV (z : Bool) : Prop := ∀ (b0 b1 b2 : Option ABlk) (N M n : Nat) (x : Value) (k k1 : Int) (l : List (Nat → P2)) (A B : Int) (C : Nat) (po px : Addr) (v : Nat → P2),
  runMe z b0 b1 b2 N M n x k l (sz z + 2) [yes true, aM (.pointer (some po)), aM (opV 1 A B C), aM (.pointer (some px)), aM (mW v), hpA (.slice (some ⟨sz z + 2, 0, none⟩) (n + 1) (n + 1)) (HMx b0 b1 b2 N M z ++ [obE 1 A B C, mB [v], mB (l ++ [v])]), isI k1] =
  some (.normal, outMe b0 b1 b2 N M x (.slice (some ⟨sz z + 2, 0, none⟩) (n + 1) (n + 1)) k1 (l ++ [v]),
    lgMh (HMe b0 b1 b2 N M z l) M k po (opV 1 A B C) ++ lgMr (HMe b0 b1 b2 N M z l ++ [obE 1 A B C]) x A px v ++
      lgMa (HMe b0 b1 b2 N M z l ++ [obE 1 A B C, mB [v]]) (HMx b0 b1 b2 N M z ++ [obE 1 A B C, mB [v], mB (l ++ [v])]) (rvMe z n) (sz z + 2) n k k1, [])
/-- An operation of two registers. -/
def RdMeB (K : Int) : Prop := ∀ (b0 b1 b2 : Option ABlk) (N M n : Nat) (x : Value) (k k1 : Int) (l : List (Nat → P2)) (A B : Int) (C : Nat) (po pa pb : Addr) (u w v : Nat → P2),
  runMe false b0 b1 b2 N M n x k l 7 [yes true, aM (.pointer (some po)), aM (opV K A B C), aM (.pointer (some pa)), aM (mW u), aM (.pointer (some pb)), aM (mW w), aM (mW v), hpA (.slice (some ⟨7, 0, none⟩) (n + 1) (n + 1)) (HMx b0 b1 b2 N M false ++ [obE K A B C, mB [v], mB (l ++ [v])]), isI k1] =
  some (.normal, outMe b0 b1 b2 N M x (.slice (some ⟨7, 0, none⟩) (n + 1) (n + 1)) k1 (l ++ [v]),
    lgMh (HMe b0 b1 b2 N M false l) M k po (opV K A B C) ++ lgMr (HMe b0 b1 b2 N M false l ++ [obE K A B C]) (rvMe false n) A pa u ++ lgMr (HMe b0 b1 b2 N M false l ++ [obE K A B C]) (rvMe false n) B pb w ++ [qtO (opFM K) #[mW u, mW w] (mW v)] ++
      lgMa (HMe b0 b1 b2 N M false l ++ [obE K A B C, mB [v]]) (HMx b0 b1 b2 N M false ++ [obE K A B C, mB [v], mB (l ++ [v])]) (rvMe false n) 7 n k k1, [])
theorem rdMeC_t : RdMeC true := fun _ _ _ _ _ _ _ _ _ _ _ _ _ _ _ => by kernel_rfl
theorem rdMeC_f : RdMeC false := fun _ _ _ _ _ _ _ _ _ _ _ _ _ _ _ => by kernel_rfl
theorem rdMeV_t : RdMeV true := fun _ _ _ _ _ _ _ _ _ _ _ _ _ _ _ _ => by kernel_rfl
theorem rdMeV_f : RdMeV false := fun _ _ _ _ _ _ _ _ _ _ _ _ _ _ _ _ => by kernel_rfl
theorem rdMeB_2 : RdMeB 2 := fun _ _ _ _ _ _ _ _ _ _ _ _ _ _ _ _ _ _ _ => by kernel_rfl
theorem rdMeB_3 : RdMeB 3 := fun _ _ _ _ _ _ _ _ _ _ _ _ _ _ _ _ _ _ _ => by kernel_rfl
theorem rdMeB_4 : RdMeB 4 := fun _ _ _ _ _ _ _ _ _ _ _ _ _ _ _ _ _ _ _ => by kernel_rfl
theorem rdMeB_5 : RdMeB 5 := fun _ _ _ _ _ _ _ _ _ _ _ _ _ _ _ _ _ _ _ => by kernel_rfl
theorem rdMeEnd (b0 b1 b2 : Option ABlk) (N M n : Nat) (x : Value) (k : Int) (l : List (Nat → P2)) :
  runMe false b0 b1 b2 N M n x k l 4 [yes false] = some (.exit 0, outMe b0 b1 b2 N M x (rvMe false n) k l, [.cmp .lss 3 (.int .i64 k) (.int .i64 M) false], []) := by kernel_rfl
theorem okMe : codeOk q1 bodyMe = true := by kernel_rfl
def outMt (N i : Nat) (f : Nat → Nat → P2) : Option ABlk := mB ((List.range N).map fun n => if n < i then f n else zM)
noncomputable def lgMo (H : List (Option ABlk)) (rv : Value) (N : Nat) (u : Nat → Int) (p : Nat → Addr) (f : Nat → Nat → P2) : List Obl :=
  ((List.range N).flatMap fun i => [.cmp .lss 3 (.int .i64 (Int.ofNat i)) (.int .i64 (Int.ofNat N)) true, .ex (readVar Try.prog (H ++ [outMt N i f]).toArray 3 ⟨1, i, none⟩ = some (.int .i64 (u i))),
    .ex (indexAddrV Try.prog 62 rv (.int .i64 (u i)) = some (.pointer (some (p i)))), .ex (readVar Try.prog (H ++ [outMt N i f]).toArray 29 (p i) = some (mW (f i)))]) ++ [.cmp .lss 3 (.int .i64 (Int.ofNat N)) (.int .i64 (Int.ofNat N)) false]
def FinMe (N : Nat) : Prop := ∀ (b0 b1 b2 : Option ABlk) (M n : Nat) (x : Value) (l : List (Nat → P2)) (u : Nat → Int) (p : Nat → Addr) (f : Nat → Nat → P2),
  (askTB askMe lssC 46 #[tpV 0 1 N M, x] #[b0, b1, b2] (((List.range N).flatMap fun i => [yes true, aM (.int .i64 (u i)), aM (.pointer (some (p i))), aM (mW (f i))]) ++ [yes false])
    [some ⟨.exit 0, tmA 124 (LMe x (rvMe false n) M M), (HMe b0 b1 b2 N M false l).toArray⟩, none]).map (fun r => (r.1, r.2.1, r.2.2.1, slL [(KMe, [0, 1, 2, 3])] r.2.2.2)) =
  some (.slice (some ⟨5, 0, none⟩) N N, (HMe b0 b1 b2 N M false l ++ [outMt N N f]).toArray, lgMo (HMe b0 b1 b2 N M false l) (rvMe false n) N u p f,
    [(bodyMe, (124, [x, ptM 3, .slice none 0 0, .slice (some ⟨0, 0, none⟩) M M, .int .i64 M, .int .i64 0], [some b0, some b1, some b2, some (tbE N M)]), (.exit 0, tmA 124 (LMe x (rvMe false n) M M), (HMe b0 b1 b2 N M false l).toArray))])
theorem finMe_1 : FinMe 1 := fun _ _ _ _ _ _ _ _ _ _ => by kernel_rfl
theorem finMe_2 : FinMe 2 := fun _ _ _ _ _ _ _ _ _ _ => by kernel_rfl
theorem finMe_3 : FinMe 3 := fun _ _ _ _ _ _ _ _ _ _ => by kernel_rfl

end Go.Proofs.Ytnbbmihlokajaaa

/-!  model.Eval's contract: in a memory that holds a field and Models, a new row of what its operations reckon. -/
namespace Go.Proofs.Ytnbbmihlokajaaa
open Go
set_option linter.unusedVariables false
set_option linter.unusedSimpArgs false
set_option maxRecDepth 100000

def ρM (S : Nat) : Nat → Nat := fun b => ([0, 1, 2, 3, S] : List Nat).getD b 0
theorem tbE_rel {z : Nat} (hz : 3 ≤ z) {ρ : Nat → Nat} (h0 : ρ 0 = 0) (h1 : ρ 1 = 1) (N M : Nat) {l : List (Option ABlk)} {l' : List (Option (Option ABlk))} (t : RelBs z ρ l l') : RelBs z ρ (tbE N M :: l) (some (tbE N M) :: l') := by
  refine .some (RelK.list (.cons (.clos rfl) (.cons (.slice 0 0 0 none _ _ _ (by omega) h0) (.cons (.slice 1 1 0 none _ _ _ (by omega) h1) .nil)))) t
section
variable {b0 b1 b2 : Option ABlk} {N : Nat} {ops : List OpD} {out : List Int} {xs : List (Nat → P2)}
theorem entMe (p0 : PlO b0) (p1 : PlO b1) (p2 : PlO b2) (N M n S : Nat) (hS : 4 ≤ S) (k : Int) (l : List (Nat → P2)) :
    EntOK 3 KMe [0, 1, 2, 3, S] (outMe b0 b1 b2 N M (.slice (some ⟨2, 0, none⟩) N N) (.slice (some ⟨S, 0, none⟩) n n) k l) (tmA 124 (LMe (.slice (some ⟨2, 0, none⟩) N N) (rvMe false n) M k)) (HMe b0 b1 b2 N M false l).toArray := by
  refine entOK (H2 := HMe b0 b1 b2 N M false l) rfl rfl ?_ ?_ ?_
  · simp
    omega
  · exact .cons (.slice 2 2 0 none _ _ _ (show (2 : Nat) < 5 by decide) rfl) (.cons (.ptr 3 3 0 none (show (3 : Nat) < 5 by decide) rfl) (.cons (.slice 4 S 0 none _ _ _ (show (4 : Nat) < 5 by decide) rfl) (.cons (.slice 0 0 0 none _ _ _ (show (0 : Nat) < 5 by decide) rfl) (.cons (.clos rfl) (.cons (.clos rfl) .nil)))))
  · exact relBs_pl p0 (relBs_pl p1 (relBs_pl p2 (tbE_rel (show (3 : Nat) ≤ 5 by decide) rfl rfl N M (relBs_own (mB_cl l) .nil))))
theorem entMe0 (p0 : PlO b0) (p1 : PlO b1) (p2 : PlO b2) (N M : Nat) :
    EntOK 3 KMe [0, 1, 2, 3] (124, [.slice (some ⟨2, 0, none⟩) N N, ptM 3, .slice none 0 0, .slice (some ⟨0, 0, none⟩) M M, .int .i64 M, .int .i64 0], [some b0, some b1, some b2, some (tbE N M)]) (tmA 124 (LMe (.slice (some ⟨2, 0, none⟩) N N) (rvMe true 0) M 0)) (HMe b0 b1 b2 N M true []).toArray := by
  refine entOK (H2 := HMe b0 b1 b2 N M true []) rfl rfl (by decide) ?_ ?_
  · exact .cons (.slice 2 2 0 none _ _ _ (show (2 : Nat) < 4 by decide) rfl) (.cons (.ptr 3 3 0 none (show (3 : Nat) < 4 by decide) rfl) (.cons (.clos rfl) (.cons (.slice 0 0 0 none _ _ _ (show (0 : Nat) < 4 by decide) rfl) (.cons (.clos rfl) (.cons (.clos rfl) .nil)))))
  · exact relBs_pl p0 (relBs_pl p1 (relBs_pl p2 (tbE_rel (show (3 : Nat) ≤ 4 by decide) rfl rfl N M .nil)))
theorem addK (k : Nat) (h : k < 1000000) : pureV Try.prog (binOp .add 3 (.int .i64 (k : Int)) (.int .i64 1)) = some (.int .i64 ((k + 1 : Nat) : Int)) := by
  have := ar_add (k : Int) 1
  rw [wr_id (by omega) (by omega)] at this
  exact this
/-- A register of those that were reckoned. -/
theorem reg_okM {A : Int} {n : Nat} {l : List (Nat → P2)} (hl : l.length = n) (h0 : 0 ≤ A) (h1 : A < n) (N M : Nat) (c : List (Option ABlk)) : okAll Try.prog (lgMr (HMe b0 b1 b2 N M false l ++ c) (rvMe false n) A ⟨4, A.toNat * 20, none⟩ (l.getD A.toNat zM)) := by
  refine ⟨ixM h0 h1 rfl, rdM (B := ⟨(l.flatMap mC).toArray, 29, 20, true⟩) (l := l) (k := A.toNat) rfl rfl (getD_at zM (by omega)) rfl, trivial⟩
theorem EvM.var (h : EvM b0 b1 b2 N ops out xs) {A : Int} (h0 : 0 ≤ A) (h1 : A < N) {H : List (Option ABlk)} (hH : H.toArray[2]? = some b2) : okAll Try.prog (lgMr H (.slice (some ⟨2, 0, none⟩) N N) A ⟨2, A.toNat * 20, none⟩ (xs.getD A.toNat zM)) := by
  obtain ⟨B, hB, hc⟩ := h.m2
  refine ⟨ixM h0 h1 rfl, rdM (B := B) (l := xs) (k := A.toNat) ?_ hc ?_ rfl, trivial⟩
  · rw [hH, hB]
  · exact getD_at zM (by rw [h.lx]; omega)
/-- model.Of of one number. -/
theorem of1_rn {l : List (Option ABlk)} {S C : Nat} (h : l[S]? = some (fB1 C)) : (rnO 24 #[.slice (some ⟨S, 0, none⟩) 1 1] l (mW (ofM [C])) []).ok Try.prog := by
  have := of_runs (fs := [C]) (H := froze l.toArray) (va := .slice (some ⟨S, 0, none⟩) 1 1) (show (1 : Nat) ≤ 9 by decide) (froze_all _) (.inr ⟨S, _, by simp, rfl, fz_at h, rfl⟩)
  show Runs _ _ _ _ _ (_ ++ #[])
  rw [Array.append_empty]
  exact this
theorem op_rn {K : Int} (h2 : 2 ≤ K) (h5 : K ≤ 5) (u : Nat → P2) {w : Nat → P2} (hw : AllN w) : (qtO (opFM K) #[mW u, mW w] (mW (opMd K u w))).ok Try.prog := by
  have : K = 2 ∨ K = 3 ∨ K = 4 ∨ K = 5 := by omega
  rcases this with rfl | rfl | rfl | rfl
  · exact addM_runs u w
  · exact subM_runs u w
  · exact mulM_runs u w
  · exact quoM_runs u (hw 0 (by decide)).1 (hw 0 (by decide)).2
theorem rdMeB {K : Int} (h2 : 2 ≤ K) (h5 : K ≤ 5) : RdMeB K := by
  have : K = 2 ∨ K = 3 ∨ K = 4 ∨ K = 5 := by omega
  rcases this with rfl | rfl | rfl | rfl
  · exact rdMeB_2
  · exact rdMeB_3
  · exact rdMeB_4
  · exact rdMeB_5
theorem list_next {α : Type} (F : Nat → α) (k : Nat) : (List.range (k + 1)).map F = (List.range k).map F ++ [F k] := by rw [List.range_succ, List.map_append]; rfl
/-- What is put behind. -/
theorem app_okM {l : List (Nat → P2)} {n : Nat} (hl : l.length = n) (hn : n < 1000000) {c : List (Option ABlk)} {v : Nat → P2} (b0 b1 b2 : Option ABlk) (N M : Nat) :
    appendV Try.prog (HMe b0 b1 b2 N M false l ++ (c ++ [mB [v]])).toArray 62 62 (rvMe false n) (.slice (some ⟨5 + c.length, 0, none⟩) 1 1) =
      some (.slice (some ⟨6 + c.length, 0, none⟩) (n + 1) (n + 1), (HMx b0 b1 b2 N M false ++ (c ++ [mB [v], mB (l ++ [v])])).toArray) := by
  have hx : (HMe b0 b1 b2 N M false l ++ (c ++ [mB [v]])).toArray[5 + c.length]? = some (mB [v]) := by
    show (HMe b0 b1 b2 N M false l ++ (c ++ [mB [v]])).toArray[5 + c.length]? = _
    rw [List.getElem?_toArray, List.getElem?_append_right (by simp [HMe]), List.getElem?_append_right (by simp [HMe])]
    simp [HMe]
  have := app_at (f := mC) (n := 20) (fun _ => rfl) gr_md (H := (HMe b0 b1 b2 N M false l ++ (c ++ [mB [v]])).toArray) (br := 4) (bx := 5 + c.length) (k := n) (c := n) (c' := 1) (B := ⟨(l.flatMap mC).toArray, 29, 20, true⟩) (l := l) (a := v) rfl rfl rfl rfl rfl hl hx
    (by simp) (mC_one v) (by omega)
  refine this.trans ?_
  have hs : (HMe b0 b1 b2 N M false l ++ (c ++ [mB [v]])).toArray.size = 6 + c.length := by
    simp [HMe]; omega
  rw [hs]
  congr 2
  apply Array.ext'
  simp [HMe, HMx, mB]
theorem app_ok0 {c : List (Option ABlk)} {v : Nat → P2} (b0 b1 b2 : Option ABlk) (N M : Nat) :
    appendV Try.prog (HMe b0 b1 b2 N M true [] ++ (c ++ [mB [v]])).toArray 62 62 (rvMe true 0) (.slice (some ⟨4 + c.length, 0, none⟩) 1 1) =
      some (.slice (some ⟨5 + c.length, 0, none⟩) 1 1, (HMx b0 b1 b2 N M true ++ (c ++ [mB [v], mB ([] ++ [v])])).toArray) := by
  have hx : (HMe b0 b1 b2 N M true [] ++ (c ++ [mB [v]])).toArray[4 + c.length]? = some (mB [v]) := by
    rw [List.getElem?_toArray, List.getElem?_append_right (by simp [HMe]), List.getElem?_append_right (by simp [HMe])]
    simp [HMe]
  have := app_nil (f := mC) (n := 20) (fun _ => rfl) gr_md (H := (HMe b0 b1 b2 N M true [] ++ (c ++ [mB [v]])).toArray) (bx := 4 + c.length) (c' := 1) (a := v) hx (by simp) (mC_one v)
  refine this.trans ?_
  have hs : (HMe b0 b1 b2 N M true [] ++ (c ++ [mB [v]])).toArray.size = 5 + c.length := by
    simp [HMe]; omega
  rw [hs]
  congr 2
  apply Array.ext'
  simp [HMe, HMx, mB]
/-- A ROUND. -/
theorem EvM.round (h : EvM b0 b1 b2 N ops out xs) (p0 : PlO b0) (p1 : PlO b1) (p2 : PlO b2) (hr : ∀ k, AllN (regM ops xs k)) {k : Nat} {o : OpD} (ho : ops[k]? = some o) (hk : k < 1000) :
    CodeB Try.prog 3 bodyMe (tmA 124 (LMe (.slice (some ⟨2, 0, none⟩) N N) (rvMe (decide (k = 0)) k) ops.length (k : Nat))) (HMe b0 b1 b2 N ops.length (decide (k = 0)) ((List.range k).map (regM ops xs))).toArray
      (.normal, tmA 124 (LMe (.slice (some ⟨2, 0, none⟩) N N) (rvMe false (k + 1)) ops.length ((k + 1 : Nat) : Int)), (HMe b0 b1 b2 N ops.length false ((List.range (k + 1)).map (regM ops xs))).toArray) := by
  have hok := h.ok k o ho
  have hF : regM ops xs k = stepT (fun c => ofM [c]) opMd (fun i => xs.getD i zM) (regM ops xs) o := regT_at ho hok
  unfold stepT at hF
  rw [list_next]
  have hlen : ((List.range k).map (regM ops xs)).length = k := by simp
  generalize hl : (List.range k).map (regM ops xs) = l at hlen ⊢
  have hadd := addK k (by omega)
  have hreg : ∀ {A : Int}, 0 ≤ A → A < k → l.getD A.toNat zM = regM ops xs A.toNat := by
    intro A a0 a1
    rw [← hl, List.getD_eq_getElem?_getD, List.getElem?_map, List.getElem?_range (by omega)]
    rfl
  by_cases hz : k = 0
  · subst hz
    have : l = [] := List.eq_nil_of_length_eq_zero hlen
    subst this
    rw [decide_eq_true rfl]
    have hd := h.head ho (H := HMe b0 b1 b2 N ops.length true []) rfl
    rcases hok with c0 | ⟨c1, hA0, hA1⟩ | ⟨c2, c5, a0, a1, _⟩
    · rw [if_pos c0] at hF
      rw [c0] at hd
      have r := rdMeC_t b0 b1 b2 N ops.length 0 (.slice (some ⟨2, 0, none⟩) N N) (0 : Nat) ((0 + 1 : Nat) : Int) [] o.A o.B o.C ⟨0, 0 * 4, none⟩ (regM ops xs 0)
      refine rndB_to r okMe (okApp' (okApp' hd ⟨?_, trivial⟩) ⟨app_ok0 (c := [obE 0 o.A o.B o.C, fB1 o.C]) b0 b1 b2 N ops.length, hadd, trivial⟩) (entMe p0 p1 p2 N ops.length 1 7 (by decide) _ _)
      rw [hF]
      exact of1_rn rfl
    · rw [if_neg (by omega), if_pos c1] at hF
      rw [c1] at hd
      have r := rdMeV_t b0 b1 b2 N ops.length 0 (.slice (some ⟨2, 0, none⟩) N N) (0 : Nat) ((0 + 1 : Nat) : Int) [] o.A o.B o.C ⟨0, 0 * 4, none⟩ ⟨2, o.A.toNat * 20, none⟩ (regM ops xs 0)
      refine rndB_to r okMe (okApp' (okApp' hd ?_) ⟨app_ok0 (c := [obE 1 o.A o.B o.C]) b0 b1 b2 N ops.length, hadd, trivial⟩) (entMe p0 p1 p2 N ops.length 1 6 (by decide) _ _)
      rw [hF]
      exact h.var hA0 hA1 rfl
    · omega
  · rw [decide_eq_false hz]
    have hd := h.head ho (H := HMe b0 b1 b2 N ops.length false l) rfl
    rcases hok with c0 | ⟨c1, hA0, hA1⟩ | ⟨c2, c5, a0, a1, q0, q1⟩
    · rw [if_pos c0] at hF
      rw [c0] at hd
      have r := rdMeC_f b0 b1 b2 N ops.length k (.slice (some ⟨2, 0, none⟩) N N) (k : Nat) ((k + 1 : Nat) : Int) l o.A o.B o.C ⟨0, k * 4, none⟩ (regM ops xs k)
      refine rndB_to r okMe (okApp' (okApp' hd ⟨?_, trivial⟩) ⟨app_okM (c := [obE 0 o.A o.B o.C, fB1 o.C]) hlen (by omega) b0 b1 b2 N ops.length, hadd, trivial⟩) (entMe p0 p1 p2 N ops.length (k + 1) 8 (by decide) _ _)
      rw [hF]
      exact of1_rn rfl
    · rw [if_neg (by omega), if_pos c1] at hF
      rw [c1] at hd
      have r := rdMeV_f b0 b1 b2 N ops.length k (.slice (some ⟨2, 0, none⟩) N N) (k : Nat) ((k + 1 : Nat) : Int) l o.A o.B o.C ⟨0, k * 4, none⟩ ⟨2, o.A.toNat * 20, none⟩ (regM ops xs k)
      refine rndB_to r okMe (okApp' (okApp' hd ?_) ⟨app_okM (c := [obE 1 o.A o.B o.C]) hlen (by omega) b0 b1 b2 N ops.length, hadd, trivial⟩) (entMe p0 p1 p2 N ops.length (k + 1) 7 (by decide) _ _)
      rw [hF]
      exact h.var hA0 hA1 rfl
    · rw [if_neg (by omega), if_neg (by omega)] at hF
      have r := rdMeB c2 c5 b0 b1 b2 N ops.length k (.slice (some ⟨2, 0, none⟩) N N) (k : Nat) ((k + 1 : Nat) : Int) l o.A o.B o.C ⟨0, k * 4, none⟩ ⟨4, o.A.toNat * 20, none⟩ ⟨4, o.B.toNat * 20, none⟩ (l.getD o.A.toNat zM) (l.getD o.B.toNat zM) (regM ops xs k)
      refine rndB_to r okMe (okApp' (okApp' (okApp' (okApp' hd (reg_okM hlen a0 a1 N ops.length [obE o.K o.A o.B o.C])) (reg_okM hlen q0 q1 N ops.length [obE o.K o.A o.B o.C])) ⟨?_, trivial⟩) ⟨app_okM (c := [obE o.K o.A o.B o.C]) hlen (by omega) b0 b1 b2 N ops.length, hadd, trivial⟩) (entMe p0 p1 p2 N ops.length (k + 1) 7 (by decide) _ _)
      rw [hF, hreg a0 a1, hreg q0 q1]
      exact op_rn c2 c5 _ (hr _)
theorem EvM.rounds (h : EvM b0 b1 b2 N ops out xs) (p0 : PlO b0) (p1 : PlO b1) (p2 : PlO b2) (hr : ∀ k, AllN (regM ops xs k)) (h1 : 1 ≤ ops.length) (hM : ops.length < 1000) : ∀ (d k : Nat), k + d = ops.length →
    RdsB Try.prog 3 bodyMe (tmA 124 (LMe (.slice (some ⟨2, 0, none⟩) N N) (rvMe (decide (k = 0)) k) ops.length (k : Nat))) (HMe b0 b1 b2 N ops.length (decide (k = 0)) ((List.range k).map (regM ops xs))).toArray
      (.exit 0, tmA 124 (LMe (.slice (some ⟨2, 0, none⟩) N N) (rvMe false ops.length) ops.length (ops.length : Nat)), (HMe b0 b1 b2 N ops.length false ((List.range ops.length).map (regM ops xs))).toArray)
  | 0, k, hk => by
    have e : k = ops.length := by omega
    subst e
    rw [decide_eq_false (by omega)]
    exact .last (rndB_to (rdMeEnd b0 b1 b2 N ops.length ops.length (.slice (some ⟨2, 0, none⟩) N N) (ops.length : Nat) _) okMe ⟨cmp_ok (decide_eq_false (by omega)), trivial⟩ (entMe p0 p1 p2 N ops.length ops.length 4 (by decide) _ _)) (by simp)
  | d + 1, k, hk => by
    have hlt : k < ops.length := by omega
    have r := h.round p0 p1 p2 hr (List.getElem?_eq_getElem hlt) (by omega)
    have t := h.rounds p0 p1 p2 hr h1 hM d (k + 1) (by omega)
    rw [decide_eq_false (show ¬ k + 1 = 0 by omega)] at t
    exact .next r t
theorem evOut_get {α : Type} (F : Nat → α) {out : List Int} {N : Nat} (h : out.length = N) : (List.range N).map (fun i => F (out.getD i 0).toNat) = evOut F out := by
  subst h
  unfold evOut
  have e2 := range_getD (0 : Int) out
  conv => rhs; rw [← e2]
  rw [List.map_map]
  rfl
theorem outMt_full {N : Nat} {out : List Int} (F : Nat → Nat → P2) (h : out.length = N) : outMt N N (fun i => F (out.getD i 0).toNat) = mB (evOut F out) := by
  unfold outMt
  congr 1
  rw [← evOut_get F h]
  apply List.map_congr_left
  intro i hi
  rw [if_pos (List.mem_range.1 hi)]
theorem EvM.outs (h : EvM b0 b1 b2 N ops out xs) (M : Nat) (hM : M = ops.length) : okAll Try.prog (lgMo (HMe b0 b1 b2 N M false ((List.range M).map (regM ops xs))) (rvMe false M) N
    (fun i => out.getD i 0) (fun i => ⟨4, (out.getD i 0).toNat * 20, none⟩) (fun i => regM ops xs (out.getD i 0).toNat)) := by
  subst hM
  unfold lgMo
  refine okApp' (each_ok _ _ fun i hi => ?_) ⟨cmp_ok (decide_eq_false (by omega)), trivial⟩
  have hi' := List.mem_range.1 hi
  have hio : i < out.length := by rw [h.lo]; exact hi'
  have hg : out[i]? = some (out.getD i 0) := getD_at 0 hio
  obtain ⟨u0, u1⟩ := h.oo _ (List.mem_of_getElem? hg)
  obtain ⟨B, hB, hc⟩ := h.m1
  have hreg := reg_okM (b0 := b0) (b1 := b1) (b2 := b2) (A := out.getD i 0) (n := ops.length) (l := (List.range ops.length).map (regM ops xs)) (by simp) u0 (by omega) N ops.length [outMt N i (fun i => regM ops xs (out.getD i 0).toNat)]
  have e : ((List.range ops.length).map (regM ops xs)).getD (out.getD i 0).toNat zM = regM ops xs (out.getD i 0).toNat := by
    rw [List.getD_eq_getElem?_getD, List.getElem?_map, List.getElem?_range (by omega)]; rfl
  rw [e] at hreg
  refine ⟨cmp_ok (decide_eq_true hi'), rdI (B := B) (l := out) (k := i) ?_ hc hg rfl, hreg.1, hreg.2.1, trivial⟩
  rw [hB]; rfl
theorem finMe (N : Nat) (h1 : 1 ≤ N) (h2 : N ≤ 3) : FinMe N := by
  have : N = 1 ∨ N = 2 ∨ N = 3 := by omega
  rcases this with rfl | rfl | rfl
  · exact finMe_1
  · exact finMe_2
  · exact finMe_3
end
/-- A field and Models in a memory of their own: model.Eval. -/
theorem EvM.eval {c0 c1 c2 : ABlk} {N : Nat} {ops : List OpD} {out : List Int} {xs : List (Nat → P2)} (h : EvM (some c0) (some c1) (some c2) N ops out xs) (p0 : PlO (some c0)) (p1 : PlO (some c1)) (p2 : PlO (some c2)) (hr : ∀ k, AllN (regM ops xs k))
    (h0 : c0.own = false) (h1 : c1.own = false) (h2 : c2.own = false) (hM2 : 1 ≤ ops.length) (hM : ops.length < 1000) (hN : 1 ≤ N) (hN3 : N ≤ 3) :
    Runs Try.prog 46 #[tpV 0 1 N ops.length, .slice (some ⟨2, 0, none⟩) N N] #[some c0, some c1, some c2] (.slice (some ⟨3, 0, none⟩) N N) (#[some c0, some c1, some c2] ++ #[mB (evOut (regM ops xs) out)]) := by
  have rds := h.rounds p0 p1 p2 hr hM2 hM ops.length 0 (by omega)
  have fin := finMe N hN hN3 (some c0) (some c1) (some c2) ops.length ops.length (.slice (some ⟨2, 0, none⟩) N N) ((List.range ops.length).map (regM ops xs)) (fun i => out.getD i 0) (fun i => ⟨4, (out.getD i 0).toNat * 20, none⟩) (fun i => regM ops xs (out.getD i 0).toNat)
  obtain ⟨H', hH, hrun⟩ := askTB_to (g := fun H => H) fin (h.outs ops.length rfl) ⟨⟨_, _, entMe0 p0 p1 p2 N ops.length, rds.loop⟩, trivial⟩
  rw [outMt_full (regM ops xs) h.lo] at hH
  subst hH
  have hf3 : AllFrozen #[some c0, some c1, some c2] := by
    intro b B hB
    match b, hB with
    | 0, hB => simp at hB; subst hB; exact h0
    | 1, hB => simp at hB; subst hB; exact h1
    | 2, hB => simp at hB; subst hB; exact h2
    | n + 3, hB => simp at hB
  have e : (HMe (some c0) (some c1) (some c2) N ops.length false ((List.range ops.length).map (regM ops xs)) ++ [mB (evOut (regM ops xs) out)]).toArray = #[some c0, some c1, some c2] ++ #[tbE N ops.length, mB ((List.range ops.length).map (regM ops xs)), mB (evOut (regM ops xs) out)] := by
    apply Array.ext'
    simp [HMe]
  rw [e] at hrun
  exact Runs.keep1 (k := 2) hf3 hrun rfl (mB_cl _)

end Go.Proofs.Ytnbbmihlokajaaa
