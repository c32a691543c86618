/- MdR / MdS / MdL: several texts in one. -/
import Derived.Test.YtnbbmihlokajaaaMdF
import Derived.Test.YtnbbmihlokajaaaLawModelAll
/-!  The document's Eval of Models: a round, at any number of registers; the run about its rounds. -/
namespace Go.Proofs.Ytnbbmihlokajaaa
open Go
set_option linter.unusedVariables false
set_option linter.unusedSimpArgs false
set_option maxRecDepth 100000

noncomputable def askRm (g : FuncId) : Nat := if [26, 73].contains g then 1 else
  if [13, 20, 24, 25, 35, 36, 40, 41, 43, 52, 60, 61, 62, 75, 76, 77].contains (g - 1000000) && Nat.ble 1000000 g then 7 else 0
noncomputable def bodyRm : Code := bodyG Try.prog 47 0
def LRm (x : Value) (M : Nat) (k : Int) : List (Nat × Value) := [(1, x), (2, ptM 3), (5, .slice (some ⟨4, 0, none⟩) M M), (6, .int .i64 k)]
def KRm : List Nat := [1, 2, 5, 6]
def HRm (b0 b1 b2 : Option ABlk) (N M : Nat) (l : List (Nat → P2)) : List (Option ABlk) := [b0, b1, b2, tbE N M, mB l]
def outRm (b0 b1 b2 : Option ABlk) (N M : Nat) (x : Value) (k : Int) (l : List (Nat → P2)) : SlM := (81, [x, ptM 3, .slice (some ⟨4, 0, none⟩) M M, .int .i64 k], [some b0, some b1, some b2, some (tbE N M), some (mB l)])
noncomputable def runRm (b0 b1 b2 : Option ABlk) (N M : Nat) (x : Value) (k : Int) (l : List (Nat → P2)) (s : List Ans) : Option (AExit × SlM × List Obl × List LpO) :=
  (rndB askRm lssC bodyRm (tmA 81 (LRm x M k)) (HRm b0 b1 b2 N M l).toArray s []).map fun r => (r.1, slG KRm [0, 1, 2, 3, 4] r.2.1 r.2.2.1, r.2.2.2)
noncomputable def lgRw (H H2 : List (Option ABlk)) (M : Nat) (k k1 : Int) (pk : Addr) (v : Nat → P2) : List Obl :=
  [.ex (indexAddrV Try.prog 62 (.slice (some ⟨4, 0, none⟩) M M) (.int .i64 k) = some (.pointer (some pk))), .ex (writeVar Try.prog H.toArray 29 pk (mW v) = some H2.toArray), .ex (pureV Try.prog (binOp .add 3 (.int .i64 k) (.int .i64 1)) = some (.int .i64 k1))]
theorem rdRmC (b0 b1 b2 : Option ABlk) (N M : Nat) (x : Value) (k k1 : Int) (l l2 : List (Nat → P2)) (A B : Int) (C : Nat) (po pk : Addr) (v : Nat → P2) :
  runRm b0 b1 b2 N M x k l [yes true, aM (.pointer (some po)), aM (opV 0 A B C), aM (mW v), aM (.pointer (some pk)), hpA undef (HRm b0 b1 b2 N M l2 ++ [obE 0 A B C, fB1 C]), isI k1] =
  some (.normal, outRm b0 b1 b2 N M x k1 l2, lgMh (HRm b0 b1 b2 N M l) M k po (opV 0 A B C) ++ [rnO 26 #[.slice (some ⟨6, 0, none⟩) 1 1] (HRm b0 b1 b2 N M l ++ [obE 0 A B C, fB1 C]) (mW v) []] ++
    lgRw (HRm b0 b1 b2 N M l ++ [obE 0 A B C, fB1 C]) (HRm b0 b1 b2 N M l2 ++ [obE 0 A B C, fB1 C]) M k k1 pk v, []) := by kernel_rfl
theorem rdRmV (b0 b1 b2 : Option ABlk) (N M : Nat) (x : Value) (k k1 : Int) (l l2 : List (Nat → P2)) (A B : Int) (C : Nat) (po px pk : Addr) (v : Nat → P2) :
  runRm b0 b1 b2 N M x k l [yes true, aM (.pointer (some po)), aM (opV 1 A B C), aM (.pointer (some px)), aM (mW v), aM (.pointer (some pk)), hpA undef (HRm b0 b1 b2 N M l2 ++ [obE 1 A B C]), isI k1] =
  some (.normal, outRm b0 b1 b2 N M x k1 l2, lgMh (HRm b0 b1 b2 N M l) M k po (opV 1 A B C) ++ lgMr (HRm b0 b1 b2 N M l ++ [obE 1 A B C]) x A px v ++
    lgRw (HRm b0 b1 b2 N M l ++ [obE 1 A B C]) (HRm b0 b1 b2 N M l2 ++ [obE 1 A B C]) M k k1 pk v, []) := by kernel_rfl
def RdRmB (K : Int) : Prop := ∀ (b0 b1 b2 : Option ABlk) (N M : Nat) (x : Value) (k k1 : Int) (l l2 : List (Nat → P2)) (A B : Int) (C : Nat) (po pa pb pk : Addr) (u w v : Nat → P2),
  runRm b0 b1 b2 N M x k l [yes true, aM (.pointer (some po)), aM (opV K A B C), aM (.pointer (some pa)), aM (mW u), aM (.pointer (some pb)), aM (mW w), aM (mW v), aM (.pointer (some pk)), hpA undef (HRm b0 b1 b2 N M l2 ++ [obE K A B C]), isI k1] =
  some (.normal, outRm b0 b1 b2 N M x k1 l2, lgMh (HRm b0 b1 b2 N M l) M k po (opV K A B C) ++ lgMr (HRm b0 b1 b2 N M l ++ [obE K A B C]) (.slice (some ⟨4, 0, none⟩) M M) A pa u ++ lgMr (HRm b0 b1 b2 N M l ++ [obE K A B C]) (.slice (some ⟨4, 0, none⟩) M M) B pb w ++
      [qtO 73 #[.int .i64 K, mW u, mW w] (mW v)] ++ lgRw (HRm b0 b1 b2 N M l ++ [obE K A B C]) (HRm b0 b1 b2 N M l2 ++ [obE K A B C]) M k k1 pk v, [])
theorem rdRmB_2 : RdRmB 2 := fun _ _ _ _ _ _ _ _ _ _ _ _ _ _ _ _ _ _ _ _ => by kernel_rfl
theorem rdRmB_3 : RdRmB 3 := fun _ _ _ _ _ _ _ _ _ _ _ _ _ _ _ _ _ _ _ _ => by kernel_rfl
theorem rdRmB_4 : RdRmB 4 := fun _ _ _ _ _ _ _ _ _ _ _ _ _ _ _ _ _ _ _ _ => by kernel_rfl
theorem rdRmB_5 : RdRmB 5 := fun _ _ _ _ _ _ _ _ _ _ _ _ _ _ _ _ _ _ _ _ => by kernel_rfl
theorem rdRmEnd (b0 b1 b2 : Option ABlk) (N M : Nat) (x : Value) (k : Int) (l : List (Nat → P2)) :
  runRm b0 b1 b2 N M x k l [yes false] = some (.exit 0, outRm b0 b1 b2 N M x k l, [.cmp .lss 3 (.int .i64 k) (.int .i64 M) false], []) := by kernel_rfl
theorem okRm : codeOk q1 bodyRm = true := by kernel_rfl
def grM (N : Nat) (f : Nat → Nat → P2) : List (Option ABlk) := (List.range N).flatMap fun i => [mB [f i], if i + 1 = N then mB ((List.range N).map f) else none]
noncomputable def lgRo (H : List (Option ABlk)) (N M : Nat) (u : Nat → Int) (p : Nat → Addr) (f : Nat → Nat → P2) : List Obl :=
  ((List.range N).flatMap fun i => [.cmp .lss 3 (.int .i64 (Int.ofNat i)) (.int .i64 (Int.ofNat N)) true, .ex (readVar Try.prog (H ++ grM i f).toArray 3 ⟨1, i, none⟩ = some (.int .i64 (u i))),
    .ex (indexAddrV Try.prog 62 (.slice (some ⟨4, 0, none⟩) M M) (.int .i64 (u i)) = some (.pointer (some (p i)))), .ex (readVar Try.prog (H ++ grM i f).toArray 29 (p i) = some (mW (f i)))]) ++ [.cmp .lss 3 (.int .i64 (Int.ofNat N)) (.int .i64 (Int.ofNat N)) false]
def FinRm (N : Nat) : Prop := ∀ (b0 b1 b2 : Option ABlk) (M : Nat) (x : Value) (l0 l : List (Nat → P2)) (u : Nat → Int) (p : Nat → Addr) (f : Nat → Nat → P2),
  (askTB askRm lssC 47 #[tpV 0 1 N M, x] #[b0, b1, b2] ([hpA (.slice (some ⟨4, 0, none⟩) M M) (HRm b0 b1 b2 N M l0)] ++ ((List.range N).flatMap fun i => [yes true, aM (.int .i64 (u i)), aM (.pointer (some (p i))), aM (mW (f i))]) ++ [yes false])
    [some ⟨.exit 0, tmA 81 (LRm x M M), (HRm b0 b1 b2 N M l).toArray⟩, none]).map (fun r => (r.1, r.2.1, r.2.2.1, slL [(KRm, [0, 1, 2, 3, 4])] r.2.2.2)) =
  some (.slice (some ⟨4 + 2 * N, 0, none⟩) N N, (HRm b0 b1 b2 N M l ++ grM N f).toArray, [.ex (makeSliceV Try.prog [b0, b1, b2, tbE N M].toArray 62 (.int .i64 M) (.int .i64 M) = some (.slice (some ⟨4, 0, none⟩) M M, (HRm b0 b1 b2 N M l0).toArray))] ++ lgRo (HRm b0 b1 b2 N M l) N M u p f,
    [(bodyRm, outRm b0 b1 b2 N M x 0 l0, (.exit 0, tmA 81 (LRm x M M), (HRm b0 b1 b2 N M l).toArray))])
theorem finRm_1 : FinRm 1 := fun _ _ _ _ _ _ _ _ _ _ => by kernel_rfl
theorem finRm_2 : FinRm 2 := fun _ _ _ _ _ _ _ _ _ _ => by kernel_rfl
theorem finRm_3 : FinRm 3 := fun _ _ _ _ _ _ _ _ _ _ => by kernel_rfl
noncomputable def askTwm (g : FuncId) : Nat := if [34, 35, 36, 38].contains g then 1 else 0
def opFR (K : Int) : FuncId := if K = 2 then 34 else if K = 3 then 35 else if K = 4 then 36 else 38
def TwRun (K : Int) : Prop := ∀ (u w v : Nat → P2), (askN askTwm noC 12 73 #[.int .i64 K, mW u, mW w] #[] [aM (mW v)]).map (fun r => (r.1, r.2.2)) = some (mW v, [qtO (opFR K) #[mW u, mW w] (mW v)])
theorem twRun_2 : TwRun 2 := fun _ _ _ => by kernel_rfl
theorem twRun_3 : TwRun 3 := fun _ _ _ => by kernel_rfl
theorem twRun_4 : TwRun 4 := fun _ _ _ => by kernel_rfl
theorem twRun_5 : TwRun 5 := fun _ _ _ => by kernel_rfl

end Go.Proofs.Ytnbbmihlokajaaa

/-!  The document's Eval of Models: its contract. -/
namespace Go.Proofs.Ytnbbmihlokajaaa
open Go
set_option linter.unusedVariables false
set_option linter.unusedSimpArgs false
set_option maxRecDepth 100000

theorem two_rn {K : Int} (h2 : 2 ≤ K) (h5 : K ≤ 5) (u : Nat → P2) {w : Nat → P2} (hw : AllN w) : (qtO 73 #[.int .i64 K, mW u, mW w] (mW (opMd K u w))).ok Try.prog := by
  have fin : ∀ {K : Int}, TwRun K → (qtO (opFR K) #[mW u, mW w] (mW (opMd K u w))).ok Try.prog → (qtO 73 #[.int .i64 K, mW u, mW w] (mW (opMd K u w))).ok Try.prog := by
    intro K h ho
    obtain ⟨H', r⟩ := tells_of (h u w _) ⟨ho, trivial⟩
    exact r.quiet rfl rfl #[]
  have : K = 2 ∨ K = 3 ∨ K = 4 ∨ K = 5 := by omega
  rcases this with rfl | rfl | rfl | rfl
  · exact fin twRun_2 (addR_runs u w)
  · exact fin twRun_3 (subR_runs u w)
  · exact fin twRun_4 (mulR_runs u w)
  · exact fin twRun_5 (quoR_runs u (hw 0 (by decide)).1 (hw 0 (by decide)).2)
theorem ofR1_rn {l : List (Option ABlk)} {S C : Nat} (h : l[S]? = some (fB1 C)) : (rnO 26 #[.slice (some ⟨S, 0, none⟩) 1 1] l (mW (ofM [C])) []).ok Try.prog := by
  have hh : HandV (froze l.toArray) ([C].map fV) (.slice (some ⟨S, 0, none⟩) 1 1) := .inr ⟨S, _, by simp, rfl, fz_at h, rfl⟩
  obtain ⟨bs, hof⟩ := ofR_at [C] (show (1 : Nat) ≤ 9 by decide)
  have := read_v (ex := []) fV_cl (fun u h => by cases h) hof rfl (froze_all l.toArray) hh
  show Runs _ _ _ _ _ (_ ++ #[])
  rw [Array.append_empty]
  exact this
theorem rdRmB {K : Int} (h2 : 2 ≤ K) (h5 : K ≤ 5) : RdRmB K := by
  have : K = 2 ∨ K = 3 ∨ K = 4 ∨ K = 5 := by omega
  rcases this with rfl | rfl | rfl | rfl
  · exact rdRmB_2
  · exact rdRmB_3
  · exact rdRmB_4
  · exact rdRmB_5
section
variable {b0 b1 b2 : Option ABlk} {N : Nat} {ops : List OpD} {out : List Int} {xs : List (Nat → P2)}
theorem entRm (p0 : PlO b0) (p1 : PlO b1) (p2 : PlO b2) (N M : Nat) (k : Int) (l : List (Nat → P2)) :
    EntOK 3 KRm [0, 1, 2, 3, 4] (outRm b0 b1 b2 N M (.slice (some ⟨2, 0, none⟩) N N) k l) (tmA 81 (LRm (.slice (some ⟨2, 0, none⟩) N N) M k)) (HRm b0 b1 b2 N M l).toArray := by
  refine entOK (H2 := HRm b0 b1 b2 N M l) rfl rfl (by decide) ?_ ?_
  · exact .cons (.slice 2 2 0 none _ _ _ (show (2 : Nat) < 5 by decide) rfl) (.cons (.ptr 3 3 0 none (show (3 : Nat) < 5 by decide) rfl) (.cons (.slice 4 4 0 none _ _ _ (show (4 : Nat) < 5 by decide) rfl) (.cons (.clos rfl) .nil)))
  · exact relBs_pl p0 (relBs_pl p1 (relBs_pl p2 (tbE_rel (show (3 : Nat) ≤ 5 by decide) rfl rfl N M (relBs_own (mB_cl l) .nil))))
theorem reg_okR {A : Int} {k M : Nat} {F : Nat → Nat → P2} (h0 : 0 ≤ A) (h1 : A < k) (hk : k ≤ M) (N : Nat) (c : List (Option ABlk)) : okAll Try.prog (lgMr (HRm b0 b1 b2 N M (rL zM F M k) ++ c) (.slice (some ⟨4, 0, none⟩) M M) A ⟨4, A.toNat * 20, none⟩ (F A.toNat)) := by
  refine ⟨ixM h0 (by omega) rfl, rdM (B := ⟨((rL zM F M k).flatMap mC).toArray, 29, 20, true⟩) (l := rL zM F M k) (k := A.toNat) rfl rfl (rL_get zM F (by omega) (by omega)) rfl, trivial⟩
/-- What is written. -/
theorem wr_ok {k M : Nat} (hk : k < M) (hM : M < 1000000) {F : Nat → Nat → P2} {v : Nat → P2} (hv : F k = v) (b0 b1 b2 : Option ABlk) (N : Nat) (c : List (Option ABlk)) :
    okAll Try.prog (lgRw (HRm b0 b1 b2 N M (rL zM F M k) ++ c) (HRm b0 b1 b2 N M (rL zM F M (k + 1)) ++ c) M (k : Nat) ((k + 1 : Nat) : Int) ⟨4, k * 20, none⟩ v) := by
  refine ⟨ixM (by omega) (by omega) (by simp), ?_, addK k (by omega), trivial⟩
  obtain ⟨i, hi, hz⟩ := sizeB_ex sz_md
  subst hv
  refine (wr_at (f := mC) (n := 20) (fun _ => rfl) hi hz (H := (HRm b0 b1 b2 N M (rL zM F M k) ++ c).toArray) (b := 4) (k := k) (B := ⟨((rL zM F M k).flatMap mC).toArray, 29, 20, true⟩) (l := rL zM F M k) (a := F k) rfl rfl rfl rfl rfl (by rw [rL_len]; exact hk) rfl).trans ?_
  rw [rL_set zM F M k hk]
  congr 1
theorem EvM.roundR (h : EvM b0 b1 b2 N ops out xs) (p0 : PlO b0) (p1 : PlO b1) (p2 : PlO b2) (hr : ∀ k, AllN (regM ops xs k)) {k : Nat} {o : OpD} (ho : ops[k]? = some o) (hM : ops.length < 1000) :
    CodeB Try.prog 3 bodyRm (tmA 81 (LRm (.slice (some ⟨2, 0, none⟩) N N) ops.length (k : Nat))) (HRm b0 b1 b2 N ops.length (rL zM (regM ops xs) ops.length k)).toArray
      (.normal, tmA 81 (LRm (.slice (some ⟨2, 0, none⟩) N N) ops.length ((k + 1 : Nat) : Int)), (HRm b0 b1 b2 N ops.length (rL zM (regM ops xs) ops.length (k + 1))).toArray) := by
  have hk : k < ops.length := (List.getElem?_eq_some_iff.1 ho).1
  have hok := h.ok k o ho
  have hF : regM ops xs k = stepT (fun c => ofM [c]) opMd (fun i => xs.getD i zM) (regM ops xs) o := regT_at ho hok
  unfold stepT at hF
  have hd := h.head ho (H := HRm b0 b1 b2 N ops.length (rL zM (regM ops xs) ops.length k)) rfl
  have hw := fun c => wr_ok hk (by omega) (F := regM ops xs) rfl b0 b1 b2 N c
  rcases hok with c0 | ⟨c1, hA0, hA1⟩ | ⟨c2, c5, a0, a1, q0, q1⟩
  · rw [if_pos c0] at hF
    rw [c0] at hd
    have r := rdRmC b0 b1 b2 N ops.length (.slice (some ⟨2, 0, none⟩) N N) (k : Nat) ((k + 1 : Nat) : Int) (rL zM (regM ops xs) ops.length k) (rL zM (regM ops xs) ops.length (k + 1)) o.A o.B o.C ⟨0, k * 4, none⟩ ⟨4, k * 20, none⟩ (regM ops xs k)
    refine rndB_to r okRm (okApp' (okApp' hd ⟨?_, trivial⟩) (hw _)) (entRm p0 p1 p2 N ops.length _ _)
    rw [hF]
    exact ofR1_rn rfl
  · rw [if_neg (by omega), if_pos c1] at hF
    rw [c1] at hd
    have r := rdRmV b0 b1 b2 N ops.length (.slice (some ⟨2, 0, none⟩) N N) (k : Nat) ((k + 1 : Nat) : Int) (rL zM (regM ops xs) ops.length k) (rL zM (regM ops xs) ops.length (k + 1)) o.A o.B o.C ⟨0, k * 4, none⟩ ⟨2, o.A.toNat * 20, none⟩ ⟨4, k * 20, none⟩ (regM ops xs k)
    refine rndB_to r okRm (okApp' (okApp' hd ?_) (hw _)) (entRm p0 p1 p2 N ops.length _ _)
    rw [hF]
    exact h.var hA0 hA1 rfl
  · rw [if_neg (by omega), if_neg (by omega)] at hF
    have r := rdRmB c2 c5 b0 b1 b2 N ops.length (.slice (some ⟨2, 0, none⟩) N N) (k : Nat) ((k + 1 : Nat) : Int) (rL zM (regM ops xs) ops.length k) (rL zM (regM ops xs) ops.length (k + 1)) o.A o.B o.C ⟨0, k * 4, none⟩ ⟨4, o.A.toNat * 20, none⟩ ⟨4, o.B.toNat * 20, none⟩ ⟨4, k * 20, none⟩ (regM ops xs o.A.toNat) (regM ops xs o.B.toNat) (regM ops xs k)
    refine rndB_to r okRm (okApp' (okApp' (okApp' (okApp' hd (reg_okR a0 a1 (by omega) N [obE o.K o.A o.B o.C])) (reg_okR q0 q1 (by omega) N [obE o.K o.A o.B o.C])) ⟨?_, trivial⟩) (hw _)) (entRm p0 p1 p2 N ops.length _ _)
    rw [hF]
    exact two_rn c2 c5 _ (hr _)
theorem EvM.roundsR (h : EvM b0 b1 b2 N ops out xs) (p0 : PlO b0) (p1 : PlO b1) (p2 : PlO b2) (hr : ∀ k, AllN (regM ops xs k)) (hM : ops.length < 1000) : ∀ (d k : Nat), k + d = ops.length →
    RdsB Try.prog 3 bodyRm (tmA 81 (LRm (.slice (some ⟨2, 0, none⟩) N N) ops.length (k : Nat))) (HRm b0 b1 b2 N ops.length (rL zM (regM ops xs) ops.length k)).toArray
      (.exit 0, tmA 81 (LRm (.slice (some ⟨2, 0, none⟩) N N) ops.length (ops.length : Nat)), (HRm b0 b1 b2 N ops.length (rL zM (regM ops xs) ops.length ops.length)).toArray)
  | 0, k, hk => by
    have e : k = ops.length := by omega
    subst e
    exact .last (rndB_to (rdRmEnd b0 b1 b2 N ops.length (.slice (some ⟨2, 0, none⟩) N N) (ops.length : Nat) _) okRm ⟨cmp_ok (decide_eq_false (by omega)), trivial⟩ (entRm p0 p1 p2 N ops.length _ _)) (by simp)
  | d + 1, k, hk => by
    have hlt : k < ops.length := by omega
    exact .next (h.roundR p0 p1 p2 hr (List.getElem?_eq_getElem hlt) hM) (h.roundsR p0 p1 p2 hr hM d (k + 1) (by omega))
theorem EvM.outsR (h : EvM b0 b1 b2 N ops out xs) (M : Nat) (hM : M = ops.length) : okAll Try.prog (lgRo (HRm b0 b1 b2 N M (rL zM (regM ops xs) M M)) N M
    (fun i => out.getD i 0) (fun i => ⟨4, (out.getD i 0).toNat * 20, none⟩) (fun i => regM ops xs (out.getD i 0).toNat)) := by
  subst hM
  unfold lgRo
  refine okApp' (each_ok _ _ fun i hi => ?_) ⟨cmp_ok (decide_eq_false (by omega)), trivial⟩
  have hi' := List.mem_range.1 hi
  have hio : i < out.length := by rw [h.lo]; exact hi'
  have hg : out[i]? = some (out.getD i 0) := getD_at 0 hio
  obtain ⟨u0, u1⟩ := h.oo _ (List.mem_of_getElem? hg)
  obtain ⟨B, hB, hc⟩ := h.m1
  have hreg := reg_okR (b0 := b0) (b1 := b1) (b2 := b2) (A := out.getD i 0) (k := ops.length) (M := ops.length) (F := regM ops xs) u0 u1 (Nat.le_refl _) N (grM i fun i => regM ops xs (out.getD i 0).toNat)
  refine ⟨cmp_ok (decide_eq_true hi'), rdI (B := B) (l := out) (k := i) ?_ hc hg rfl, hreg.1, hreg.2.1, trivial⟩
  rw [hB]; rfl
theorem finRm (N : Nat) (h1 : 1 ≤ N) (h2 : N ≤ 3) : FinRm N := by
  have : N = 1 ∨ N = 2 ∨ N = 3 := by omega
  rcases this with rfl | rfl | rfl
  · exact finRm_1
  · exact finRm_2
  · exact finRm_3
theorem grM_last {N : Nat} (h1 : 1 ≤ N) (h2 : N ≤ 3) (f : Nat → Nat → P2) : (grM N f)[2 * N - 1]? = some (mB ((List.range N).map f)) := by
  have : N = 1 ∨ N = 2 ∨ N = 3 := by omega
  rcases this with rfl | rfl | rfl <;> rfl
end
theorem zr_md : zeroB Try.prog 29 20 = true := by kernel_rfl
theorem zc_md : zeroC Try.prog 29 = mC zM := by kernel_rfl
/-- A field and Models in a memory of their own: the document's Eval. -/
theorem EvM.evalR {c0 c1 c2 : ABlk} {N : Nat} {ops : List OpD} {out : List Int} {xs : List (Nat → P2)} (h : EvM (some c0) (some c1) (some c2) N ops out xs) (p0 : PlO (some c0)) (p1 : PlO (some c1)) (p2 : PlO (some c2)) (hr : ∀ k, AllN (regM ops xs k))
    (h0 : c0.own = false) (h1 : c1.own = false) (h2 : c2.own = false) (hM : ops.length < 1000) (hN : 1 ≤ N) (hN3 : N ≤ 3) :
    Runs Try.prog 47 #[tpV 0 1 N ops.length, .slice (some ⟨2, 0, none⟩) N N] #[some c0, some c1, some c2] (.slice (some ⟨3, 0, none⟩) N N) (#[some c0, some c1, some c2] ++ #[mB (evOut (regM ops xs) out)]) := by
  have rds := h.roundsR p0 p1 p2 hr hM ops.length 0 (by omega)
  have fin := finRm N hN hN3 (some c0) (some c1) (some c2) ops.length (.slice (some ⟨2, 0, none⟩) N N) (rL zM (regM ops xs) ops.length 0) (rL zM (regM ops xs) ops.length ops.length) (fun i => out.getD i 0) (fun i => ⟨4, (out.getD i 0).toNat * 20, none⟩) (fun i => regM ops xs (out.getD i 0).toNat)
  have mk : makeSliceV Try.prog [some c0, some c1, some c2, tbE N ops.length].toArray 62 (.int .i64 ops.length) (.int .i64 ops.length) = some (.slice (some ⟨4, 0, none⟩) ops.length ops.length, (HRm (some c0) (some c1) (some c2) N ops.length (rL zM (regM ops xs) ops.length 0)).toArray) := by
    refine (mk_sliceT ty_mds zr_md zc_md (M := ops.length) (by omega)).trans ?_
    rw [rL_zero]
    congr 1
  obtain ⟨H', hH, hrun⟩ := askTB_to (g := fun H => H) fin (okApp' ⟨mk, trivial⟩ (h.outsR ops.length rfl)) ⟨⟨_, _, entRm p0 p1 p2 N ops.length 0 _, rds.loop⟩, trivial⟩
  subst hH
  have hf3 : AllFrozen #[some c0, some c1, some c2] := by
    intro b B hB
    match b, hB with
    | 0, hB => simp at hB; subst hB; exact h0
    | 1, hB => simp at hB; subst hB; exact h1
    | 2, hB => simp at hB; subst hB; exact h2
    | n + 3, hB => simp at hB
  have e : (HRm (some c0) (some c1) (some c2) N ops.length (rL zM (regM ops xs) ops.length ops.length) ++ grM N fun i => regM ops xs (out.getD i 0).toNat).toArray = #[some c0, some c1, some c2] ++ ([tbE N ops.length, mB (rL zM (regM ops xs) ops.length ops.length)] ++ grM N fun i => regM ops xs (out.getD i 0).toNat).toArray := by
    apply Array.ext'
    simp [HRm]
  rw [e] at hrun
  have hk : ([tbE N ops.length, mB (rL zM (regM ops xs) ops.length ops.length)] ++ grM N fun i => regM ops xs (out.getD i 0).toNat).toArray[2 * N + 1]? = some (mB (evOut (regM ops xs) out)) := by
    rw [List.getElem?_toArray, List.getElem?_append_right (by simp; omega)]
    have := grM_last hN hN3 fun i => regM ops xs (out.getD i 0).toNat
    rw [evOut_get (regM ops xs) h.lo] at this
    show (grM N _)[2 * N + 1 - 2]? = _
    rw [show 2 * N + 1 - 2 = 2 * N - 1 by omega]
    exact this
  rw [show 4 + 2 * N = (#[some c0, some c1, some c2] : AHeap).size + (2 * N + 1) by simp; omega] at hrun
  exact Runs.keep1 (k := 2 * N + 1) hf3 hrun hk (mB_cl _)

end Go.Proofs.Ytnbbmihlokajaaa

/-!  The law ModelEvals: its runs, and what it asks for. -/
namespace Go.Proofs.Ytnbbmihlokajaaa
open Go
set_option linter.unusedVariables false
set_option linter.unusedSimpArgs false
set_option maxRecDepth 100000

noncomputable def askMv (g : FuncId) : Nat := if [15, 44, 16, 46, 47, 45].contains g then 1 else if g == 1000038 then 7 else 0
def rwM (N : Nat) (f : Nat → Nat → P2) : Ans := cAns (fun s => .slice (some ⟨s, 0, none⟩) N N) [mB ((List.range N).map f)]
def hpMv (b1 b2 b3 : Option ABlk) (N M : Nat) (co cu : Array Value) (f : Nat → Nat → P2) (i : Nat) : List (Option ABlk) := [b1, b2, b3, opB co, iB cu, tcB 3 N M] ++ grM i f
noncomputable def stMv (H : List (Option ABlk)) (N : Nat) (vb vc : Value) (rest : Int) (mi : Nat → Int) (f : Nat → Nat → P2) (i : Nat) : List Obl :=
  [cpO .lss (Int.ofNat i) (Int.ofNat N) true, cpO .eql (Int.ofNat (i % 2)) 1 (decide (i % 2 = 1)), arO .add rest (Int.ofNat i) (mi i), rnO 16 #[if i % 2 = 1 then vc else vb, .int .i64 (mi i)] H (mW (f i)) []]
def MvRun (N : Nat) : Prop := ∀ (b1 b2 b3 : Option ABlk) (n rest : Int) (dv : Bool) (M : Nat) (va vb vc : Value) (co cu : Array Value) (f g : Nat → Nat → P2) (mi : Nat → Int),
  (askN askMv cmK 12 13 #[.int .i64 n, va, .bool dv, vb, vc, .int .i64 rest] #[b1, b2, b3]
    ([yes true, tpA N M co cu] ++ (List.range N).flatMap (fun i => [yes true, yes (decide (i % 2 = 1)), isI (mi i), aM (mW (f i))]) ++ [yes false, rwM N g, rwM N g, yes true])).map (fun r => (r.1, r.2.2)) =
  some (.bool true, [qtO 15 #[] (.bool true), rnO 44 #[.int .i64 n, va, .bool dv] [b1, b2, b3] (tpV 3 4 N M) [opB co, iB cu]] ++
    (List.range N).flatMap (fun i => stMv (hpMv b1 b2 b3 N M co cu f i) N vb vc rest mi f i) ++
    [cpO .lss (Int.ofNat N) (Int.ofNat N) false,
      rnO 46 #[tpV 3 4 N M, slV (5 + 2 * N) N] (hpMv b1 b2 b3 N M co cu f N) (slV (6 + 2 * N) N) [mB ((List.range N).map g)],
      rnO 47 #[tpV 3 4 N M, slV (5 + 2 * N) N] (hpMv b1 b2 b3 N M co cu f N ++ [mB ((List.range N).map g)]) (slV (7 + 2 * N) N) [mB ((List.range N).map g)],
      rnO 45 #[slV (6 + 2 * N) N, slV (7 + 2 * N) N] (hpMv b1 b2 b3 N M co cu f N ++ [mB ((List.range N).map g), mB ((List.range N).map g)]) (.bool true) []])
theorem mvRun_1 : MvRun 1 := fun _ _ _ _ _ _ _ _ _ _ _ _ _ _ _ => by kernel_rfl
theorem mvRun_2 : MvRun 2 := fun _ _ _ _ _ _ _ _ _ _ _ _ _ _ _ => by kernel_rfl
theorem mvRun_3 : MvRun 3 := fun _ _ _ _ _ _ _ _ _ _ _ _ _ _ _ => by kernel_rfl
theorem mvRun (N : Nat) (h1 : 1 ≤ N) (h2 : N ≤ 3) : MvRun N := by
  have : N = 1 ∨ N = 2 ∨ N = 3 := by omega
  rcases this with rfl | rfl | rfl
  · exact mvRun_1
  · exact mvRun_2
  · exact mvRun_3

/-! the document's Rows of Models -/
noncomputable def askRm5 (g : FuncId) : Nat := if g == 25 then 1 else 0
def rowMb (N : Nat) (f : Nat → Nat → P2) : ABlk := ⟨((List.range N).flatMap fun i => mC (f i)).toArray, 29, 20, false⟩
def RowsRunM (N : Nat) : Prop := ∀ f g : Nat → Nat → P2, (askN askRm5 noC 12 45 #[.slice (some ⟨0, 0, none⟩) N N, .slice (some ⟨1, 0, none⟩) N N] #[some (rowMb N f), some (rowMb N g)] ((List.range N).map fun _ => yes true)).map (fun r => (r.1, r.2.2)) =
  some (.bool true, (List.range N).map fun i => .run 25 #[mW (f i), mW (g i)] #[] (.bool true) #[])
theorem rowsRunM_1 : RowsRunM 1 := fun _ _ => by kernel_rfl
theorem rowsRunM_2 : RowsRunM 2 := fun _ _ => by kernel_rfl
theorem rowsRunM_3 : RowsRunM 3 := fun _ _ => by kernel_rfl
theorem rowsRunM (N : Nat) (h1 : 1 ≤ N) (h2 : N ≤ 3) : RowsRunM N := by
  have : N = 1 ∨ N = 2 ∨ N = 3 := by omega
  rcases this with rfl | rfl | rfl
  · exact rowsRunM_1
  · exact rowsRunM_2
  · exact rowsRunM_3
section
variable {l : List (Option ABlk)}
theorem rowsM_rn {N a b : Nat} (h1 : 1 ≤ N) (h2 : N ≤ 3) {f g : Nat → Nat → P2} (hs : ∀ i, i < N → Runs Try.prog 25 #[mW (f i), mW (g i)] #[] (.bool true) #[]) {A B : ABlk}
    (ha : l[a]? = some (some A)) (ea : A.cells = (((List.range N).map f).flatMap mC).toArray) (hb : l[b]? = some (some B)) (eb : B.cells = (((List.range N).map g).flatMap mC).toArray) :
    (rnO 45 #[slV a N, slV b N] l (.bool true) []).ok Try.prog := by
  show Runs _ _ _ _ _ (_ ++ #[])
  rw [Array.append_empty]
  obtain ⟨H', r⟩ := tells_of (rowsRunM N h1 h2 f g) (map_ok _ _ fun i hi => hs i (List.mem_range.1 hi))
  have r2 : Runs Try.prog 45 #[.slice (some ⟨0, 0, none⟩) N N, .slice (some ⟨1, 0, none⟩) N N] #[some (rowMb N f), some (rowMb N g)] (.bool true) (#[some (rowMb N f), some (rowMb N g)] ++ #[]) := by
    rw [Array.append_empty]
    have e : (#[some (rowMb N f), some (rowMb N g)] : AHeap) = froze #[some (rowMb N f), some (rowMb N g)] := rfl
    rw [e] at r
    exact r.reads rfl
  refine r2.moveR (fun i => if i = 0 then a else b) rfl ?_ ?_ rfl ?_
  · intro i hi
    have : i = 0 ∨ i = 1 := by simp at hi; omega
    rcases this with rfl | rfl <;> exact ⟨_, rfl⟩
  · intro i C hC
    have : i = 0 ∨ i = 1 := by have := (Array.getElem?_eq_some_iff.1 hC).1; simp at this; omega
    rcases this with rfl | rfl <;> (injection hC with hC; injection hC with hC; subst hC)
    · exact ⟨rfl, plain_flat (fun _ => mC_cl _) _ _ _ _, _, fz_at ha, by rw [ea, List.flatMap_map]; rfl⟩
    · exact ⟨rfl, plain_flat (fun _ => mC_cl _) _ _ _ _, _, fz_at hb, by rw [eb, List.flatMap_map]; rfl⟩
  · intro i g1 g2
    have : i = 0 ∨ i = 1 := by simp at g1; omega
    rcases this with rfl | rfl
    · exact .inl (.slice 0 0 _ _ (by simp))
    · exact .inl (.slice 1 0 _ _ (by simp))
end

/-! what is evaluated -/
theorem pl_of {B : ABlk} (h : PlainB B) : PlO (some B) := by
  intro C hC
  injection hC with hC
  subst hC
  exact h
theorem opMd_n (K : Int) (c d : Nat → P2) : AllN (opMd K c d) := by
  unfold opMd
  split
  · exact addM_n _ _
  split
  · exact subM_n _ _
  split
  · exact mulM_n _ _
  · exact quoM_n _ _
theorem zM_n : AllN zM := fun k _ => nn_00
theorem getD_allM {α : Type} {Q : α → Prop} {d : α} (hd : Q d) {l : List α} (h : ∀ a ∈ l, Q a) (i : Nat) : Q (l.getD i d) := by
  rw [List.getD_eq_getElem?_getD]
  cases g : l[i]? with
  | none => exact hd
  | some a => exact h a (List.mem_of_getElem? g)
/-- All registers of a field that Make makes are numbers. -/
theorem mkM_n (n : Int) (zs : List Int) (dv : Bool) {xs : List (Nat → P2)} (hx : ∀ X ∈ xs, AllN X) (k : Nat) : AllN (regM (mkOps n zs dv) xs k) := by
  refine regT_all (Q := AllN) zM_n (fun i => getD_allM zM_n hx i) opMd_n ?_ k
  intro o ho h0
  obtain ⟨j, hj, e⟩ := List.getElem_of_mem ho
  obtain ⟨N, _, hd⟩ := mk_const n zs dv (by rw [List.getElem?_eq_getElem hj, e]) h0
  exact ofM_n fun x hx => by
    rw [List.mem_singleton] at hx; subst hx; exact hd.fi.nn
def evMd (n : Int) (zs : List Int) (dv : Bool) (xs : List (Nat → P2)) (i : Nat) : Nat → P2 := regM (mkOps n zs dv) xs (mkU n (mkM n zs) i).toNat
section
variable (n : Int) (zs : List Int) (dv : Bool) {H : AHeap} {bo bu bx : Nat} {B0 B1 B2 : ABlk}
theorem evalM_in {xs : List (Nat → P2)} (hr : ∀ k, AllN (regM (mkOps n zs dv) xs k)) (hx : xs.length = mkN n) (h0 : H[bo]? = some (some B0)) (e0 : B0.cells = (opsB (mkOps n zs dv) true).cells) (h1 : H[bu]? = some (some B1)) (e1 : B1.cells = (intB (mkOut n (mkM n zs)) true).cells) (h2 : H[bx]? = some (some B2)) (e2 : B2.cells = (xs.flatMap mC).toArray) :
    Runs Try.prog 46 #[tpV bo bu (mkN n) (mkM n zs), .slice (some ⟨bx, 0, none⟩) (mkN n) (mkN n)] H (.slice (some ⟨H.size, 0, none⟩) (mkN n) (mkN n)) (H ++ #[mB (evOut (regM (mkOps n zs dv) xs) (mkOut n (mkM n zs)))]) ∧
    Runs Try.prog 47 #[tpV bo bu (mkN n) (mkM n zs), .slice (some ⟨bx, 0, none⟩) (mkN n) (mkN n)] H (.slice (some ⟨H.size, 0, none⟩) (mkN n) (mkN n)) (H ++ #[mB (evOut (regM (mkOps n zs dv) xs) (mkOut n (mkM n zs)))]) := by
  obtain ⟨n1, n2⟩ := mkN_le n
  obtain ⟨m1, m2⟩ := mkM_le n zs
  have hG := mk_evG (f := mC) n zs dv hx 29 20
  have r1 := EvM.eval hG (pl_of (opsB_plain _ _)) (pl_of (intB_plain _ _)) (pl_of (plain_flat mC_cl _ _ _ _)) hr rfl rfl rfl (by rw [mkOps_len]; omega) (by rw [mkOps_len]; omega) n1 n2
  have r2 := EvM.evalR hG (pl_of (opsB_plain _ _)) (pl_of (intB_plain _ _)) (pl_of (plain_flat mC_cl _ _ _ _)) hr rfl rfl rfl (by rw [mkOps_len]; omega) n1 n2
  rw [mkOps_len] at r1 r2
  exact ⟨ev_move r1 rfl rfl rfl rfl (opsB_plain _ _) (intB_plain _ _) (plain_flat mC_cl _ _ _ _) (plain_flat mC_cl _ _ _ _) h0 e0 h1 e1 h2 e2, ev_move r2 rfl rfl rfl rfl (opsB_plain _ _) (intB_plain _ _) (plain_flat mC_cl _ _ _ _) (plain_flat mC_cl _ _ _ _) h0 e0 h1 e1 h2 e2⟩
end
section
variable {l : List (Option ABlk)}
theorem evM_rn (n : Int) (zs : List Int) (dv : Bool) {xs : List (Nat → P2)} (hr : ∀ X ∈ xs, AllN X) {N M bo bu bx s : Nat} (hN : mkN n = N) (hM : mkM n zs = M) (hx : xs.length = N) {B : ABlk}
    (h0 : l[bo]? = some (opB (opsB (mkOps n zs dv) true).cells)) (h1 : l[bu]? = some (iB (intB (mkOut n (mkM n zs)) true).cells)) (h2 : l[bx]? = some (some B)) (e2 : B.cells = (xs.flatMap mC).toArray) (hs : s = l.length) :
    (rnO 46 #[tpV bo bu N M, slV bx N] l (slV s N) [mB ((List.range N).map (evMd n zs dv xs))]).ok Try.prog ∧
    (rnO 47 #[tpV bo bu N M, slV bx N] l (slV s N) [mB ((List.range N).map (evMd n zs dv xs))]).ok Try.prog := by
  subst hN hM hs
  have := evalM_in n zs dv (H := froze l.toArray) (mkM_n n zs dv hr) hx (fz_at h0) rfl (fz_at h1) rfl (fz_at h2) e2
  rw [evOut_map, fz_size] at this
  exact this
theorem make5_rn {zs : List Int} {va : Value} (hh : Handed (froze l.toArray) zs va) (rest : Int) : (rnO 16 #[va, .int .i64 rest] l (mW (cOf2 zs rest)) []).ok Try.prog := by
  have h := make_handed (rest := rest) hh
  have h2 := Runs.drop (froze_all l.toArray) h rfl
  show Runs _ _ _ _ _ (_ ++ #[])
  rw [Array.append_empty]
  exact h2
end

end Go.Proofs.Ytnbbmihlokajaaa
