/- The law ModelAll: model and the document tell the same, operation by operation. -/
import Derived.Test.YtnbbmihlokajaaaModelDiv
import Derived.Test.YtnbbmihlokajaaaModelVal
import Derived.Test.YtnbbmihlokajaaaModelMake
namespace Go.Proofs.Ytnbbmihlokajaaa
open Go
set_option linter.unusedVariables false
set_option linter.unusedSimpArgs false
set_option maxRecDepth 100000

/-! the document's operations -/
theorem addR_runs (c d : Nat → P2) : Runs Try.prog 34 #[mW c, mW d] #[] (mW (addM c d)) #[] := quietB base1_ok (add_cR c d) trivial rfl rfl
theorem subR_runs (c d : Nat → P2) : Runs Try.prog 35 #[mW c, mW d] #[] (mW (subM c d)) #[] := quietB base1_ok (sub_cR c d) trivial rfl rfl
theorem mulR_runs (c d : Nat → P2) : Runs Try.prog 36 #[mW c, mW d] #[] (mW (mulM c d)) #[] := quietB base1_ok (mul_cR c d) trivial rfl rfl
theorem rangeR_runs (c : Nat → P2) : Runs Try.prog 40 #[mW c] #[] (vI (rangeM c)) #[] := quietB base1_ok (range_cR c) trivial rfl rfl
theorem div_cR (c d : Nat → P2) : (askB base1 askDv noC 12 38 #[mW c, mW d] #[] ([yes false, yes false] ++ dvS c d 9 ++ [isV' (vI (finP c d))])).map (fun r => (r.1, r.2.2)) =
    some (mW (divM c d), [zHoQ (d 0) false, zHoQ (rangeM d) false] ++ dvL 69 c d 9 ++ [dvQ 69 (rangeM (subM c (mulM d (qC c d)))) (rangeM d)]) := by kernel_rfl
theorem div_cR1 (c d : Nat → P2) : (askB base1 askDv noC 12 38 #[mW c, mW d] #[] [yes true]).map (fun r => (r.1, r.2.2)) = some (mW noneM, [zHoQ (d 0) true]) := by kernel_rfl
theorem div_cR2 (c d : Nat → P2) : (askB base1 askDv noC 12 38 #[mW c, mW d] #[] [yes false, yes true]).map (fun r => (r.1, r.2.2)) = some (mW noneM, [zHoQ (d 0) false, zHoQ (rangeM d) true]) := by kernel_rfl
theorem zHo_runs {X : P2} (h1 : NN X.1) (h2 : NN X.2) : Runs Try.prog 67 #[vI X] #[] (.bool (zIn X)) #[] := holds_at h1 h2 rfl
theorem dvLR_ok {c d : Nat → P2} (h1 : NN (d 0).1) (h2 : NN (d 0).2) : ∀ k, okAll Try.prog (dvL 69 c d k)
  | 0 => trivial
  | k + 1 => okAll_app (dvLR_ok h1 h2 k) ⟨(div_w _ h1 h2).2, trivial⟩
theorem quoR_runs (c : Nat → P2) {d : Nat → P2} (h1 : NN (d 0).1) (h2 : NN (d 0).2) : Runs Try.prog 38 #[mW c, mW d] #[] (mW (quoM c d)) #[] := by
  have r := rangeM_rt d
  have g1 := zHo_runs h1 h2
  have g2 := zHo_runs r.l r.h
  unfold quoM
  cases e1 : zIn (d 0) with
  | true =>
    rw [e1] at g1
    exact quietB base1_ok (div_cR1 c d) ⟨g1, trivial⟩ rfl rfl
  | false => cases e2 : zIn (rangeM d) with
    | true =>
      rw [e1] at g1; rw [e2] at g2
      exact quietB base1_ok (div_cR2 c d) ⟨g1, g2, trivial⟩ rfl rfl
    | false =>
      rw [e1] at g1; rw [e2] at g2
      refine quietB base1_ok (div_cR c d) ⟨g1, g2, okAll_app (dvLR_ok h1 h2 9) ⟨(div_w _ r.l r.h).2, trivial⟩⟩ rfl rfl

/-! the same is the same -/
theorem same2_at {X : P2} (h1 : NN X.1) (h2 : NN X.2) : Runs Try.prog 39 #[vI X, vI X] #[] (.bool true) #[] := by
  have e1 := (eql_ix h1 h1).trans (congrArg some (decide_eq_true rfl))
  have e2 := (eql_ix h2 h2).trans (congrArg some (decide_eq_true rfl))
  exact quiet_of' (ask := fun _ => 2) (askC := fltC) (s := [yes true, yes true]) (l := [cmpF .eql X.1 X.1 true, cmpF .eql X.2 X.2 true]) (by kernel_rfl) ⟨(fc _ rfl _ _).trans e1, (fc _ rfl _ _).trans e2, trivial⟩ rfl rfl
noncomputable def askSm (f : FuncId) : Nat := bif f == 39 then 1 else 0
noncomputable def s2Q (X : P2) : Obl := .run 39 #[vI X, vI X] #[] (.bool true) #[]
theorem same5_c (c : Nat → P2) : (askN askSm noC 12 25 #[mW c, mW c] #[] [yes true, yes true, yes true, yes true, yes true, yes true, yes true, yes true, yes true, yes true]).map (fun r => (r.1, r.2.2)) =
  some (.bool true, [s2Q (c 0), s2Q (c 1), s2Q (c 2), s2Q (c 3), s2Q (c 4), s2Q (c 5), s2Q (c 6), s2Q (c 7), s2Q (c 8), s2Q (c 9)]) := by kernel_rfl
def AllN (c : Nat → P2) : Prop := ∀ k, k ≤ 9 → NN (c k).1 ∧ NN (c k).2
theorem same5_runs {c : Nat → P2} (h : AllN c) : Runs Try.prog 25 #[mW c, mW c] #[] (.bool true) #[] := by
  have g := fun k (hk : k ≤ 9) => same2_at (h k hk).1 (h k hk).2
  exact quiet_of' (same5_c c) ⟨g 0 (by decide), g 1 (by decide), g 2 (by decide), g 3 (by decide), g 4 (by decide), g 5 (by decide), g 6 (by decide), g 7 (by decide), g 8 (by decide), g 9 (by decide), trivial⟩ rfl rfl
theorem Rt.nn {X : P2} (h : Rt X) : NN X.1 ∧ NN X.2 := ⟨h.l, h.h⟩
theorem nn_00 : NN ((0, 0) : P2).1 ∧ NN ((0, 0) : P2).2 := ⟨nn_zero.1, nn_zero.1⟩
theorem addM_n (c d : Nat → P2) : AllN (addM c d) := fun k _ => (addP_rt _ _).nn
theorem subM_n (c d : Nat → P2) : AllN (subM c d) := fun k _ => (subP_rt _ _).nn
theorem coefA_n (c d : Nat → P2) (k : Nat) : ∀ i, NN (coefA c d k i).1 ∧ NN (coefA c d k i).2
  | 0 => (mulP_rt _ _).nn
  | i + 1 => (addP_rt _ _).nn
theorem restM_n (c d : Nat → P2) : NN (restM c d).1 ∧ NN (restM c d).2 := by
  unfold restM
  exact (addP_rt _ _).nn
theorem mulM_n (c d : Nat → P2) : AllN (mulM c d) := fun k _ => by
  unfold mulM
  cases Nat.ble k 8 with
  | true => simp only [cond_true]; exact coefA_n c d k k
  | false => simp only [cond_false]; exact restM_n c d
theorem qL_n (c d : Nat → P2) : ∀ k, ∀ q ∈ qL c d k, NN q.1 ∧ NN q.2
  | 0, q, h => by cases h
  | k + 1, q, h => by
    rcases List.mem_cons.1 h with rfl | h
    · exact (divP_rt _ _).nn
    · exact qL_n c d k q h
theorem at0_n : ∀ (l : List P2) (n : Nat), (∀ q ∈ l, NN q.1 ∧ NN q.2) → NN (at0 l n).1 ∧ NN (at0 l n).2
  | [], _, _ => nn_00
  | q :: _, 0, h => h q (List.mem_cons_self ..)
  | _ :: l, n + 1, h => at0_n l n fun q hq => h q (List.mem_cons_of_mem _ hq)
theorem quoM_n (c d : Nat → P2) : AllN (quoM c d) := fun k _ => by
  unfold quoM
  cases (zIn (d 0) || zIn (rangeM d)) with
  | true =>
    simp only [cond_true]
    unfold noneM
    cases Nat.ble k 8 with
    | true => simp only [cond_true]; exact nn_00
    | false => simp only [cond_false]; exact rt_all.nn
  | false =>
    simp only [cond_false]
    unfold divM
    cases h : Nat.ble k 8 with
    | true =>
      simp only [cond_true]
      unfold qC
      rw [h]
      simp only [cond_true]
      exact at0_n _ _ (qL_n c d 9)
    | false => simp only [cond_false]; exact (divP_rt _ _).nn
theorem getF_n : ∀ (l : List Nat) (k : Nat), (∀ x ∈ l, NN x) → NN (getF l k)
  | [], _, _ => nn_zero.1
  | x :: _, 0, h => h x (List.mem_cons_self ..)
  | _ :: l, k + 1, h => getF_n l k fun x hx => h x (List.mem_cons_of_mem _ hx)
theorem ofM_n {l : List Nat} (h : ∀ x ∈ l, NN x) : AllN (ofM l) := fun k _ => by
  unfold ofM
  cases Nat.ble k 8 with
  | true => exact ⟨getF_n l k h, getF_n l k h⟩
  | false => exact nn_00

/-! the document's Of -/
theorem callD_ex {d : Nat} {f : FuncId} {args : Array Value} {H : AHeap} {v : Value} (h : (callD d f args H).map (fun r => (r.1, r.2.toList.take H.size)) = some (v, H.toList)) : ∃ bs, Runs Try.prog f args H v (H ++ bs) := by
  simp only [Option.map_eq_some_iff] at h
  obtain ⟨⟨v1, H1⟩, h1, h2⟩ := h
  simp only [Prod.mk.injEq] at h2
  obtain ⟨rfl, h3⟩ := h2
  refine ⟨(H1.toList.drop H.size).toArray, ?_⟩
  have e : H ++ (H1.toList.drop H.size).toArray = H1 := by
    apply Array.toList_inj.1
    rw [Array.toList_append]
    conv => lhs; lhs; rw [← h3]
    exact List.take_append_drop _ _
  rw [e]
  exact callD_runs h1
def OfEx (fs : List Nat) : Prop := ∃ bs, Runs Try.prog 26 #[argV (fs.map fV)] (heapV 24 (fs.map fV)) (mW (ofM fs)) (heapV 24 (fs.map fV) ++ bs)
theorem ofR_at : ∀ fs : List Nat, fs.length ≤ 9 → OfEx fs
  | [], _ => callD_ex (d := 12) (by kernel_rfl)
  | [x0], _ => callD_ex (d := 12) (by kernel_rfl)
  | [x0, x1], _ => callD_ex (d := 12) (by kernel_rfl)
  | [x0, x1, x2], _ => callD_ex (d := 12) (by kernel_rfl)
  | [x0, x1, x2, x3], _ => callD_ex (d := 12) (by kernel_rfl)
  | [x0, x1, x2, x3, x4], _ => callD_ex (d := 12) (by kernel_rfl)
  | [x0, x1, x2, x3, x4, x5], _ => callD_ex (d := 12) (by kernel_rfl)
  | [x0, x1, x2, x3, x4, x5, x6], _ => callD_ex (d := 12) (by kernel_rfl)
  | [x0, x1, x2, x3, x4, x5, x6, x7], _ => callD_ex (d := 12) (by kernel_rfl)
  | [x0, x1, x2, x3, x4, x5, x6, x7, x8], _ => callD_ex (d := 12) (by kernel_rfl)
  | x0 :: x1 :: x2 :: x3 :: x4 :: x5 :: x6 :: x7 :: x8 :: x9 :: tail, h => absurd h (by simp only [List.length_cons]; omega)
theorem ofR_2 {fs : List Nat} {H : AHeap} {va : Value} (hl : fs.length ≤ 9) (hh : HandV H (fs.map fV) va) : (mk2 H 26 #[va] (isV' (mW (ofM fs)))).ok Try.prog := by
  obtain ⟨bs, h⟩ := ofR_at fs hl
  exact mk2_v (read_v (ex := []) fV_cl (fun u h => by cases h) h rfl (froze_all H) hh.froze)

/-! the law's questions -/
def fBlk (l : List Nat) : Option ABlk := some ⟨(l.map fV).toArray, 24, 1, true⟩
noncomputable def askAl (f : FuncId) : Nat := if [15, 16, 17, 41, 31, 32, 27, 37, 18, 24,
  34, 35, 36, 38, 40, 26, 25, 39].contains f then 1 else 2
def rowS (A S M Q : Nat → P2) (X : P2) : List Ans := [isV' (mW A), isV' (mW A), yes true, isV' (mW S), isV' (mW S), yes true, isV' (mW M), isV' (mW M), yes true, isV' (mW Q), isV' (mW Q), yes true, isV' (vI X), isV' (vI X), yes true]
noncomputable def op5 (f g : FuncId) (p q r : Nat → P2) : List Obl := [.run f #[mW p, mW q] #[] (mW r) #[], .run g #[mW p, mW q] #[] (mW r) #[], .run 25 #[mW r, mW r] #[] (.bool true) #[]]
noncomputable def rowO (p q A S M Q : Nat → P2) (X : P2) : List Obl :=
  op5 31 34 p q A ++ (op5 32 35 p q S ++ (op5 27 36 p q M ++ (op5 37 38 p q Q ++
  [.run 18 #[mW p] #[] (vI X) #[], .run 40 #[mW p] #[] (vI X) #[], .run 39 #[vI X, vI X] #[] (.bool true) #[]])))
def celW (c : Nat → P2) : List Value := match mW c with
  | .agg a => a.toList
  | _ => []
def farM (d : Nat → P2) (t : Int) : Nat → P2 := fun k => match k with
  | 0 => (fop .add .f64 (d 0).1 (F t), fop .add .f64 (d 0).2 (F t))
  | k + 1 => d (k + 1)
def oneM : Nat → P2 := ofM [oneW]
noncomputable def allO (H : AHeap) (va vb : Value) (a b far t n : Int) (c d : Nat → P2) (r0 r1 r2 r3 : (Nat → P2) × (Nat → P2) × (Nat → P2) × (Nat → P2) × P2) (us : List Value) (Z : Nat → P2) : List Obl :=
  let e := farM d t
  let H1 := nx H (isV' (mW c))
  let H2 := nx H1 (isV' (mW d))
  let H3 := pushL H2 [blkW (mW c), blkW (mW e), fBlk [oneW]]
  let H4 := pushL (nx H3 (isV' (mW oneM))) [some ⟨(celW c ++ celW e ++ celW e ++ celW c ++ celW c ++ celW c ++ celW oneM ++ celW e).toArray, 51, 40, true⟩, blkW (mW c), blkW (mW e), blkW (mW e), blkW (mW c), blkW (mW c), blkW (mW c), blkW (mW oneM), blkW (mW e)]
  let H5 := nx H4 (slA 24 us)
  let H6 := nx H5 (isV' (mW Z))
  [kn5O, mk2 H 16 #[va, .int .i64 a] (isV' (mW c)), mk2 H1 16 #[vb, .int .i64 b] (isV' (mW d)), wi5O far 40 t, wi5O far 40 t, mk2 H3 24 #[.slice (some ⟨H2.size + 2, 0, none⟩) 1 1] (isV' (mW oneM))] ++
  (rowO c e r0.1 r0.2.1 r0.2.2.1 r0.2.2.2.1 r0.2.2.2.2 ++ (rowO e c r1.1 r1.2.1 r1.2.2.1 r1.2.2.2.1 r1.2.2.2.2 ++ (rowO c c r2.1 r2.2.1 r2.2.2.1 r2.2.2.2.1 r2.2.2.2.2 ++ (rowO oneM e r3.1 r3.2.1 r3.2.2.1 r3.2.2.2.1 r3.2.2.2.2 ++
  [wi5O far 10 n, mk2 H4 41 #[.int .i64 n, vb] (slA 24 us), mk2 H5 24 #[outV H4.size us] (isV' (mW Z)), mk2 H6 26 #[outV H4.size us] (isV' (mW Z)), .run 25 #[mW Z, mW Z] #[] (.bool true) #[]]))))
def allS (c d : Nat → P2) (t n : Int) (r0 r1 r2 r3 : (Nat → P2) × (Nat → P2) × (Nat → P2) × (Nat → P2) × P2) (us : List Value) (Z : Nat → P2) : List Ans :=
  [yes true, isV' (mW c), isV' (mW d), isI t, isI t, isV' (mW oneM)] ++ rowS r0.1 r0.2.1 r0.2.2.1 r0.2.2.2.1 r0.2.2.2.2 ++ rowS r1.1 r1.2.1 r1.2.2.1 r1.2.2.2.1 r1.2.2.2.2 ++ rowS r2.1 r2.2.1 r2.2.2.1 r2.2.2.2.1 r2.2.2.2.2 ++ rowS r3.1 r3.2.1 r3.2.2.1 r3.2.2.2.1 r3.2.2.2.2 ++
  [isI n, slA 24 us, isV' (mW Z), isV' (mW Z), yes true]
def AllRun (H : AHeap) (us : List Value) : Prop := ∀ (va vb : Value) (a b far t n : Int) (c d : Nat → P2) (r0 r1 r2 r3 : (Nat → P2) × (Nat → P2) × (Nat → P2) × (Nat → P2) × P2) (Z : Nat → P2),
  (askN askAl noC 12 9 #[va, vb, .int .i64 a, .int .i64 b, .int .i64 far] H (allS c d t n r0 r1 r2 r3 us Z)).map (fun r => (r.1, r.2.2)) = some (.bool true, allO H va vb a b far t n c d r0 r1 r2 r3 us Z)
structure AllRuns (H : AHeap) : Prop where
  a : ∀ (u : Value) (l : List Value), AllRun H (u :: l)
  b : AllRun H []
theorem al0_a : ∀ (u : Value) (l : List Value), AllRun #[] (u :: l) := fun u l va vb a b far t n c d r0 r1 r2 r3 Z => by kernel_rfl
theorem al0_b : AllRun #[] [] := fun va vb a b far t n c d r0 r1 r2 r3 Z => by kernel_rfl
theorem al0 : AllRuns #[] := ⟨al0_a , al0_b ⟩
theorem al1_a (o : Option ABlk) : ∀ (u : Value) (l : List Value), AllRun #[o] (u :: l) := fun u l va vb a b far t n c d r0 r1 r2 r3 Z => by kernel_rfl
theorem al1_b (o : Option ABlk) : AllRun #[o] [] := fun va vb a b far t n c d r0 r1 r2 r3 Z => by kernel_rfl
theorem al1 (o : Option ABlk) : AllRuns #[o] := ⟨al1_a o, al1_b o⟩
theorem al2_a (o1 o2 : Option ABlk) : ∀ (u : Value) (l : List Value), AllRun #[o1, o2] (u :: l) := fun u l va vb a b far t n c d r0 r1 r2 r3 Z => by kernel_rfl
theorem al2_b (o1 o2 : Option ABlk) : AllRun #[o1, o2] [] := fun va vb a b far t n c d r0 r1 r2 r3 Z => by kernel_rfl
theorem al2 (o1 o2 : Option ABlk) : AllRuns #[o1, o2] := ⟨al2_a o1 o2, al2_b o1 o2⟩

end Go.Proofs.Ytnbbmihlokajaaa
