/- The law ModelEvals: its runs, and what it asks for. -/
import Derived.Test.YtnbbmihlokajaaaMdS
import Derived.Test.YtnbbmihlokajaaaLawModelAll
namespace Go.Proofs.Ytnbbmihlokajaaa
open Go
set_option linter.unusedVariables false
set_option linter.unusedSimpArgs false
set_option maxRecDepth 100000

noncomputable def askMv (g : FuncId) : Nat := if [15, 44, 16, 46, 47, 45].contains g then 1 else if g == 1000038 then 7 else 0
def rwM (N : Nat) (f : Nat → Nat → P2) : Ans := cAns (fun s => .slice (some ⟨s, 0, none⟩) N N) [mB ((List.range N).map f)]
def hpMv (b1 b2 b3 : Option ABlk) (N M : Nat) (co cu : Array Value) (f : Nat → Nat → P2) (i : Nat) : List (Option ABlk) := [b1, b2, b3, opB co, iB cu, tcB 3 N M] ++ grM i f
noncomputable def stMv (H : List (Option ABlk)) (N : Nat) (vb vc : Value) (rest : Int) (mi : Nat → Int) (f : Nat → Nat → P2) (i : Nat) : List Obl :=
  [cpO .lss (Int.ofNat i) (Int.ofNat N) true, cpO .eql (Int.ofNat (i % 2)) 1 (decide (i % 2 = 1)), arO .add rest (Int.ofNat i) (mi i), rnO 16 #[if i % 2 = 1 then vc else vb, .int .i64 (mi i)] H (mW (f i)) []]
def MvRun (N : Nat) : Prop := ∀ (b1 b2 b3 : Option ABlk) (n rest : Int) (dv : Bool) (M : Nat) (va vb vc : Value) (co cu : Array Value) (f g : Nat → Nat → P2) (mi : Nat → Int),
  (askN askMv cmK 12 13 #[.int .i64 n, va, .bool dv, vb, vc, .int .i64 rest] #[b1, b2, b3]
    ([yes true, tpA N M co cu] ++ (List.range N).flatMap (fun i => [yes true, yes (decide (i % 2 = 1)), isI (mi i), aM (mW (f i))]) ++ [yes false, rwM N g, rwM N g, yes true])).map (fun r => (r.1, r.2.2)) =
  some (.bool true, [qtO 15 #[] (.bool true), rnO 44 #[.int .i64 n, va, .bool dv] [b1, b2, b3] (tpV 3 4 N M) [opB co, iB cu]] ++
    (List.range N).flatMap (fun i => stMv (hpMv b1 b2 b3 N M co cu f i) N vb vc rest mi f i) ++
    [cpO .lss (Int.ofNat N) (Int.ofNat N) false,
      rnO 46 #[tpV 3 4 N M, slV (5 + 2 * N) N] (hpMv b1 b2 b3 N M co cu f N) (slV (6 + 2 * N) N) [mB ((List.range N).map g)],
      rnO 47 #[tpV 3 4 N M, slV (5 + 2 * N) N] (hpMv b1 b2 b3 N M co cu f N ++ [mB ((List.range N).map g)]) (slV (7 + 2 * N) N) [mB ((List.range N).map g)],
      rnO 45 #[slV (6 + 2 * N) N, slV (7 + 2 * N) N] (hpMv b1 b2 b3 N M co cu f N ++ [mB ((List.range N).map g), mB ((List.range N).map g)]) (.bool true) []])
theorem mvRun_1 : MvRun 1 := fun _ _ _ _ _ _ _ _ _ _ _ _ _ _ _ => by kernel_rfl
theorem mvRun_2 : MvRun 2 := fun _ _ _ _ _ _ _ _ _ _ _ _ _ _ _ => by kernel_rfl
theorem mvRun_3 : MvRun 3 := fun _ _ _ _ _ _ _ _ _ _ _ _ _ _ _ => by kernel_rfl
theorem mvRun (N : Nat) (h1 : 1 ≤ N) (h2 : N ≤ 3) : MvRun N := by
  have : N = 1 ∨ N = 2 ∨ N = 3 := by omega
  rcases this with rfl | rfl | rfl
  · exact mvRun_1
  · exact mvRun_2
  · exact mvRun_3

/-! the document's Rows of Models -/
noncomputable def askRm5 (g : FuncId) : Nat := if g == 25 then 1 else 0
def rowMb (N : Nat) (f : Nat → Nat → P2) : ABlk := ⟨((List.range N).flatMap fun i => mC (f i)).toArray, 29, 20, false⟩
def RowsRunM (N : Nat) : Prop := ∀ f g : Nat → Nat → P2, (askN askRm5 noC 12 45 #[.slice (some ⟨0, 0, none⟩) N N, .slice (some ⟨1, 0, none⟩) N N] #[some (rowMb N f), some (rowMb N g)] ((List.range N).map fun _ => yes true)).map (fun r => (r.1, r.2.2)) =
  some (.bool true, (List.range N).map fun i => .run 25 #[mW (f i), mW (g i)] #[] (.bool true) #[])
theorem rowsRunM_1 : RowsRunM 1 := fun _ _ => by kernel_rfl
theorem rowsRunM_2 : RowsRunM 2 := fun _ _ => by kernel_rfl
theorem rowsRunM_3 : RowsRunM 3 := fun _ _ => by kernel_rfl
theorem rowsRunM (N : Nat) (h1 : 1 ≤ N) (h2 : N ≤ 3) : RowsRunM N := by
  have : N = 1 ∨ N = 2 ∨ N = 3 := by omega
  rcases this with rfl | rfl | rfl
  · exact rowsRunM_1
  · exact rowsRunM_2
  · exact rowsRunM_3
section
variable {l : List (Option ABlk)}
theorem rowsM_rn {N a b : Nat} (h1 : 1 ≤ N) (h2 : N ≤ 3) {f g : Nat → Nat → P2} (hs : ∀ i, i < N → Runs Try.prog 25 #[mW (f i), mW (g i)] #[] (.bool true) #[]) {A B : ABlk}
    (ha : l[a]? = some (some A)) (ea : A.cells = (((List.range N).map f).flatMap mC).toArray) (hb : l[b]? = some (some B)) (eb : B.cells = (((List.range N).map g).flatMap mC).toArray) :
    (rnO 45 #[slV a N, slV b N] l (.bool true) []).ok Try.prog := by
  show Runs _ _ _ _ _ (_ ++ #[])
  rw [Array.append_empty]
  obtain ⟨H', r⟩ := tells_of (rowsRunM N h1 h2 f g) (map_ok _ _ fun i hi => hs i (List.mem_range.1 hi))
  have r2 : Runs Try.prog 45 #[.slice (some ⟨0, 0, none⟩) N N, .slice (some ⟨1, 0, none⟩) N N] #[some (rowMb N f), some (rowMb N g)] (.bool true) (#[some (rowMb N f), some (rowMb N g)] ++ #[]) := by
    rw [Array.append_empty]
    have e : (#[some (rowMb N f), some (rowMb N g)] : AHeap) = froze #[some (rowMb N f), some (rowMb N g)] := rfl
    rw [e] at r
    exact r.reads rfl
  refine r2.moveR (fun i => if i = 0 then a else b) rfl ?_ ?_ rfl ?_
  · intro i hi
    have : i = 0 ∨ i = 1 := by simp at hi; omega
    rcases this with rfl | rfl <;> exact ⟨_, rfl⟩
  · intro i C hC
    have : i = 0 ∨ i = 1 := by have := (Array.getElem?_eq_some_iff.1 hC).1; simp at this; omega
    rcases this with rfl | rfl <;> (injection hC with hC; injection hC with hC; subst hC)
    · exact ⟨rfl, plain_flat (fun _ => mC_cl _) _ _ _ _, _, fz_at ha, by rw [ea, List.flatMap_map]; rfl⟩
    · exact ⟨rfl, plain_flat (fun _ => mC_cl _) _ _ _ _, _, fz_at hb, by rw [eb, List.flatMap_map]; rfl⟩
  · intro i g1 g2
    have : i = 0 ∨ i = 1 := by simp at g1; omega
    rcases this with rfl | rfl
    · exact .inl (.slice 0 0 _ _ (by simp))
    · exact .inl (.slice 1 0 _ _ (by simp))
end

/-! what is evaluated -/
theorem pl_of {B : ABlk} (h : PlainB B) : PlO (some B) := by
  intro C hC
  injection hC with hC
  subst hC
  exact h
theorem opMd_n (K : Int) (c d : Nat → P2) : AllN (opMd K c d) := by
  unfold opMd
  split
  · exact addM_n _ _
  split
  · exact subM_n _ _
  split
  · exact mulM_n _ _
  · exact quoM_n _ _
theorem zM_n : AllN zM := fun k _ => nn_00
theorem getD_all {α : Type} {Q : α → Prop} {d : α} (hd : Q d) {l : List α} (h : ∀ a ∈ l, Q a) (i : Nat) : Q (l.getD i d) := by
  rw [List.getD_eq_getElem?_getD]
  cases g : l[i]? with
  | none => exact hd
  | some a => exact h a (List.mem_of_getElem? g)
/-- All registers of a field that Make makes are numbers. -/
theorem mkM_n (n : Int) (zs : List Int) (dv : Bool) {xs : List (Nat → P2)} (hx : ∀ X ∈ xs, AllN X) (k : Nat) : AllN (regM (mkOps n zs dv) xs k) := by
  refine regT_all (Q := AllN) zM_n (fun i => getD_all zM_n hx i) opMd_n ?_ k
  intro o ho h0
  obtain ⟨j, hj, e⟩ := List.getElem_of_mem ho
  obtain ⟨N, _, hd⟩ := mk_const n zs dv (by rw [List.getElem?_eq_getElem hj, e]) h0
  exact ofM_n fun x hx => by
    rw [List.mem_singleton] at hx; subst hx; exact hd.fi.nn
def evMd (n : Int) (zs : List Int) (dv : Bool) (xs : List (Nat → P2)) (i : Nat) : Nat → P2 := regM (mkOps n zs dv) xs (mkU n (mkM n zs) i).toNat
section
variable (n : Int) (zs : List Int) (dv : Bool) {H : AHeap} {bo bu bx : Nat} {B0 B1 B2 : ABlk}
theorem evalM_in {xs : List (Nat → P2)} (hr : ∀ k, AllN (regM (mkOps n zs dv) xs k)) (hx : xs.length = mkN n) (h0 : H[bo]? = some (some B0)) (e0 : B0.cells = (opsB (mkOps n zs dv) true).cells) (h1 : H[bu]? = some (some B1)) (e1 : B1.cells = (intB (mkOut n (mkM n zs)) true).cells) (h2 : H[bx]? = some (some B2)) (e2 : B2.cells = (xs.flatMap mC).toArray) :
    Runs Try.prog 46 #[tpV bo bu (mkN n) (mkM n zs), .slice (some ⟨bx, 0, none⟩) (mkN n) (mkN n)] H (.slice (some ⟨H.size, 0, none⟩) (mkN n) (mkN n)) (H ++ #[mB (evOut (regM (mkOps n zs dv) xs) (mkOut n (mkM n zs)))]) ∧
    Runs Try.prog 47 #[tpV bo bu (mkN n) (mkM n zs), .slice (some ⟨bx, 0, none⟩) (mkN n) (mkN n)] H (.slice (some ⟨H.size, 0, none⟩) (mkN n) (mkN n)) (H ++ #[mB (evOut (regM (mkOps n zs dv) xs) (mkOut n (mkM n zs)))]) := by
  obtain ⟨n1, n2⟩ := mkN_le n
  obtain ⟨m1, m2⟩ := mkM_le n zs
  have hG := mk_evG (f := mC) n zs dv hx 29 20
  have r1 := EvM.eval hG (pl_of (opsB_plain _ _)) (pl_of (intB_plain _ _)) (pl_of (plain_flat mC_cl _ _ _ _)) hr rfl rfl rfl (by rw [mkOps_len]; omega) (by rw [mkOps_len]; omega) n1 n2
  have r2 := EvM.evalR hG (pl_of (opsB_plain _ _)) (pl_of (intB_plain _ _)) (pl_of (plain_flat mC_cl _ _ _ _)) hr rfl rfl rfl (by rw [mkOps_len]; omega) n1 n2
  rw [mkOps_len] at r1 r2
  exact ⟨ev_move r1 rfl rfl rfl rfl (opsB_plain _ _) (intB_plain _ _) (plain_flat mC_cl _ _ _ _) (plain_flat mC_cl _ _ _ _) h0 e0 h1 e1 h2 e2, ev_move r2 rfl rfl rfl rfl (opsB_plain _ _) (intB_plain _ _) (plain_flat mC_cl _ _ _ _) (plain_flat mC_cl _ _ _ _) h0 e0 h1 e1 h2 e2⟩
end
section
variable {l : List (Option ABlk)}
theorem evM_rn (n : Int) (zs : List Int) (dv : Bool) {xs : List (Nat → P2)} (hr : ∀ X ∈ xs, AllN X) {N M bo bu bx s : Nat} (hN : mkN n = N) (hM : mkM n zs = M) (hx : xs.length = N) {B : ABlk}
    (h0 : l[bo]? = some (opB (opsB (mkOps n zs dv) true).cells)) (h1 : l[bu]? = some (iB (intB (mkOut n (mkM n zs)) true).cells)) (h2 : l[bx]? = some (some B)) (e2 : B.cells = (xs.flatMap mC).toArray) (hs : s = l.length) :
    (rnO 46 #[tpV bo bu N M, slV bx N] l (slV s N) [mB ((List.range N).map (evMd n zs dv xs))]).ok Try.prog ∧
    (rnO 47 #[tpV bo bu N M, slV bx N] l (slV s N) [mB ((List.range N).map (evMd n zs dv xs))]).ok Try.prog := by
  subst hN hM hs
  have := evalM_in n zs dv (H := froze l.toArray) (mkM_n n zs dv hr) hx (fz_at h0) rfl (fz_at h1) rfl (fz_at h2) e2
  rw [evOut_map, fz_size] at this
  exact this
theorem make5_rn {zs : List Int} {va : Value} (hh : Handed (froze l.toArray) zs va) (rest : Int) : (rnO 16 #[va, .int .i64 rest] l (mW (cOf2 zs rest)) []).ok Try.prog := by
  have h := make_handed (rest := rest) hh
  have h2 := Runs.drop (froze_all l.toArray) h rfl
  show Runs _ _ _ _ _ (_ ++ #[])
  rw [Array.append_empty]
  exact h2
end

end Go.Proofs.Ytnbbmihlokajaaa
