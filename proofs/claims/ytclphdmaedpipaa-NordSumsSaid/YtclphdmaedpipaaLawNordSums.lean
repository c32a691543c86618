/- The law NordSums returns true, whatever the numbers. -/
import Derived.Test.YtclphdmaedpipaaNordScaleQ
import Derived.Test.YtclphdmaedpipaaNordSums
import Derived.Test.YtclphdmaedpipaaNordMakeQ1
import Derived.Test.YtclphdmaedpipaaNordSm1
import Derived.Test.YtclphdmaedpipaaNordMakeQ2
import Derived.Test.YtclphdmaedpipaaNordSm2
import Derived.Test.YtclphdmaedpipaaNordMakeQ3
import Derived.Test.YtclphdmaedpipaaNordSm3
import Derived.Test.YtclphdmaedpipaaNordMakeQ4
import Derived.Test.YtclphdmaedpipaaNordSm4
import Derived.Test.YtclphdmaedpipaaNordMakeQ5
import Derived.Test.YtclphdmaedpipaaNordSm5
namespace Go.Proofs.Ytclphdmaedpipaa
open Go
set_option linter.unusedVariables false
set_option linter.unusedSimpArgs false
set_option maxRecDepth 100000

theorem cvI_ok (c : Int) : (cvI c (FloatKind.f64.nearest c)).ok Try.prog := by
  show convV Try.prog 3 28 (.int .i64 c) = some (.float .f64 (FloatKind.f64.nearest c))
  kernel_rfl
theorem suI_ok (w : Int) : (suI w (IntKind.i64.wrap (w - 4))).ok Try.prog := by
  show pureV Try.prog (binOp .sub 3 (.int .i64 w) (.int .i64 4)) = some (.int .i64 (IntKind.i64.wrap (w - 4)))
  kernel_rfl
theorem handGG {H : AHeap} {zs : List Int} {v : Value} (h : Handed H zs v) (L : List (Option ABlk)) : Handed (froze (G H L)) zs v := by
  rcases h with h | ⟨b, B, h1, h2, h3, h4⟩
  · exact .inl h
  · refine .inr ⟨b, { B with own := false }, h1, h2, ?_, h4⟩
    have hb := (Array.getElem?_eq_some_iff.1 h3).1
    have h3' : H.toList[b]? = some (some B) := by rw [Array.getElem?_toList]; exact h3
    unfold froze G
    rw [List.getElem?_toArray, List.getElem?_map, List.toList_toArray, List.getElem?_append_left (by rw [Array.length_toList]; exact hb), h3']
    rfl
theorem okFlat {P : Program} : ∀ (l : List Nat) (f : Nat → List Obl), (∀ i ∈ l, okAll P (f i)) → okAll P (l.flatMap f)
  | [], _, _ => trivial
  | a :: l, f, h => by
    rw [List.flatMap_cons]
    exact okAll_append (h a (List.mem_cons_self ..)) (okFlat l f fun i hi => h i (List.mem_cons_of_mem _ hi))
theorem inL_at {P : List (Option ABlk)} {q k b e o r : Nat} {X : Nat → Nat → Nat} (he : e = b + P.length) (ho : o = r + (q + 1)) (hr : r = P.length) : InL (P ++ rowsX q k e X) b o r q k X := by
  subst he ho hr
  have h := inL_rows q k (b + P.length) X
  refine ⟨fun j hj => ?_, ?_⟩
  · rw [List.getElem?_append_right (by omega), Nat.add_sub_cancel_left]
    have := h.row j hj
    rw [Nat.zero_add] at this
    exact this
  · rw [List.getElem?_append_right (by omega), Nat.add_sub_cancel_left]
    exact h.out
theorem inH_of {H : AHeap} {L : List (Option ABlk)} {q k e r : Nat} {X : Nat → Nat → Nat} (h : InL L H.size (r + (q + 1)) r q k X) (he : e = H.size + r) : InH (froze (G H L)) e q k X := by
  subst he
  refine ⟨fun j hj => ?_, ?_⟩
  · obtain ⟨B', h1, h2⟩ := fg_get (H := H) (h.row j hj)
    exact ⟨B', by rw [Nat.add_assoc]; exact h1, h2⟩
  · obtain ⟨B', h1, h2⟩ := fg_get (H := H) h.out
    exact ⟨B', by rw [Nat.add_assoc]; exact h1, h2⟩
theorem prP_of {H : AHeap} {L : List (Option ABlk)} {q k e r p : Nat} {X : Nat → Nat → Nat} (hP : PredAt q k) (h : InL L H.size (r + (q + 1)) r q k X) (he : e = H.size + r) (hp : p = H.size + L.length) : (prP H L q k e p (predW q X)).ok Try.prog := by
  have := pred_in hP (inH_of h he)
  rw [fg_size, ← hp] at this
  exact this
theorem atP_of {H : AHeap} {L : List (Option ABlk)} {q k e r p : Nat} {X : Nat → Nat → Nat} {t : Nat} (hA : AtAt q k) (h : InL L H.size (r + (q + 1)) r q k X) (he : e = H.size + r) (hp : p = H.size + L.length) : (atP H L q k e p (fun i => atL t (colX q X i)) t).ok Try.prog := by
  have := at_in hA (inH_of h he) (t := t)
  rw [fg_size, ← hp] at this
  exact this
theorem addF_map (f g : Nat → Nat) : ∀ l : List Nat, addF (l.map f) (l.map g) = l.map fun j => fop .add .f64 (f j) (g j)
  | [] => rfl
  | a :: l => by
    rw [List.map_cons, List.map_cons, List.map_cons, ← addF_map f g l]
    rfl
theorem colX_xT (q k : Nat) (ra : List Int) (i : Nat) : colX q (xT q k fun i => ra.getD i 0) i = colF q k ra i := by
  unfold colX colF
  refine List.map_congr_left fun j hj => ?_
  have := List.mem_range.1 hj
  unfold xT
  rw [if_pos (by omega)]
theorem pB_len (q k e : Nat) (P : Nat → Nat → Nat) : (pB q k e P).length = q + 2 := by simp [pB]
theorem sm_at {q k : Nat} (hq : q ≤ 5) (hk : 0 < k) (hK : Kept q k) (hZ : ZRows q k) (hP : PredAt q k) (hA : AtAt q k) {zs ms : List Int} (hm : MakeOK q k zs) (hm2 : MakeOK q k ms) {o o2 : Option ABlk} {va vb : Value} (hv : Handed #[o, o2] zs va) (hu : Handed #[o, o2] ms vb) (hr : SmRun q k)
    (order n s : Int) (ho : order % Int.ofNat (4 + 1) = Int.ofNat (q - 1)) (hn : n % Int.ofNat (2 + 1) = Int.ofNat (k - 1)) :
    Tells 4 #[.int .i64 order, .int .i64 n, va, vb, .int .i64 s] #[o, o2] (.bool true) := by
  obtain ⟨ra, la, ba, runA⟩ := make_keptA hk hK hm n hn
  obtain ⟨rb, lb, bb, runB⟩ := make_keptA hk hK hm2 n hn
  have hza : ∀ e, zBs2 e q k ra = rowsX q k e (xT q k fun i => ra.getD i 0) := fun e => by
    have := hZ e (fun i => ra.getD i 0)
    rw [tab_eq la] at this
    exact this
  have hzb : ∀ e, zBs2 e q k rb = rowsX q k e (xT q k fun i => rb.getD i 0) := fun e => by
    have := hZ e (fun i => rb.getD i 0)
    rw [tab_eq lb] at this
    exact this
  have cX := colX_xT q k ra
  have cY := colX_xT q k rb
  generalize hX : (xT q k fun i => ra.getD i 0) = X at hza cX
  generalize hY : (xT q k fun i => rb.getD i 0) = Y at hzb cY
  have cC : ∀ i, colX q (addX X Y) i = colC q k ra rb i := fun i => by
    unfold colC
    rw [← cX, ← cY]
    exact (addF_map (fun j => X j i) (fun j => Y j i) (List.range (q + 1))).symm
  have h1 := Int.emod_nonneg s (b := 9) (by decide)
  have h2 := Int.emod_lt_of_pos s (b := 9) (by decide)
  have h := hr o o2 order n s va vb X Y X (predW q X) (predW q Y) (predW q (addX X Y)) (fun i => atL (pX s) (colX q X i)) (fun i => atL (pX s) (colX q Y i)) (fun i => atL (pX s) (colX q (addX X Y) i)) (s % 9) (IntKind.i64.wrap (s % 9 - 4)) (pX s)
  have ho5 := within8 order 4 (by decide)
  rw [ho] at ho5
  have sz : (#[o, o2] : AHeap).size = 2 := rfl
  have m1 : (mkO q k 2 n va #[o, o2] X).ok Try.prog := by
    have := runA (froze #[o, o2]) va (froze_all _) hv.froze
    rw [froze_size, hza] at this
    exact this
  have m2 : (mkO q k (2 + (q + 2)) n vb (G #[o, o2] (rowsX q k 2 X)) Y).ok Try.prog := by
    have := runB (froze (G #[o, o2] (rowsX q k 2 X))) vb (froze_all _) (handGG hu _)
    rw [fg_size, rowsX_len, hzb, sz] at this
    exact this
  have m3 : (mkO q k (2 + 2 * (q + 2)) n va (G #[o, o2] (rowsX q k 2 X ++ rowsX q k (2 + (q + 2)) Y)) X).ok Try.prog := by
    have := runA (froze (G #[o, o2] (rowsX q k 2 X ++ rowsX q k (2 + (q + 2)) Y))) va (froze_all _) (handGG hv _)
    rw [fg_size, List.length_append, rowsX_len, rowsX_len, hza, sz, show 2 + (q + 2 + (q + 2)) = 2 + 2 * (q + 2) by omega] at this
    exact this
  have iX : InL (rowsX q k 2 X ++ rowsX q k (2 + (q + 2)) Y ++ rowsX q k (2 + 2 * (q + 2)) (addX X Y)) 2 (0 + (q + 1)) 0 q k X := by
    have := ((inL_rows q k 2 X).app (R := rowsX q k (2 + (q + 2)) Y)).app (R := rowsX q k (2 + 2 * (q + 2)) (addX X Y))
    rw [Nat.zero_add]
    exact this
  have iY : InL (rowsX q k 2 X ++ rowsX q k (2 + (q + 2)) Y ++ rowsX q k (2 + 2 * (q + 2)) (addX X Y)) 2 (q + 2 + (q + 1)) (q + 2) q k Y :=
    (inL_at (by rw [rowsX_len]) rfl (by rw [rowsX_len])).app
  have iC : InL (rowsX q k 2 X ++ rowsX q k (2 + (q + 2)) Y ++ rowsX q k (2 + 2 * (q + 2)) (addX X Y)) 2 (2 * (q + 2) + (q + 1)) (2 * (q + 2)) q k (addX X Y) :=
    inL_at (by rw [List.length_append, rowsX_len, rowsX_len]; omega) rfl (by rw [List.length_append, rowsX_len, rowsX_len]; omega)
  have aB_len : ∀ A : Nat → Nat, (aB k A).length = 1 := fun _ => rfl
  refine tells_of h (okAll_append ⟨nord_known, ho5, m1, m2, m3,
    prP_of hP iX rfl (by rw [sz]; simp only [List.length_append, rowsX_len]; omega), prP_of hP iY.app rfl (by rw [sz]; simp only [List.length_append, rowsX_len, pB_len]; omega), prP_of hP iC.app.app rfl (by rw [sz]; simp only [List.length_append, rowsX_len, pB_len]; omega),
    within8 s 8 (by decide), suI_ok _, cvI_ok _,
    atP_of hA iX.app.app.app rfl (by rw [sz]; simp only [List.length_append, rowsX_len, pB_len]; omega), atP_of hA iY.app.app.app.app rfl (by rw [sz]; simp only [List.length_append, rowsX_len, pB_len, aB_len]; omega), atP_of hA iC.app.app.app.app.app rfl (by rw [sz]; simp only [List.length_append, rowsX_len, pB_len, aB_len]; omega), trivial⟩ ?_)
  refine okFlat _ _ fun j hj => okFlat _ _ fun i hi => ?_
  have hj' := List.mem_range.1 hj
  have g := sumObls_ok (k := k) hq ba bb (pX_isZ s) (by omega) [(j, i)] (fun p hp => by rw [List.mem_singleton] at hp; subst hp; show j ≤ q; omega)
  show okAll Try.prog [cObl ((predL q (colX q (addX X Y) i)).getD j 0) (fop .add .f64 ((predL q (colX q X i)).getD j 0) ((predL q (colX q Y i)).getD j 0)), cObl (atL (pX s) (colX q (addX X Y) i)) (fop .add .f64 (atL (pX s) (colX q X i)) (atL (pX s) (colX q Y i)))]
  rw [cX, cY, cC]
  exact g
theorem nordSums_pad {o o2 : Option ABlk} {va vb : Value} {zs ms : List Int} (ha : Handed #[o, o2] zs va) (hb : Handed #[o, o2] ms vb) (order n s : Int) : Tells 4 #[.int .i64 order, .int .i64 n, va, vb, .int .i64 s] #[o, o2] (.bool true) := by
  have h1 := Int.emod_nonneg order (b := 5) (by decide)
  have h2 := Int.emod_lt_of_pos order (b := 5) (by decide)
  have h3 := Int.emod_nonneg n (b := 3) (by decide)
  have h4 := Int.emod_lt_of_pos n (b := 3) (by decide)
  have e5 : Int.ofNat (4 + 1) = 5 := rfl
  have e3 : Int.ofNat (2 + 1) = 3 := rfl
  have ho : order % Int.ofNat (4 + 1) = Int.ofNat (1 - 1) ∨ order % Int.ofNat (4 + 1) = Int.ofNat (2 - 1) ∨ order % Int.ofNat (4 + 1) = Int.ofNat (3 - 1) ∨ order % Int.ofNat (4 + 1) = Int.ofNat (4 - 1) ∨ order % Int.ofNat (4 + 1) = Int.ofNat (5 - 1) := by
    rw [e5]; simp; omega
  have hn : n % Int.ofNat (2 + 1) = Int.ofNat (1 - 1) ∨ n % Int.ofNat (2 + 1) = Int.ofNat (2 - 1) ∨ n % Int.ofNat (2 + 1) = Int.ofNat (3 - 1) := by
    rw [e3]; simp; omega
  rcases ho with ho | ho | ho | ho | ho <;> rcases hn with hn | hn | hn
  · exact sm_at (q := 1) (k := 1) (by decide) (by decide) kept_1_1 zrows_1_1 pred_1_1 att_1_1 (make_1_1 zs) (make_1_1 ms) ha hb smN_1_1 order n s ho hn
  · exact sm_at (q := 1) (k := 2) (by decide) (by decide) kept_1_2 zrows_1_2 pred_1_2 att_1_2 (make_1_2 zs) (make_1_2 ms) ha hb smN_1_2 order n s ho hn
  · exact sm_at (q := 1) (k := 3) (by decide) (by decide) kept_1_3 zrows_1_3 pred_1_3 att_1_3 (make_1_3 zs) (make_1_3 ms) ha hb smN_1_3 order n s ho hn
  · exact sm_at (q := 2) (k := 1) (by decide) (by decide) kept_2_1 zrows_2_1 pred_2_1 att_2_1 (make_2_1 zs) (make_2_1 ms) ha hb smN_2_1 order n s ho hn
  · exact sm_at (q := 2) (k := 2) (by decide) (by decide) kept_2_2 zrows_2_2 pred_2_2 att_2_2 (make_2_2 zs) (make_2_2 ms) ha hb smN_2_2 order n s ho hn
  · exact sm_at (q := 2) (k := 3) (by decide) (by decide) kept_2_3 zrows_2_3 pred_2_3 att_2_3 (make_2_3 zs) (make_2_3 ms) ha hb smN_2_3 order n s ho hn
  · exact sm_at (q := 3) (k := 1) (by decide) (by decide) kept_3_1 zrows_3_1 pred_3_1 att_3_1 (make_3_1 zs) (make_3_1 ms) ha hb smN_3_1 order n s ho hn
  · exact sm_at (q := 3) (k := 2) (by decide) (by decide) kept_3_2 zrows_3_2 pred_3_2 att_3_2 (make_3_2 zs) (make_3_2 ms) ha hb smN_3_2 order n s ho hn
  · exact sm_at (q := 3) (k := 3) (by decide) (by decide) kept_3_3 zrows_3_3 pred_3_3 att_3_3 (make_3_3 zs) (make_3_3 ms) ha hb smN_3_3 order n s ho hn
  · exact sm_at (q := 4) (k := 1) (by decide) (by decide) kept_4_1 zrows_4_1 pred_4_1 att_4_1 (make_4_1 zs) (make_4_1 ms) ha hb smN_4_1 order n s ho hn
  · exact sm_at (q := 4) (k := 2) (by decide) (by decide) kept_4_2 zrows_4_2 pred_4_2 att_4_2 (make_4_2 zs) (make_4_2 ms) ha hb smN_4_2 order n s ho hn
  · exact sm_at (q := 4) (k := 3) (by decide) (by decide) kept_4_3 zrows_4_3 pred_4_3 att_4_3 (make_4_3 zs) (make_4_3 ms) ha hb smN_4_3 order n s ho hn
  · exact sm_at (q := 5) (k := 1) (by decide) (by decide) kept_5_1 zrows_5_1 pred_5_1 att_5_1 (make_5_1 zs) (make_5_1 ms) ha hb smN_5_1 order n s ho hn
  · exact sm_at (q := 5) (k := 2) (by decide) (by decide) kept_5_2 zrows_5_2 pred_5_2 att_5_2 (make_5_2 zs) (make_5_2 ms) ha hb smN_5_2 order n s ho hn
  · exact sm_at (q := 5) (k := 3) (by decide) (by decide) kept_5_3 zrows_5_3 pred_5_3 att_5_3 (make_5_3 zs) (make_5_3 ms) ha hb smN_5_3 order n s ho hn

end Go.Proofs.Ytclphdmaedpipaa
