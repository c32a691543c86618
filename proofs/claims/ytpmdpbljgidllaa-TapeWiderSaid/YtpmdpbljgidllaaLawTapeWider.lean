/- The law TapeWider returns true, whatever the numbers. -/
import Derived.Test.YtpmdpbljgidllaaTpRel
namespace Go.Proofs.Ytpmdpbljgidllaa
open Go
set_option linter.unusedVariables false
set_option linter.unusedSimpArgs false
set_option maxRecDepth 100000

noncomputable def askWd (g : FuncId) : Nat := if [12, 14, 19, 17, 20, 21, 22].contains g then 1 else if [1000043, 1000044, 1000056, 1000067, 1000069, 1000078, 1000080, 1000081].contains g then 7 else 0
/-- A round's numbers. -/
structure RnW where
  p : Addr
  w : Int
  a : Int
  fa : Nat
  q : Int
  b : Int
  fb : Nat
  q9 : Int
  c : Int
  s : Int
  fs : Nat
def stW (l : Nat) (r : Nat → RnW) (i : Nat) : List Ans :=
  [yes true] ++ (if i < l then [yes true, pAnsT (r i).p, isI (r i).w] else [yes false]) ++ [isI (r i).a, vAns (.float .f64 (r i).fa), isI (r i).q, isI (r i).b, vAns (.float .f64 (r i).fb), isI (r i).a, isI (r i).q9, isI (r i).c, isI (r i).s, vAns (.float .f64 (r i).fs)]
noncomputable def soW (H : List (Option ABlk)) (N l nr : Nat) (vc : Value) (r : Nat → RnW) (i : Nat) : List Obl :=
  [cpO .lss (Int.ofNat i) (Int.ofNat N) true] ++ (if i < l then [cpO .lss (Int.ofNat i) nr true, .ex (indexAddrV Try.prog 23 vc (.int .i64 (Int.ofNat i)) = some (.pointer (some (r i).p))), .ex (readVar Try.prog H.toArray 3 (r i).p = some (.int .i64 (r i).w))] else [cpO .lss (Int.ofNat i) nr false]) ++
  [wiOt (if i < l then (r i).w else Int.ofNat i) 3 (r i).a, cvO (r i).a (r i).fa, arO .quo (if i < l then (r i).w else Int.ofNat i) 3 (r i).q, wiOt (r i).q 3 (r i).b, cvO (r i).b (r i).fb, wiOt (if i < l then (r i).w else Int.ofNat i) 3 (r i).a,
   arO .quo (if i < l then (r i).w else Int.ofNat i) 9 (r i).q9, wiOt (r i).q9 3 (r i).c, arO .add (r i).a (r i).c (r i).s, cvO (r i).s (r i).fs]
def aW (fx : Nat → Nat) (r : Nat → RnW) (i : Nat) : Nat × Nat := (fx i, fop .add .f64 (fx i) (r i).fa)
def bW (fx : Nat → Nat) (r : Nat → RnW) (i : Nat) : Nat × Nat := (fop .sub .f64 (fx i) (r i).fb, fop .add .f64 (fx i) (r i).fs)
def pB1 (X : Nat × Nat) : Option ABlk := some ⟨(pC X).toArray, 39, 2, true⟩
def grW (n : Nat) (f g : Nat → Nat × Nat) : List (Option ABlk) := (List.range n).flatMap fun j => [pB1 (f j), if j + 1 = n then nwP ((List.range n).map f) else none, pB1 (g j), if j + 1 = n then nwP ((List.range n).map g) else none]
def hpW (b1 b2 b3 : Option ABlk) (N M : Nat) (co cu : Array Value) (fx : Nat → Nat) (r : Nat → RnW) (i : Nat) : List (Option ABlk) := [b1, b2, b3, opB co, iB cu, tcB 3 N M, nwF ((List.range N).map fx)] ++ grW i (aW fx r) (bW fx r)
def WdRun (N l : Nat) : Prop := ∀ (b1 b2 b3 : Option ABlk) (n : Int) (dv : Bool) (M nr : Nat) (va vb : Value) (ar : Option Addr) (cr : Nat) (co cu : Array Value) (fx : Nat → Nat) (r : Nat → RnW) (fY fZ : Nat → Nat × Nat),
  (askN askWd lssC 12 4 #[.int .i64 n, va, .bool dv, vb, .slice ar nr cr] #[b1, b2, b3]
    ([yes true, tpA N M co cu, rwA N fx] ++ (List.range N).flatMap (stW l r) ++ [yes false, rwP N fY, rwP N fZ] ++ (List.range N).flatMap (fun _ => [yes true, yes true, yes true]) ++ [yes false])).map (fun r => (r.1, r.2.2)) =
  some (.bool true, [qtO 12 #[] (.bool true), rnO 14 #[.int .i64 n, va, .bool dv] [b1, b2, b3] (tpV 3 4 N M) [opB co, iB cu],
      rnO 19 #[.int .i64 (Int.ofNat N), vb] [b1, b2, b3, opB co, iB cu, tcB 3 N M] (slV 6 N) [nwF ((List.range N).map fx)]] ++
    (List.range N).flatMap (fun i => soW (hpW b1 b2 b3 N M co cu fx r i) N l nr (.slice ar nr cr) r i) ++
    [cpO .lss (Int.ofNat N) (Int.ofNat N) false,
      rnO 20 #[tpV 3 4 N M, slV (4 * N + 4) N] (hpW b1 b2 b3 N M co cu fx r N) (slV (7 + 4 * N) N) [nwP ((List.range N).map fY)],
      rnO 20 #[tpV 3 4 N M, slV (4 * N + 6) N] (hpW b1 b2 b3 N M co cu fx r N ++ [nwP ((List.range N).map fY)]) (slV (8 + 4 * N) N) [nwP ((List.range N).map fZ)]] ++
    (List.range N).flatMap (fun i => [cpO .lss (Int.ofNat i) (Int.ofNat N) true, qtO 21 #[vI (fY i)] (.bool true), qtO 22 #[vI (fY i), vI (fZ i)] (.bool true)]) ++ [cpO .lss (Int.ofNat N) (Int.ofNat N) false])
theorem wdRun_1_0 : WdRun 1 0 := fun _ _ _ _ _ _ _ _ _ _ _ _ _ _ _ _ _ => by kernel_rfl
theorem wdRun_1_1 : WdRun 1 1 := fun _ _ _ _ _ _ _ _ _ _ _ _ _ _ _ _ _ => by kernel_rfl
theorem wdRun_2_0 : WdRun 2 0 := fun _ _ _ _ _ _ _ _ _ _ _ _ _ _ _ _ _ => by kernel_rfl
theorem wdRun_2_1 : WdRun 2 1 := fun _ _ _ _ _ _ _ _ _ _ _ _ _ _ _ _ _ => by kernel_rfl
theorem wdRun_2_2 : WdRun 2 2 := fun _ _ _ _ _ _ _ _ _ _ _ _ _ _ _ _ _ => by kernel_rfl
theorem wdRun_3_0 : WdRun 3 0 := fun _ _ _ _ _ _ _ _ _ _ _ _ _ _ _ _ _ => by kernel_rfl
theorem wdRun_3_1 : WdRun 3 1 := fun _ _ _ _ _ _ _ _ _ _ _ _ _ _ _ _ _ => by kernel_rfl
theorem wdRun_3_2 : WdRun 3 2 := fun _ _ _ _ _ _ _ _ _ _ _ _ _ _ _ _ _ => by kernel_rfl
theorem wdRun_3_3 : WdRun 3 3 := fun _ _ _ _ _ _ _ _ _ _ _ _ _ _ _ _ _ => by kernel_rfl
theorem wdRunA_1 : ∀ l, l ≤ 1 → WdRun 1 l
  | 0, _ => wdRun_1_0
  | 1, _ => wdRun_1_1
  | l + 2, h => absurd h (by omega)
theorem wdRunA_2 : ∀ l, l ≤ 2 → WdRun 2 l
  | 0, _ => wdRun_2_0
  | 1, _ => wdRun_2_1
  | 2, _ => wdRun_2_2
  | l + 3, h => absurd h (by omega)
theorem wdRunA_3 : ∀ l, l ≤ 3 → WdRun 3 l
  | 0, _ => wdRun_3_0
  | 1, _ => wdRun_3_1
  | 2, _ => wdRun_3_2
  | 3, _ => wdRun_3_3
  | l + 4, h => absurd h (by omega)
theorem wdRun (N l : Nat) (h1 : 1 ≤ N) (h2 : N ≤ 3) (h : l ≤ N) : WdRun N l := by
  have : N = 1 ∨ N = 2 ∨ N = 3 := by omega
  rcases this with rfl | rfl | rfl
  · exact wdRunA_1 l h
  · exact wdRunA_2 l h
  · exact wdRunA_3 l h
theorem ar_quo9 (a : Int) : (arO .quo a 9 (wr (a.tdiv 9))).ok Try.prog := by
  show pureV Try.prog (binOp .quo 3 (.int .i64 a) (.int .i64 9)) = some (.int .i64 (wr (a.tdiv 9)))
  kernel_rfl
/-- A round's numbers, of one number. -/
def mkRnW (w : Int) (p : Addr) : RnW := ⟨p, w, w % 3, Fz (w % 3), wr (w.tdiv 3), wr (w.tdiv 3) % 3, Fz (wr (w.tdiv 3) % 3), wr (w.tdiv 9), wr (w.tdiv 9) % 3, wr (w % 3 + wr (w.tdiv 9) % 3), Fz (wr (w % 3 + wr (w.tdiv 9) % 3))⟩
theorem dyF3 {n : Int} (h : n.natAbs < 1000000) : Dy 3 (n * 8) (Fz n) := ((Dy.F (n := n) (by omega)).up 3).cast (by omega) rfl
theorem wd_in (ms : List Int) (r : Nat → RnW) {i : Nat} {w : Int} {p : Addr} (hr : r i = mkRnW w p) : RsW (aW (fun i => vw8 (Fz (vlI ms i))) r i) (bW (fun i => vw8 (Fz (vlI ms i))) r i) := by
  have hx := vl_dy ms i
  have hb := vlI_bd ms i
  have e1 := emod_bd w (m := 3) (by decide)
  have e2 := emod_bd (wr (w.tdiv 3)) (m := 3) (by decide)
  have e3 := emod_bd (wr (w.tdiv 9)) (m := 3) (by decide)
  have es : wr (w % 3 + wr (w.tdiv 9) % 3) = w % 3 + wr (w.tdiv 9) % 3 := wr_id (by omega) (by omega)
  unfold aW bW
  rw [hr]
  simp only [mkRnW, es]
  generalize w % 3 = a at *
  generalize wr (w.tdiv 3) % 3 = b at *
  generalize wr (w.tdiv 9) % 3 = c at *
  generalize vlI ms i = X at *
  have d1 := hx.add (dyF3 (n := a) (by omega)) (by omega) (by omega)
  have d2 := hx.sub (dyF3 (n := b) (by omega)) (by omega) (by omega)
  have d3 := hx.add (dyF3 (n := a + c) (by omega)) (by omega) (by omega)
  exact ⟨rs_fi hx.fi d1.fi (hx.le d1 (by omega)), rs_fi d2.fi d3.fi (d2.le d3 (by omega)), d2.le hx (by omega), d1.le d3 (by omega)⟩

theorem grW_last {N : Nat} (h1 : 1 ≤ N) (h2 : N ≤ 3) (f g : Nat → Nat × Nat) : (grW N f g).length = 4 * N ∧ (grW N f g)[4 * N - 3]? = some (nwP ((List.range N).map f)) ∧ (grW N f g)[4 * N - 1]? = some (nwP ((List.range N).map g)) := by
  have : N = 1 ∨ N = 2 ∨ N = 3 := by omega
  rcases this with rfl | rfl | rfl <;> exact ⟨rfl, rfl, rfl⟩
theorem map_getD {α : Type} {N : Nat} (f : Nat → α) (d : α) {Q : α → Prop} (hd : Q d) (h : ∀ i, i < N → Q (f i)) (i : Nat) : Q (((List.range N).map f).getD i d) :=
  getD_all hd (fun a ha => by
    obtain ⟨j, hj, rfl⟩ := List.mem_map.1 ha
    exact h j (List.mem_range.1 hj)) i
theorem map_getD2 {α : Type} {N : Nat} (f g : Nat → α) (d : α) {Q : α → α → Prop} (hd : Q d d) (h : ∀ i, i < N → Q (f i) (g i)) (i : Nat) : Q (((List.range N).map f).getD i d) (((List.range N).map g).getD i d) := by
  simp only [List.getD_eq_getElem?_getD, List.getElem?_map]
  by_cases c : i < N
  · rw [List.getElem?_range c]; exact h i c
  · rw [List.getElem?_eq_none (l := List.range N) (by simp; omega)]; exact hd

set_option maxHeartbeats 4000000 in
theorem tapeWider_three {o o2 o3 : Option ABlk} {va vb vc : Value} {zs ms rs : List Int} (ha : Handed #[o, o2, o3] zs va) (hb : Handed #[o, o2, o3] ms vb) (hc : Handed #[o, o2, o3] rs vc) (n : Int) (dv : Bool) :
    Tells 4 #[.int .i64 n, va, .bool dv, vb, vc] #[o, o2, o3] (.bool true) := by
  obtain ⟨n1, n2⟩ := mkN_le n
  generalize hN : mkN n = N at n1 n2
  obtain ⟨ar, cr, rfl⟩ := hc.parts
  have hP : ∀ i, ∃ p : Addr, i < rs.length → indexAddrV Try.prog 23 (.slice ar rs.length cr) (.int .i64 (Int.ofNat i)) = some (.pointer (some p)) ∧ ∀ c : AHeap, readVar Try.prog (#[o, o2, o3] ++ c) 3 p = some (.int .i64 (rs.getD i 0)) := by
    intro i
    by_cases h : i < rs.length
    · obtain ⟨p, h1, h2⟩ := hc.get h
      exact ⟨p, fun _ => ⟨h1, h2⟩⟩
    · exact ⟨⟨0, 0, none⟩, fun h' => absurd h' h⟩
  obtain ⟨p, hp⟩ := Classical.axiomOfChoice hP
  generalize hw : (fun i : Nat => rs.getD i (Int.ofNat i)) = w
  have hwi : ∀ i, w i = rs.getD i (Int.ofNat i) := fun i => by rw [← hw]
  have r := wdRun N (min N rs.length) n1 n2 (by omega) o o2 o3 n dv (mkM n zs) rs.length va vb ar cr (opsB (mkOps n zs dv) true).cells (intB (mkOut n (mkM n zs)) true).cells (fun i => vw8 (Fz (vlI ms i))) (fun i => mkRnW (w i) (p i))
    (evP n zs dv ((List.range N).map (aW (fun i => vw8 (Fz (vlI ms i))) fun i => mkRnW (w i) (p i)))) (evP n zs dv ((List.range N).map (bW (fun i => vw8 (Fz (vlI ms i))) fun i => mkRnW (w i) (p i))))
  have hh := fun (c : List (Option ABlk)) {zs : List Int} {v : Value} (h : Handed [o, o2, o3].toArray zs v) => h.list c
  have e3 : ∀ rest : List (Option ABlk), (o :: o2 :: o3 :: rest).toArray = #[o, o2, o3] ++ rest.toArray := fun rest => by
    apply Array.ext'
    simp
  have hW : ∀ i, i < N → RsW (aW (fun i => vw8 (Fz (vlI ms i))) (fun i => mkRnW (w i) (p i)) i) (bW (fun i => vw8 (Fz (vlI ms i))) (fun i => mkRnW (w i) (p i)) i) := fun i _ => wd_in ms _ rfl
  have hrA : ∀ X ∈ (List.range N).map (aW (fun i => vw8 (Fz (vlI ms i))) fun i => mkRnW (w i) (p i)), Rt X := by
    intro X hX
    obtain ⟨i, hi, rfl⟩ := List.mem_map.1 hX
    exact (hW i (List.mem_range.1 hi)).a.rt
  have hrB : ∀ X ∈ (List.range N).map (bW (fun i => vw8 (Fz (vlI ms i))) fun i => mkRnW (w i) (p i)), Rt X := by
    intro X hX
    obtain ⟨i, hi, rfl⟩ := List.mem_map.1 hX
    exact (hW i (List.mem_range.1 hi)).b.rt
  refine tells_of r (okApp (okApp (okApp (okApp ?_ (each_ok _ _ fun i hi => ?_)) ?_) (each_ok _ _ fun i hi => ?_)) ⟨cmp_ok (decide_eq_false (by omega)), trivial⟩)
  · exact ⟨tapeKnown0, make_rn n dv (hh [] ha) hN rfl rfl, val_rn n1 (by omega) (hh [_, _, _] hb) rfl, trivial⟩
  · have hin := List.mem_range.1 hi
    have ew : (if i < min N rs.length then w i else Int.ofNat i) = w i := by
      split
      · rfl
      · rw [hwi, List.getD_eq_getElem?_getD, List.getElem?_eq_none (by omega)]; rfl
    have ew' : (if i < min N rs.length then (mkRnW (w i) (p i)).w else Int.ofNat i) = w i := ew
    unfold soW
    dsimp only
    rw [ew']
    refine okApp (okApp ⟨cmp_ok (decide_eq_true hin), trivial⟩ ?_) ⟨wi_ok _ (n := 3) (by omega) (by omega), cv_ok _, ar_quo3 _, wi_ok _ (n := 3) (by omega) (by omega), cv_ok _, wi_ok _ (n := 3) (by omega) (by omega), ar_quo9 _, wi_ok _ (n := 3) (by omega) (by omega), ar_add _ _, cv_ok _, trivial⟩
    by_cases hlt : i < min N rs.length
    · rw [if_pos hlt]
      obtain ⟨p1, p2⟩ := hp i (by omega)
      have hmem : readVar Try.prog (hpW o o2 o3 N (mkM n zs) (opsB (mkOps n zs dv) true).cells (intB (mkOut n (mkM n zs)) true).cells (fun i => vw8 (Fz (vlI ms i))) (fun i => mkRnW (w i) (p i)) i).toArray 3 (p i) = some (.int .i64 (w i)) := by
        have := p2 ([opB (opsB (mkOps n zs dv) true).cells, iB (intB (mkOut n (mkM n zs)) true).cells, tcB 3 N (mkM n zs), nwF ((List.range N).map fun i => vw8 (Fz (vlI ms i)))] ++ grW i (aW (fun i => vw8 (Fz (vlI ms i))) fun i => mkRnW (w i) (p i)) (bW (fun i => vw8 (Fz (vlI ms i))) fun i => mkRnW (w i) (p i))).toArray
        rw [← e3] at this
        have ex : w i = rs.getD i 0 := by
          rw [hwi, List.getD_eq_getElem?_getD, List.getD_eq_getElem?_getD, List.getElem?_eq_getElem (show i < rs.length by omega)]; rfl
        rw [ex]
        exact this
      exact ⟨cmp_ok (decide_eq_true (by omega)), p1, hmem, trivial⟩
    · rw [if_neg hlt]
      exact ⟨cmp_ok (decide_eq_false (by omega)), trivial⟩
  · obtain ⟨g1, g2, g3⟩ := grW_last n1 n2 (aW (fun i => vw8 (Fz (vlI ms i))) fun i => mkRnW (w i) (p i)) (bW (fun i => vw8 (Fz (vlI ms i))) fun i => mkRnW (w i) (p i))
    have hlen : (hpW o o2 o3 N (mkM n zs) (opsB (mkOps n zs dv) true).cells (intB (mkOut n (mkM n zs)) true).cells (fun i => vw8 (Fz (vlI ms i))) (fun i => mkRnW (w i) (p i)) N).length = 7 + 4 * N := by
      unfold hpW
      rw [List.length_append, g1]
      rfl
    have hat : ∀ k, (hpW o o2 o3 N (mkM n zs) (opsB (mkOps n zs dv) true).cells (intB (mkOut n (mkM n zs)) true).cells (fun i => vw8 (Fz (vlI ms i))) (fun i => mkRnW (w i) (p i)) N)[7 + k]? = (grW N (aW (fun i => vw8 (Fz (vlI ms i))) fun i => mkRnW (w i) (p i)) (bW (fun i => vw8 (Fz (vlI ms i))) fun i => mkRnW (w i) (p i)))[k]? := by
      intro k
      unfold hpW
      rw [List.getElem?_append_right (by simp)]
      show (grW N (aW (fun i => vw8 (Fz (vlI ms i))) fun i => mkRnW (w i) (p i)) (bW (fun i => vw8 (Fz (vlI ms i))) fun i => mkRnW (w i) (p i)))[7 + k - 7]? = _
      rw [Nat.add_sub_cancel_left]
    have hA := hat (4 * N - 3)
    have hB := hat (4 * N - 1)
    rw [g2, show 7 + (4 * N - 3) = 4 * N + 4 by omega] at hA
    rw [g3, show 7 + (4 * N - 1) = 4 * N + 6 by omega] at hB
    clear hat
    generalize hH : hpW o o2 o3 N (mkM n zs) (opsB (mkOps n zs dv) true).cells (intB (mkOut n (mkM n zs)) true).cells (fun i => vw8 (Fz (vlI ms i))) (fun i => mkRnW (w i) (p i)) N = HH at hlen hA hB
    have q3 : HH[3]? = some (opB (opsB (mkOps n zs dv) true).cells) := by rw [← hH]; rfl
    have q4 : HH[4]? = some (iB (intB (mkOut n (mkM n zs)) true).cells) := by rw [← hH]; rfl
    have ap : ∀ {i : Nat} {x : Option ABlk} (c : List (Option ABlk)), HH[i]? = some x → (HH ++ c)[i]? = some x := by
      intro i x c h
      rw [List.getElem?_append_left (List.getElem?_eq_some_iff.1 h).1]; exact h
    have e1 := evP_rn (l := HH) n zs dv hrA (bo := 3) (bu := 4) (bx := 4 * N + 4) (s := 7 + 4 * N) hN rfl (by simp) (t := 0) (z := 0) q3 q4 hA rfl hlen.symm
    have e2 := evP_rn (l := HH ++ [nwP ((List.range N).map (evP n zs dv ((List.range N).map (aW (fun i => vw8 (Fz (vlI ms i))) fun i => mkRnW (w i) (p i)))))]) n zs dv hrB (bo := 3) (bu := 4) (bx := 4 * N + 6) (s := 8 + 4 * N) hN rfl (by simp) (t := 0) (z := 0) (ap _ q3) (ap _ q4) (ap _ hB) rfl (by simp [hlen]; omega)
    exact ⟨cmp_ok (decide_eq_false (by omega)), e1.1, e2.1, trivial⟩
  · have hin := List.mem_range.1 hi
    have hk := reg_wi (mk_fi n zs dv) (Xs := (List.range N).map (aW (fun i => vw8 (Fz (vlI ms i))) fun i => mkRnW (w i) (p i))) (Ys := (List.range N).map (bW (fun i => vw8 (Fz (vlI ms i))) fun i => mkRnW (w i) (p i)))
      (fun i => map_getD2 (Q := RsW) _ _ (0, 0) ⟨rs_pt fi_zero.1, rs_pt fi_zero.1, wi_refl _⟩ hW i) (mkU n (mkM n zs) i).toNat
    exact ⟨cmp_ok (decide_eq_true hin), right_yes hk.a.rt, within_yes hk.a.rt hk.b.rt hk.w, trivial⟩

end Go.Proofs.Ytpmdpbljgidllaa
