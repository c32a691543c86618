/- jac.Jac: its contract, in any memory that holds a field and numbers. -/
import Derived.Test.YtdlinjijccnaeaaJcH
namespace Go.Proofs.Ytdlinjijccnaeaa
open Go
set_option linter.unusedVariables false
set_option linter.unusedSimpArgs false
set_option maxRecDepth 100000

theorem fa_rg1 (b o : Nat) : fieldAddrV Try.prog 83 (.pointer (some ⟨b, o, none⟩)) 1 = some (.pointer (some ⟨b, o + 1, none⟩)) := by kernel_rfl
theorem ty_fsP : isPlainB Try.prog 37 = true := by kernel_rfl
theorem rg_get1 : ∀ (l : List (Nat × Value)) (k : Nat) (a : Nat × Value), l[k]? = some a → (l.flatMap rgC)[k * 2 + 1]? = some a.2
  | [], k, a, h => by simp at h
  | x :: l, 0, a, h => by
    simp only [List.getElem?_cons_zero, Option.some.injEq] at h
    subst h
    rfl
  | x :: l, k + 1, a, h => by
    rw [List.getElem?_cons_succ] at h
    rw [List.flatMap_cons, List.getElem?_append_right (by simp [rgC]; omega)]
    rw [show (k + 1) * 2 + 1 - (rgC x).length = k * 2 + 1 by simp [rgC]; omega]
    exact rg_get1 l k a h
theorem rdRd {H : AHeap} {b k : Nat} {B : ABlk} {l : List (Nat × Value)} {a : Nat × Value} (hb : H[b]? = some (some B)) (hc : B.cells = (l.flatMap rgC).toArray) (hk : l[k]? = some a) {o : Nat} (ho : o = k * 2 + 1) : readVar Try.prog H 37 ⟨b, o, none⟩ = some a.2 :=
  rd_one (g := fun x : Value => x) (isPlainB_ex ty_fsP) hb (by rw [flatIdR, hc]) (rg_get1 l k a hk) ho
theorem gr_fs : growOk Try.prog 37 27 1 = true := by kernel_rfl

section
variable {P : Program}
theorem app_nilL {α : Type} {f : α → List Value} {n : Nat} (hf : ∀ a, (f a).length = n) (hone : ∀ a, (f a).all oneC = true) {t e : TypeId} (hg : growOk P t e n = true) {H : AHeap} {bx c' N : Nat} {Bx : ABlk} {l : List α} (hx : H[bx]? = some (some Bx)) (hcx : Bx.cells = (l.flatMap f).toArray) (hl : l.length = N) (h1 : 1 ≤ N) (h2 : N ≤ 1000) :
    appendV P H t t (.slice none 0 0) (.slice (some ⟨bx, 0, none⟩) N c') = some (.slice (some ⟨H.size, 0, none⟩) N N, H.push (some ⟨(l.flatMap f).toArray, e, n, true⟩)) := by
  obtain ⟨hu, i, z, hi, g1, g2, g3, hz, g4⟩ := growOk_ex hg
  have hlen : ∀ l : List α, (l.flatMap f).length = l.length * n := by
    intro l
    induction l with
    | nil => simp
    | cons a l ih => rw [List.flatMap_cons, List.length_append, hf, ih, List.length_cons, Nat.add_mul, Nat.one_mul, Nat.add_comm]
  have hcut : cut Bx.cells 0 (N * n) = (l.flatMap f).toArray := by
    unfold cut
    rw [hcx, List.drop_zero, List.toList_toArray, List.take_of_length_le (by rw [hlen, hl]; exact Nat.le_refl _)]
  have hnews : newsV H i.size (.slice (some ⟨bx, 0, none⟩) N c') = some (N, (l.flatMap f).toArray) := by
    unfold newsV
    simp only [hx, g1]
    rw [if_pos]
    · rw [hcut]
    · rw [hcut, Bool.and_eq_true]
      refine ⟨decide_eq_true ?_, ?_⟩
      · rw [hcx, List.size_toArray, hlen, hl]
        omega
      · show (l.flatMap f).all oneC = true
        rw [List.all_flatMap]
        exact List.all_eq_true.2 fun a _ => hone a
  unfold appendV
  simp only [hu, hi, hz]
  rw [if_pos]
  · simp only [hnews]
    rw [if_neg (by omega), if_pos (by omega), g1]
  · simp only [beq_self_eq_true, Bool.true_and, Bool.and_eq_true, beq_iff_eq, decide_eq_true_eq]
    exact ⟨⟨by omega, by omega⟩, g3⟩
end
section
variable {c0 c1 c2 : ABlk} {N : Nat} {ops : List OpD} {out : List Int} {xs : List Nat}
def rwD (ops : List OpD) (xs : List Nat) (out : List Int) (i : Nat) : Nat → Nat := (regD ops xs (out.getD i 0).toNat).2
theorem plO_of {B : ABlk} (h : PlainB B) : PlO (some B) := by
  intro C hC
  injection hC with hC
  subst hC
  exact h
theorem jac_run (h : EvG fC (some c0) (some c1) (some c2) N ops out xs) (o0 : c0.own = false) (o1 : c1.own = false) (p0 : PlainB c0) (p1 : PlainB c1) (p2 : PlainB c2) (hb2 : c2 = ⟨(xs.flatMap fC).toArray, 27, 1, false⟩) (h1 : 1 ≤ N) (h3 : N ≤ 3) (hM : ops.length ≤ 12) (hM2 : 2 ≤ ops.length) :
    Runs Try.prog 39 #[kdF, tpV 0 1 N ops.length, slV 2 N] #[some c0, some c1, some c2] (slV (3 + N) N) (#[some c0, some c1, some c2] ++ (tabJ 3 N (rwD ops xs out)).toArray) := by
  let V : Nat → Nat := fun k => (regD ops xs k).1
  let S : Nat → Nat → Nat := fun k => (regD ops xs k).2
  let M := ops.length
  have rds := roundsJ (V := V) (S := S) h (plO_of p0) (plO_of p1) (plO_of p2) ⟨false, by rw [hb2]⟩ (fun k o ho => regD_v ho (h.ok k o ho)) (fun k o ho i => regD_s ho (h.ok k o ho) i) h1 h3 hM hM2 ops.length 0 (by omega)
  let u : Nat → Int := fun i => out.getD i 0
  have hu : ∀ i, i < N → out[i]? = some (u i) ∧ 0 ≤ u i ∧ u i < ops.length := fun i hi => by
    have hg : out[i]? = some (out.getD i 0) := getD_at 0 (by rw [h.lo]; exact hi)
    exact ⟨hg, h.oo _ (List.mem_of_getElem? hg)⟩
  have fin := finJ h1 h3 hM2 (show ops.length < 13 by omega) (some c0) (some c1) (some c2) V S u (fun i => ⟨5, (u i).toNat * 2, none⟩) (fun i => ⟨5, (u i).toNat * 2 + 1, none⟩) (fun i => 6 + (u i).toNat) (rwD ops xs out)
  have hob : okAll Try.prog (lgG (HJ (some c0) (some c1) (some c2) N ops.length ops.length V S) N ops.length u (fun i => ⟨5, (u i).toNat * 2, none⟩) (fun i => ⟨5, (u i).toNat * 2 + 1, none⟩) (fun i => 6 + (u i).toNat) (rwD ops xs out)) := by
    unfold lgG
    refine okApp' (each_ok _ _ fun i hi => ?_) ⟨cmp_ok (decide_eq_false (by omega)), trivial⟩
    have hin := List.mem_range.1 hi
    obtain ⟨e0, e1, e2⟩ := hu i hin
    obtain ⟨B1, hB1, hc1⟩ := h.m1
    have hlt : (u i).toNat < ops.length := by omega
    have hrow : (HJ (some c0) (some c1) (some c2) N ops.length ops.length V S ++ [otJ (7 + ops.length) N i] ++ rowsJ N (rwD ops xs out) i).toArray[6 + (u i).toNat]? = some (dJ N S (u i).toNat) := by
      rw [List.getElem?_toArray, List.append_assoc]
      exact HJ_get hlt _
    have hrg : (HJ (some c0) (some c1) (some c2) N ops.length ops.length V S ++ [otJ (7 + ops.length) N i] ++ rowsJ N (rwD ops xs out) i).toArray[5]? = some (rgBo true (rgs V (fun j => slV (6 + j) N) ops.length)) := by
      rw [List.getElem?_toArray, List.append_assoc]
      exact HJ_rg (by omega) _
    have hsz : (HJ (some c0) (some c1) (some c2) N ops.length ops.length V S ++ [otJ (7 + ops.length) N i] ++ rowsJ N (rwD ops xs out) i).toArray.size = 7 + ops.length + i := by
      rw [HJ_pos (by omega)]
      simp [rowsJ]
      omega
    refine ⟨cmp_ok (decide_eq_true hin), rdI (B := B1) (l := out) (k := i) (by rw [← hB1]; rfl) hc1 e0 rfl, ?_, fa_rg1 _ _, rdRd (l := rgs V (fun j => slV (6 + j) N) ops.length) (k := (u i).toNat) hrg rfl (rgs_get V (fun j => slV (6 + j) N) hlt) rfl, ?_, trivial⟩
    · rw [rvJ_pos (by omega)]
      exact ixR e1 e2 rfl
    · refine (app_nilL (f := fC) (n := 1) (fun _ => rfl) (fun _ => rfl) gr_fs (l := (List.range N).map (S (u i).toNat)) hrow rfl (by simp) h1 (by omega)).trans ?_
      rw [hsz]
      congr 2
      apply Array.ext'
      simp only [Array.toList_push]
      unfold rowsJ
      rw [List.range_succ, List.map_append, ← List.append_assoc]
      rfl
  obtain ⟨H', hH, hrun⟩ := askTB_to (g := fun H => H) fin hob ⟨⟨_, _, entJe (plO_of p0) (plO_of p1) (plO_of p2) ops.length 0 (by decide), rds.loop⟩, trivial⟩
  subst hH
  have hl : (HJ (some c0) (some c1) (some c2) N ops.length ops.length V S).length = 6 + ops.length := by rw [HJ_pos (by omega)]; simp; omega
  refine Runs.tab (c := 7 + ops.length) (e := 6 + ops.length) hrun (plO_of p0) (plO_of p1) (plO_of p2) rfl rfl rfl (fun j hj => ?_) ?_ (by omega) (by omega) (fun j _ => by omega)
  · rw [List.getElem?_toArray, List.getElem?_append_right (by rw [List.length_append, hl]; simp; omega), List.length_append, hl]
    simp only [List.length_cons, List.length_nil]
    rw [show 7 + ops.length + j - (6 + ops.length + (0 + 1)) = j by omega]
    unfold rowsJ
    rw [List.getElem?_map, List.getElem?_range hj]
    rfl
  · rw [List.getElem?_toArray, List.append_assoc, List.getElem?_append_right (by omega), hl, Nat.sub_self]
    rfl

/-! jac.Jac -/
noncomputable def askJ1 (g : FuncId) : Nat := if g == 39 then 1 else 0
def JacRun (N : Nat) : Prop := ∀ (b0 b1 b2 : Option ABlk) (M : Nat) (R : Nat → Nat → Nat), (askTB askJ1 noC 16 #[tpV 0 1 N M, slV 2 N] #[b0, b1, b2] [cAns (fun s => slV (s + N) N) (tabJ 4 N R)] []).map (fun r => (r.1, r.2.1, r.2.2.1, slL [] r.2.2.2)) =
  some (slV (4 + N) N, ([b0, b1, b2, tbE N M] ++ tabJ 4 N R).toArray, [rnO 39 #[kdF, tpV 0 1 N M, slV 2 N] [b0, b1, b2, tbE N M] (slV (4 + N) N) (tabJ 4 N R)], [])
theorem jacRun_1 : JacRun 1 := fun _ _ _ _ _ => by kernel_rfl
theorem jacRun_2 : JacRun 2 := fun _ _ _ _ _ => by kernel_rfl
theorem jacRun_3 : JacRun 3 := fun _ _ _ _ _ => by kernel_rfl
theorem jacRun (h1 : 1 ≤ N) (h3 : N ≤ 3) : JacRun N := by
  have : N = 1 ∨ N = 2 ∨ N = 3 := by omega
  rcases this with rfl | rfl | rfl
  · exact jacRun_1
  · exact jacRun_2
  · exact jacRun_3
theorem tp_rel {z : Nat} {ρ : Nat → Nat} (bo bu N M : Nat) (hz : 2 ≤ z) (h0 : ρ 0 = bo) (h1 : ρ 1 = bu) : RelA z ρ (tpV 0 1 N M) (tpV bo bu N M) := by
  refine .agg rfl fun i g1 g2 => ?_
  have : i = 0 ∨ i = 1 ∨ i = 2 := by simp at g1; omega
  rcases this with rfl | rfl | rfl
  · exact .clos rfl
  · exact .slice 0 bo 0 none _ _ _ (by omega) h0
  · exact .slice 1 bu 0 none _ _ _ (by omega) h1
theorem jac_Jac (h : EvG fC (some c0) (some c1) (some c2) N ops out xs) (o0 : c0.own = false) (o1 : c1.own = false) (p0 : PlainB c0) (p1 : PlainB c1) (p2 : PlainB c2) (hb2 : c2 = ⟨(xs.flatMap fC).toArray, 27, 1, false⟩) (h1 : 1 ≤ N) (h3 : N ≤ 3) (hM : ops.length ≤ 12) (hM2 : 2 ≤ ops.length) :
    Runs Try.prog 16 #[tpV 0 1 N ops.length, slV 2 N] #[some c0, some c1, some c2] (slV (3 + N) N) (#[some c0, some c1, some c2] ++ (tabJ 3 N (rwD ops xs out)).toArray) := by
  have r := jac_run h o0 o1 p0 p1 p2 hb2 h1 h3 hM hM2
  have o2 : c2.own = false := by rw [hb2]
  have fz : ∀ c : ABlk, c.own = false → ({ c with own := false } : ABlk) = c := fun c hc => by cases c; simp at hc; subst hc; rfl
  have e0 : (froze [some c0, some c1, some c2, tbE N ops.length].toArray)[0]? = some (some c0) := (fz_at (l := [some c0, some c1, some c2, tbE N ops.length]) (i := 0) (B := c0) rfl).trans (by rw [fz c0 o0])
  have e1 : (froze [some c0, some c1, some c2, tbE N ops.length].toArray)[1]? = some (some c1) := (fz_at (l := [some c0, some c1, some c2, tbE N ops.length]) (i := 1) (B := c1) rfl).trans (by rw [fz c1 o1])
  have e2 : (froze [some c0, some c1, some c2, tbE N ops.length].toArray)[2]? = some (some c2) := (fz_at (l := [some c0, some c1, some c2, tbE N ops.length]) (i := 2) (B := c2) rfl).trans (by rw [fz c2 o2])
  have r4 := Runs.tabAt (args1 := #[kdF, tpV 0 1 N ops.length, slV 2 N]) (bo := 0) (bu := 1) (bx := 2) (B0 := c0) (B1 := c1) (B2 := c2) r o0 o1 o2 p0 p1 p2 (froze_all [some c0, some c1, some c2, tbE N ops.length].toArray) e0 e1 e2 (by decide) (by decide) (by decide)
    (.cons (.clos kdF_cl) (.cons (tp_rel 0 1 N _ (by decide) rfl rfl) (.cons (.slice 2 2 0 none _ _ _ (by decide) rfl) .nil)))
  rw [fz_size] at r4
  obtain ⟨H', hH, hrun⟩ := askTB_to (g := fun H => H) (jacRun h1 h3 (some c0) (some c1) (some c2) ops.length (rwD ops xs out)) ⟨r4, trivial⟩ trivial
  subst hH
  refine Runs.tab (c := 4) (e := 4 + N) hrun (plO_of p0) (plO_of p1) (plO_of p2) rfl rfl rfl (fun j hj => ?_) ?_ (by omega) (by omega) (fun j hj => by omega)
  · rw [List.getElem?_toArray, List.getElem?_append_right (by simp), show 4 + j - [some c0, some c1, some c2, tbE N ops.length].length = j by simp]
    exact tab_row hj
  · rw [List.getElem?_toArray, List.getElem?_append_right (by simp), show 4 + N - [some c0, some c1, some c2, tbE N ops.length].length = N by simp]
    exact tab_ot _ _ _
end

end Go.Proofs.Ytdlinjijccnaeaa
