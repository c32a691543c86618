/- The document's Jac of numbers: its contract; both, in any memory. -/
import Derived.Test.YtdlinjijccnaeaaJrG
namespace Go.Proofs.Ytdlinjijccnaeaa
open Go
set_option linter.unusedVariables false
set_option linter.unusedSimpArgs false
set_option maxRecDepth 100000

section
variable {P : Program}
theorem app_emptyL {α : Type} {f : α → List Value} {n : Nat} (hf : ∀ a, (f a).length = n) (hone : ∀ a, (f a).all oneC = true) {t e : TypeId} (hg : growOk P t e n = true) {H : AHeap} {br bx c c' N : Nat} {Bx : ABlk} {l : List α} (hr : H[br]? = some (some ⟨#[], e, n, true⟩)) (hx : H[bx]? = some (some Bx)) (hcx : Bx.cells = (l.flatMap f).toArray) (hl : l.length = N) (h1 : 1 ≤ N) (h2 : N ≤ 1000) :
    appendV P H t t (.slice (some ⟨br, 0, none⟩) 0 c) (.slice (some ⟨bx, 0, none⟩) N c') = some (.slice (some ⟨H.size, 0, none⟩) N N, (H.setIfInBounds br none).push (some ⟨(l.flatMap f).toArray, e, n, true⟩)) := by
  obtain ⟨hu, i, z, hi, g1, g2, g3, hz, g4⟩ := growOk_ex hg
  have hlen : ∀ l : List α, (l.flatMap f).length = l.length * n := by
    intro l
    induction l with
    | nil => simp
    | cons a l ih => rw [List.flatMap_cons, List.length_append, hf, ih, List.length_cons, Nat.add_mul, Nat.one_mul, Nat.add_comm]
  have hcut : cut Bx.cells 0 (N * n) = (l.flatMap f).toArray := by
    unfold cut
    rw [hcx, List.drop_zero, List.toList_toArray, List.take_of_length_le (by rw [hlen, hl]; exact Nat.le_refl _)]
  have hnews : newsV H i.size (.slice (some ⟨bx, 0, none⟩) N c') = some (N, (l.flatMap f).toArray) := by
    unfold newsV
    simp only [hx, g1]
    rw [if_pos]
    · rw [hcut]
    · rw [hcut, Bool.and_eq_true]
      refine ⟨decide_eq_true ?_, ?_⟩
      · rw [hcx, List.size_toArray, hlen, hl]
        omega
      · show (l.flatMap f).all oneC = true
        rw [List.all_flatMap]
        exact List.all_eq_true.2 fun a _ => hone a
  unfold appendV
  simp only [hu, hi, hz]
  rw [if_pos]
  · simp only [hnews, hr]
    rw [if_pos]
    · simp
    · simp [g1]
      omega
  · simp only [beq_self_eq_true, Bool.true_and, Bool.and_eq_true, beq_iff_eq, decide_eq_true_eq]
    exact ⟨⟨by omega, by omega⟩, g3⟩
def otP (π : Nat → Nat) (N : Nat) : ABlk := ⟨((List.range N).map fun j => slV (π j) N).toArray, 37, 1, true⟩
theorem otP_relK {z : Nat} {ρ : Nat → Nat} {c N : Nat} {π : Nat → Nat} (h : ∀ j, j < N → c + j < z ∧ ρ (c + j) = π j) : RelK z ρ (otJb c N) (otP π N) := by
  refine RelK.list (relMap (List.range N) fun j hj => ?_)
  have hj := List.mem_range.1 hj
  rw [if_pos hj]
  exact .slice (c + j) (π j) 0 none _ _ _ (h j hj).1 (h j hj).2
/-- A table that was made, its rows anywhere. -/
theorem Runs.tabP {f : FuncId} {args : Array Value} {b0 b1 b2 : Option ABlk} {N e : Nat} {π : Nat → Nat} {R : Nat → Nat → Nat} {H1 : AHeap} (h : Runs P f args #[b0, b1, b2] (slV e N) H1) (p0 : PlO b0) (p1 : PlO b1) (p2 : PlO b2)
    (q0 : H1[0]? = some b0) (q1 : H1[1]? = some b1) (q2 : H1[2]? = some b2) (hr : ∀ j, j < N → H1[π j]? = some (some (rowJb N (R j)))) (he : H1[e]? = some (some (otP π N))) (hc : ∀ j, j < N → 3 ≤ π j) (he3 : 3 ≤ e) (hne : ∀ j, j < N → e ≠ π j) (hinj : ∀ i j, i < N → j < N → π i = π j → i = j) :
    Runs P f args #[b0, b1, b2] (slV (3 + N) N) (#[b0, b1, b2] ++ (tabJ 3 N R).toArray) := by
  let ρ : Nat → Nat := fun b => if b < 3 then b else if b < 3 + N then π (b - 3) else e
  have hs : (#[b0, b1, b2] ++ (tabJ 3 N R).toArray : AHeap).size = 4 + N := by
    have h1 : (tabJ 3 N R).toArray.size = N + 1 := by rw [List.size_toArray, tab_len]
    rw [Array.size_append, h1]
    show 3 + (N + 1) = 4 + N
    omega
  have r0 : ∀ b, b < 3 → ρ b = b := fun b hb => if_pos hb
  have r1 : ∀ j, j < N → ρ (3 + j) = π j := fun j hj => by show (if _ then _ else _) = _; rw [if_neg (by omega), if_pos (by omega), show 3 + j - 3 = j by omega]
  have r2 : ρ (3 + N) = e := by show (if _ then _ else _) = _; rw [if_neg (by omega), if_neg (by omega)]
  have sp : ∀ (b : Nat) (B : ABlk), (#[b0, b1, b2] ++ (tabJ 3 N R).toArray : AHeap)[b]? = some (some B) → (b < 3 ∧ (#[b0, b1, b2] : AHeap)[b]? = some (some B)) ∨ (∃ j, j < N ∧ b = 3 + j ∧ B = rowJb N (R j)) ∨ (b = 3 + N ∧ B = otJb 3 N) := fun b B hB => by
    by_cases hb : b < 3
    · rw [Array.getElem?_append_left (by simp; omega)] at hB
      exact .inl ⟨hb, hB⟩
    · rw [Array.getElem?_append_right (by simp; omega), List.getElem?_toArray] at hB
      rcases tab_cases hB with ⟨g1, g2⟩ | ⟨g1, g2⟩
      · exact .inr (.inl ⟨_, g1, by simp; omega, g2⟩)
      · exact .inr (.inr ⟨by simp at g1; omega, g2⟩)
  refine Runs.ren (ρ := ρ) h ⟨fun b hb => ⟨by rw [hs]; simp at hb; omega, r0 b (by simpa using hb)⟩, rfl, ?_, ?_, ?_⟩
  · intro i v2 v1 h2 h1
    match i, h2, h1 with
    | 0, h2, h1 =>
      injection h2 with h2; injection h1 with h1
      subst h2 h1
      rw [hs]
      exact .slice (3 + N) e 0 none _ _ _ (by omega) r2
    | n + 1, h2, _ => simp at h2
  · intro b B hB
    rw [hs]
    rcases sp b B hB with ⟨hb, g⟩ | ⟨j, hj, rfl, rfl⟩ | ⟨rfl, rfl⟩
    · rw [r0 b hb]
      match b, g with
      | 0, g => exact ⟨B, q0.trans (by simpa using g), RelK.plain fun i v hv => p0 B (by simpa using g) i v hv⟩
      | 1, g => exact ⟨B, q1.trans (by simpa using g), RelK.plain fun i v hv => p1 B (by simpa using g) i v hv⟩
      | 2, g => exact ⟨B, q2.trans (by simpa using g), RelK.plain fun i v hv => p2 B (by simpa using g) i v hv⟩
      | n + 3, g => simp at g
    · rw [r1 j hj]
      exact ⟨_, hr j hj, row_relK _ _⟩
    · rw [r2]
      exact ⟨_, he, otP_relK fun j hj => ⟨by omega, r1 j hj⟩⟩
  · intro b b' B B' hB hB' heq
    rcases sp b B hB with ⟨hb, _⟩ | ⟨j, hj, rfl, _⟩ | ⟨rfl, _⟩ <;> rcases sp b' B' hB' with ⟨hb', _⟩ | ⟨j', hj', rfl, _⟩ | ⟨rfl, _⟩
    · rw [r0 b hb, r0 b' hb'] at heq; exact heq
    · rw [r0 b hb, r1 j' hj'] at heq; have := hc j' hj'; omega
    · rw [r0 b hb, r2] at heq; omega
    · rw [r1 j hj, r0 b' hb'] at heq; have := hc j hj; omega
    · rw [r1 j hj, r1 j' hj'] at heq; rw [hinj j j' hj hj' heq]
    · rw [r1 j hj, r2] at heq; exact absurd heq.symm (hne j hj)
    · rw [r2, r0 b' hb'] at heq; omega
    · rw [r2, r1 j' hj'] at heq; exact absurd heq (hne j' hj')
    · rfl
end
theorem zr_flJ : zeroB Try.prog 27 1 = true := by kernel_rfl
theorem zc_flJ : zeroC Try.prog 27 = fC 0 := by kernel_rfl
theorem zr_fslJ : zeroB Try.prog 37 1 = true := by kernel_rfl
theorem zc_fslJ : zeroC Try.prog 37 = [.slice none 0 0] := by kernel_rfl
theorem lf_len (c N : Nat) (R : Nat → Nat → Nat) (i : Nat) : (lfJ c N R i).length = 4 * i := by
  unfold lfJ
  rw [List.length_flatMap]
  simp only [List.length_cons, List.length_nil]
  rw [List.map_const', List.sum_replicate_nat, List.length_range]
  omega
theorem lf_row : ∀ N, 1 ≤ N → N ≤ 3 → ∀ j, j < N → ∀ (c : Nat) (R : Nat → Nat → Nat), (lfJ c N R N)[4 * j + 1]? = some (some (rowJb N (R j)))
  | 1, _, _, 0, _, _, _ => rfl
  | 2, _, _, 0, _, _, _ => rfl
  | 2, _, _, 1, _, _, _ => rfl
  | 3, _, _, 0, _, _, _ => rfl
  | 3, _, _, 1, _, _, _ => rfl
  | 3, _, _, 2, _, _, _ => rfl
  | 0, h, _, _, _, _, _ => absurd h (by omega)
  | n + 4, _, h, _, _, _, _ => absurd h (by omega)
  | 1, _, _, j + 1, h, _, _ => absurd h (by omega)
  | 2, _, _, j + 2, h, _, _ => absurd h (by omega)
  | 3, _, _, j + 3, h, _, _ => absurd h (by omega)
theorem lf_ot : ∀ N, 1 ≤ N → N ≤ 3 → ∀ (c : Nat) (R : Nat → Nat → Nat), (lfJ c N R N)[4 * N - 1]? = some (some (otP (fun j => c + 1 + 4 * j) N))
  | 1, _, _, _, _ => rfl
  | 2, _, _, _, _ => rfl
  | 3, _, _, _, _ => rfl
  | 0, h, _, _, _ => absurd h (by omega)
  | n + 4, _, h, _, _ => absurd h (by omega)
section
variable {c0 c1 c2 : ABlk} {N : Nat} {ops : List OpD} {out : List Int} {xs : List Nat}
theorem ref_Jac (h : EvG fC (some c0) (some c1) (some c2) N ops out xs) (p0 : PlainB c0) (p1 : PlainB c1) (p2 : PlainB c2) (h1 : 1 ≤ N) (h3 : N ≤ 3) (hM : ops.length ≤ 12) (hM2 : 2 ≤ ops.length) :
    Runs Try.prog 25 #[tpV 0 1 N ops.length, slV 2 N] #[some c0, some c1, some c2] (slV (3 + N) N) (#[some c0, some c1, some c2] ++ (tabJ 3 N (rwD ops xs out)).toArray) := by
  generalize hMM : ops.length = M at hM hM2
  let V : Nat → Nat := fun k => (regD ops xs k).1
  let S : Nat → Nat → Nat := fun k => (regD ops xs k).2
  have rds := roundsRj (V := V) (S := S) h (plO_of p0) (plO_of p1) (plO_of p2) (fun k o ho => regD_v ho (h.ok k o ho)) (fun k o ho i => regD_s ho (h.ok k o ho) i) hMM h1 h3 hM hM2 M 0 (by omega)
  let u : Nat → Int := fun i => out.getD i 0
  have hu : ∀ i, i < N → out[i]? = some (u i) ∧ 0 ≤ u i ∧ u i < M := fun i hi => by
    have hg : out[i]? = some (out.getD i 0) := getD_at 0 (by rw [h.lo]; exact hi)
    have := h.oo _ (List.mem_of_getElem? hg)
    rw [hMM] at this
    exact ⟨hg, this⟩
  have fin := finRj h1 h3 hM2 (show M < 13 by omega) (some c0) (some c1) (some c2) (rL 0 V M 0) (rL 0 V M M) S u (fun i => ⟨5, (u i).toNat, none⟩) (fun i => 6 + (u i).toNat) (rwD ops xs out)
  have hql := HQ_len (b0 := some c0) (b1 := some c1) (b2 := some c2) (N := N) (S := S) M (rL 0 V M M) (dlB N M M) M
  have hob : okAll Try.prog (lgH (HQ (some c0) (some c1) (some c2) N M (rL 0 V M M) (dlB N M M) M S) (6 + M) N M u (fun i => ⟨5, (u i).toNat, none⟩) (fun i => 6 + (u i).toNat) (rwD ops xs out)) := by
    unfold lgH
    refine okApp' (each_ok _ _ fun i hi => ?_) ⟨cmp_ok (decide_eq_false (by omega)), trivial⟩
    have hin := List.mem_range.1 hi
    obtain ⟨e0, e1, e2⟩ := hu i hin
    obtain ⟨B1, hB1, hc1⟩ := h.m1
    have hlt : (u i).toNat < M := by omega
    have hll := lf_len (6 + M) N (rwD ops xs out) i
    have hrow : (HQ (some c0) (some c1) (some c2) N M (rL 0 V M M) (dlB N M M) M S ++ lfJ (6 + M) N (rwD ops xs out) i ++ [nwF []]).toArray[6 + (u i).toNat]? = some (dJ N S (u i).toNat) := by
      rw [List.append_assoc]
      exact HQ_d hlt _
    have hemp : (HQ (some c0) (some c1) (some c2) N M (rL 0 V M M) (dlB N M M) M S ++ lfJ (6 + M) N (rwD ops xs out) i ++ [nwF []]).toArray[6 + M + 4 * i]? = some (nwF []) := by
      rw [List.getElem?_toArray, List.getElem?_append_right (by rw [List.length_append, hql, hll]; omega), List.length_append, hql, hll, Nat.sub_self]
      rfl
    have hsz : (HQ (some c0) (some c1) (some c2) N M (rL 0 V M M) (dlB N M M) M S ++ lfJ (6 + M) N (rwD ops xs out) i ++ [nwF []]).toArray.size = 6 + M + 1 + 4 * i := by
      rw [List.size_toArray, List.length_append, List.length_append, hql, hll]
      simp
      omega
    refine ⟨cmp_ok (decide_eq_true hin), rdI (B := B1) (l := out) (k := i) (by rw [← hB1]; rfl) hc1 e0 rfl, ixS e1 e2 rfl, rdS (b := 5) (k := (u i).toNat) (l := (List.range M).map fun j => if j < M then slV (6 + j) N else .slice none 0 0) rfl rfl ?_ rfl, ?_, trivial⟩
    · rw [List.getElem?_map, List.getElem?_range hlt, Option.map_some, if_pos hlt]
    · refine (app_emptyL (f := fC) (n := 1) (fun _ => rfl) (fun _ => rfl) gr_fs (l := (List.range N).map (S (u i).toNat)) hemp hrow rfl (by simp) h1 (by omega)).trans ?_
      rw [hsz]
      congr 2
      apply Array.ext'
      rw [Array.toList_push, Array.toList_setIfInBounds, List.toList_toArray, List.toList_toArray, List.set_append_right _ _ (by rw [List.length_append, hql, hll]; omega), List.length_append, hql, hll, Nat.sub_self, List.append_assoc, List.append_assoc]
      rw [List.append_assoc]
      rfl
  have hmk : okAll Try.prog [.ex (makeSliceV Try.prog [some c0, some c1, some c2, tbE N M].toArray 37 (.int .i64 M) (.int .i64 M) = some (slV 4 M, [some c0, some c1, some c2, tbE N M, nwF (rL 0 V M 0)].toArray)), .ex (makeSliceV Try.prog [some c0, some c1, some c2, tbE N M, nwF (rL 0 V M 0)].toArray 38 (.int .i64 M) (.int .i64 M) = some (slV 5 M, (HQ (some c0) (some c1) (some c2) N M (rL 0 V M 0) (dlB N M 0) 0 S).toArray))] := by
    refine ⟨?_, ?_, trivial⟩
    · refine (mk_sliceT ty_fs zr_flJ zc_flJ (M := M) (by omega)).trans ?_
      rw [rL_zero]
      rfl
    · refine (mk_sliceT ty_fss zr_fslJ (f := fun x : Value => [x]) (a := .slice none 0 0) zc_fslJ (M := M) (by omega)).trans ?_
      have e : dlB N M 0 = some ⟨((List.replicate M (Value.slice none 0 0)).flatMap fun x => [x]).toArray, 37, 1, true⟩ := by
        unfold dlB
        rw [flatIdR]
        have : ((List.range M).map fun j => if j < 0 then slV (6 + j) N else Value.slice none 0 0) = List.replicate M (Value.slice none 0 0) := by
          simp only [Nat.not_lt_zero, if_false]
          rw [List.map_const', List.length_range]
        rw [this]
      rw [e]
      rfl
  obtain ⟨H', hH, hrun⟩ := askTB_to (g := fun H => H) fin (okApp' hmk hob) ⟨⟨_, _, entRe (plO_of p0) (plO_of p1) (plO_of p2) M _ 0 (by decide), rds.loop⟩, trivial⟩
  subst hH
  refine Runs.tabP (π := fun j => 6 + M + 1 + 4 * j) (e := 6 + M + 4 * N - 1) hrun (plO_of p0) (plO_of p1) (plO_of p2) rfl rfl rfl (fun j hj => ?_) ?_ (fun j _ => by omega) (by omega) (fun j hj => by omega) (fun i j _ _ e => by omega)
  · rw [List.getElem?_toArray, List.getElem?_append_right (by omega), hql, show 6 + M + 1 + 4 * j - (6 + M) = 4 * j + 1 by omega]
    exact lf_row N h1 h3 j hj _ _
  · rw [List.getElem?_toArray, List.getElem?_append_right (by omega), hql, show 6 + M + 4 * N - 1 - (6 + M) = 4 * N - 1 by omega]
    exact lf_ot N h1 h3 _ _
end
section
variable {l : List (Option ABlk)}
def evD (n : Int) (zs : List Int) (dv : Bool) (xs : List Nat) : Nat → Nat → Nat := rwD (mkOps n zs dv) xs (mkOut n (mkM n zs))
theorem jacs_rn (n : Int) (zs : List Int) (dv : Bool) {xs : List Nat} {N M bo bu bx s : Nat} (hN : mkN n = N) (hM : mkM n zs = M) (hx : xs.length = N)
    (h0 : l[bo]? = some (opB (opsB (mkOps n zs dv) true).cells)) (h1 : l[bu]? = some (iB (intB (mkOut n (mkM n zs)) true).cells)) (h2 : l[bx]? = some (nwF xs)) (n1 : bo ≠ bu) (n2 : bo ≠ bx) (n3 : bu ≠ bx) (hs : s = l.length) :
    (rnO 16 #[tpV bo bu N M, slV bx N] l (slV (s + N) N) (tabJ s N (evD n zs dv xs))).ok Try.prog ∧ (rnO 25 #[tpV bo bu N M, slV bx N] l (slV (s + N) N) (tabJ s N (evD n zs dv xs))).ok Try.prog := by
  subst hN hM hs
  obtain ⟨g1, g2⟩ := mkN_le n
  obtain ⟨m1, m2⟩ := mkM_le n zs
  have hG := mk_evG (f := fC) n zs dv hx 27 1
  have hl := mkOps_len n zs dv
  have r1 := jac_Jac hG rfl rfl (opsB_plain _ _) (intB_plain _ _) (plain_flat fC_cl _ _ _ _) rfl g1 g2 (by rw [hl]; unfold mkM mkL; omega) (by rw [hl]; omega)
  have r2 := ref_Jac hG (opsB_plain _ _) (intB_plain _ _) (plain_flat fC_cl _ _ _ _) g1 g2 (by rw [hl]; unfold mkM mkL; omega) (by rw [hl]; omega)
  rw [hl] at r1 r2
  have key := fun {f : FuncId} (r : Runs Try.prog f #[tpV 0 1 (mkN n) (mkM n zs), slV 2 (mkN n)] #[some (opsB (mkOps n zs dv) false), some (intB (mkOut n (mkM n zs)) false), some ⟨(xs.flatMap fC).toArray, 27, 1, false⟩] (slV (3 + mkN n) (mkN n)) (#[some (opsB (mkOps n zs dv) false), some (intB (mkOut n (mkM n zs)) false), some ⟨(xs.flatMap fC).toArray, 27, 1, false⟩] ++ (tabJ 3 (mkN n) (evD n zs dv xs)).toArray)) =>
    Runs.tabAt (args1 := #[tpV bo bu (mkN n) (mkM n zs), slV bx (mkN n)]) (bo := bo) (bu := bu) (bx := bx) (B0 := opsB (mkOps n zs dv) false) (B1 := intB (mkOut n (mkM n zs)) false) (B2 := ⟨(xs.flatMap fC).toArray, 27, 1, false⟩) r rfl rfl rfl (opsB_plain _ _) (intB_plain _ _) (plain_flat fC_cl _ _ _ _) (froze_all l.toArray) (fz_at h0) (fz_at h1) (fz_at h2) n1 n2 n3
      (.cons (tp_rel bo bu _ _ (by decide) rfl rfl) (.cons (.slice 2 bx 0 none _ _ _ (by decide) rfl) .nil))
  have a := key r1
  have b := key r2
  rw [fz_size] at a b
  exact ⟨a, b⟩
end

end Go.Proofs.Ytdlinjijccnaeaa
