/- The document's Jac of numbers: its rounds in a row. -/
import Derived.Test.YtdlinjijccnaeaaJrR1
import Derived.Test.YtdlinjijccnaeaaJrR2
import Derived.Test.YtdlinjijccnaeaaJrR3
namespace Go.Proofs.Ytdlinjijccnaeaa
open Go
set_option linter.unusedVariables false
set_option linter.unusedSimpArgs false
set_option maxRecDepth 100000

theorem rjC {N k : Nat} (h1 : 1 ≤ N) (h2 : N ≤ 3) (hk : k < 12) : RjC N k := by
  have : N = 1 ∨ N = 2 ∨ N = 3 := by omega
  rcases this with rfl | rfl | rfl
  · exact rjC_1 k hk
  · exact rjC_2 k hk
  · exact rjC_3 k hk
theorem rjV {N k : Nat} (h1 : 1 ≤ N) (h2 : N ≤ 3) (hk : k < 12) : RjV N k := by
  have : N = 1 ∨ N = 2 ∨ N = 3 := by omega
  rcases this with rfl | rfl | rfl
  · exact rjV_1 k hk
  · exact rjV_2 k hk
  · exact rjV_3 k hk
theorem rjE {N k : Nat} (h1 : 1 ≤ N) (h2 : N ≤ 3) (h3 : 2 ≤ k) (hk : k < 13) : RjE N k := by
  have : N = 1 ∨ N = 2 ∨ N = 3 := by omega
  rcases this with rfl | rfl | rfl
  · exact rjE_1 k h3 hk
  · exact rjE_2 k h3 hk
  · exact rjE_3 k h3 hk
theorem rjO {N k : Nat} {K : Int} (h1 : 1 ≤ N) (h2 : N ≤ 3) (h3 : 1 ≤ k) (hk : k < 12) (g2 : 2 ≤ K) (g5 : K ≤ 5) : RjO N k K := by
  have : N = 1 ∨ N = 2 ∨ N = 3 := by omega
  have hK : K = 2 ∨ K = 3 ∨ K = 4 ∨ K = 5 := by omega
  rcases this with rfl | rfl | rfl <;> rcases hK with rfl | rfl | rfl | rfl
  · exact rjO_1_K2 k h3 hk
  · exact rjO_1_K3 k h3 hk
  · exact rjO_1_K4 k h3 hk
  · exact rjO_1_K5 k h3 hk
  · exact rjO_2_K2 k h3 hk
  · exact rjO_2_K3 k h3 hk
  · exact rjO_2_K4 k h3 hk
  · exact rjO_2_K5 k h3 hk
  · exact rjO_3_K2 k h3 hk
  · exact rjO_3_K3 k h3 hk
  · exact rjO_3_K4 k h3 hk
  · exact rjO_3_K5 k h3 hk

/-! cells, one by one -/
theorem sz_fsl : sizeB Try.prog 37 1 = true := by kernel_rfl
theorem ty_fss : isSliceB Try.prog 38 37 = true := by kernel_rfl
theorem ixS {b n c : Nat} {A : Int} (h0 : 0 ≤ A) (h1 : A < n) {o : Nat} (ho : o = A.toNat) : indexAddrV Try.prog 38 (.slice (some ⟨b, 0, none⟩) n c) (.int .i64 A) = some (.pointer (some ⟨b, o, none⟩)) := by
  obtain ⟨i, hi, hz⟩ := sizeB_ex sz_fsl
  exact ix_slice (isSliceB_ex ty_fss) hi hz h0 h1 (by omega)
theorem rdS {H : AHeap} {b k : Nat} {B : ABlk} {l : List Value} {a : Value} (hb : H[b]? = some (some B)) (hc : B.cells = l.toArray) (hk : l[k]? = some a) {o : Nat} (ho : o = k) : readVar Try.prog H 37 ⟨b, o, none⟩ = some a :=
  rd_one (g := fun x : Value => x) (isPlainB_ex ty_fsP) hb (by rw [flatIdR, hc]) hk ho
theorem wrF {H : AHeap} {b k : Nat} {l : List Nat} {a : Nat} (hb : H[b]? = some (nwF l)) (hk : k < l.length) : writeVar Try.prog H 27 ⟨b, k, none⟩ (.float .f64 a) = some (H.setIfInBounds b (nwF (l.set k a))) := by
  obtain ⟨i, hi, hz⟩ := sizeB_ex sz_f
  exact wr_at (f := fC) (n := 1) (fun _ => rfl) hi hz (l := l) rfl rfl hb rfl rfl hk (by omega)
theorem wrS {H : AHeap} {b k : Nat} {l : List Value} {c n m : Nat} {o : Bool} (hb : H[b]? = some (some ⟨l.toArray, 37, 1, true⟩)) (hk : k < l.length) : writeVar Try.prog H 37 ⟨b, k, none⟩ (.slice (some ⟨c, 0, none⟩) n m) = some (H.setIfInBounds b (some ⟨(l.set k (.slice (some ⟨c, 0, none⟩) n m)).toArray, 37, 1, true⟩)) := by
  obtain ⟨i, hi, hz⟩ := sizeB_ex sz_fsl
  have := wr_at (P := Try.prog) (f := fun x : Value => [x]) (n := 1) (fun _ => rfl) (t := 37) hi hz (l := l) (a := .slice (some ⟨c, 0, none⟩) n m) (v := .slice (some ⟨c, 0, none⟩) n m) rfl rfl hb rfl (by rw [flatIdR]) hk (show k = k * 1 by omega)
  rw [flatIdR] at this
  exact this
theorem RRj_nodup : ∀ k, k < 12 → (RRj k).Nodup := by decide +kernel
theorem RRj_old : ∀ k, k < 12 → ∀ j, j < k → (RRj k).getD (6 + j) 0 = 6 + j := by decide +kernel
theorem RRj_new : ∀ k, k < 12 → (RRj k).getD (6 + k) 0 = 7 + k := by decide +kernel
theorem RRe_nodup : ∀ k, k < 13 → (RRe k).Nodup := by decide +kernel
theorem RRe_at : ∀ k, k < 13 → ∀ j, j < k → (RRe k).getD (6 + j) 0 = 6 + j := by decide +kernel
theorem RRj_lo (k : Nat) {b : Nat} (h : b < 6) : (RRj k).getD b 0 = b := by
  have : b = 0 ∨ b = 1 ∨ b = 2 ∨ b = 3 ∨ b = 4 ∨ b = 5 := by omega
  rcases this with rfl | rfl | rfl | rfl | rfl | rfl <;> rfl
theorem RRe_lo (k : Nat) {b : Nat} (h : b < 6) : (RRe k).getD b 0 = b := by
  have : b = 0 ∨ b = 1 ∨ b = 2 ∨ b = 3 ∨ b = 4 ∨ b = 5 := by omega
  rcases this with rfl | rfl | rfl | rfl | rfl | rfl <;> rfl
theorem relMap {z : Nat} {ρ : Nat → Nat} {f g : Nat → Value} : ∀ (l : List Nat), (∀ j ∈ l, RelA z ρ (f j) (g j)) → RelAs z ρ (l.map f) (l.map g)
  | [], _ => .nil
  | j :: l, h => .cons (h j (List.mem_cons_self ..)) (relMap l fun i hi => h i (List.mem_cons_of_mem _ hi))
theorem dl_set (N M k : Nat) : ((List.range M).map fun j => if j < k then slV (6 + j) N else .slice none 0 0).set k (slV (7 + k) N) = (List.range M).map fun j => if j < k then slV (6 + j) N else if j = k then slV (7 + k) N else .slice none 0 0 := by
  apply List.ext_getElem?
  intro j
  rw [List.getElem?_set]
  by_cases h : k = j
  · subst h
    rw [if_pos rfl]
    by_cases hk : k < M
    · rw [if_pos (by simp; exact hk), List.getElem?_map, List.getElem?_range hk, Option.map_some, if_neg (by omega), if_pos rfl]
    · rw [if_neg (by simp; omega), List.getElem?_eq_none (by simp; omega)]
  · rw [if_neg h, List.getElem?_map, List.getElem?_map]
    by_cases hj : j < M
    · rw [List.getElem?_range hj, Option.map_some, Option.map_some]
      by_cases h2 : j < k
      · rw [if_pos h2, if_pos h2]
      · rw [if_neg h2, if_neg h2, if_neg (fun e => h e.symm)]
    · rw [List.getElem?_eq_none (by simp; omega)]
      rfl
theorem one_set {N A : Nat} (h : A < N) (v : Nat) : ((List.range N).map fun j => if j < 0 then (fun _ => 0 : Nat → Nat) j else 0).set A v = (List.range N).map fun j => if A = j then v else 0 := by
  apply List.ext_getElem?
  intro j
  rw [List.getElem?_set]
  by_cases e : A = j
  · subst e
    rw [if_pos rfl, if_pos (by simp; exact h), List.getElem?_map, List.getElem?_range h, Option.map_some, if_pos rfl]
  · rw [if_neg e, List.getElem?_map, List.getElem?_map]
    by_cases hj : j < N
    · rw [List.getElem?_range hj, Option.map_some, Option.map_some, if_neg e, if_neg (Nat.not_lt_zero _)]
    · rw [List.getElem?_eq_none (by simp; omega)]
      rfl
section
variable {b0 b1 b2 : Option ABlk} {N : Nat} {ops : List OpD} {out : List Int} {xs : List Nat} {V : Nat → Nat} {S : Nat → Nat → Nat}
theorem HQ_len (M : Nat) (rl : List Nat) (dl : Option ABlk) (k : Nat) : (HQ b0 b1 b2 N M rl dl k S).length = 6 + k := by simp [HQ]; omega
theorem HQ_d {M : Nat} {rl : List Nat} {dl : Option ABlk} {k j : Nat} (h : j < k) (c : List (Option ABlk)) : (HQ b0 b1 b2 N M rl dl k S ++ c).toArray[6 + j]? = some (dJ N S j) := by
  rw [List.getElem?_toArray, List.getElem?_append_left (by rw [HQ_len]; omega)]
  unfold HQ
  rw [List.getElem?_append_right (by simp), List.getElem?_map]
  simp [List.getElem?_range h]
theorem HQ_new {M : Nat} {rl : List Nat} {dl : Option ABlk} {k : Nat} (o x : Option ABlk) : (HQ b0 b1 b2 N M rl dl k S ++ [o, x]).toArray[7 + k]? = some x := by
  rw [List.getElem?_toArray, List.getElem?_append_right (by rw [HQ_len]; omega), HQ_len]
  rw [show 7 + k - (6 + k) = 1 by omega]
  rfl
theorem HQ_setNew {M : Nat} {rl : List Nat} {dl : Option ABlk} {k : Nat} (o x y : Option ABlk) : (HQ b0 b1 b2 N M rl dl k S ++ [o, x]).toArray.setIfInBounds (7 + k) y = (HQ b0 b1 b2 N M rl dl k S ++ [o, y]).toArray := by
  apply Array.ext'
  rw [Array.toList_setIfInBounds, List.toList_toArray, List.toList_toArray, List.set_append_right _ _ (by rw [HQ_len]; omega), HQ_len]
  rw [show 7 + k - (6 + k) = 1 by omega]
  rfl
theorem entRj (p0 : PlO b0) (p1 : PlO b1) (p2 : PlO b2) (M : Nat) (rl : List Nat) (k : Nat) (hk : k < 12) {s : Nat → Nat} (hs : (List.range N).map s = (List.range N).map (S k)) :
    EntOK 3 [1, 2, 5, 6, 7] (RRj k) (outRj b0 b1 b2 N M rl k S s) (tmA 191 (LRj N M (k + 1))) (HQ b0 b1 b2 N M rl (dlB N M (k + 1)) (k + 1) S).toArray := by
  have hl : (HQ b0 b1 b2 N M rl (dlB N M (k + 1)) (k + 1) S).length = 7 + k := by rw [HQ_len]; omega
  refine entOK (H2 := HQ b0 b1 b2 N M rl (dlB N M (k + 1)) (k + 1) S) rfl rfl (RRj_nodup k hk) ?_ ?_
  · rw [hl]
    exact .cons (.slice 2 2 0 none _ _ _ (by omega) rfl) (.cons (.ptr 3 3 0 none (by omega) rfl) (.cons (.slice 4 4 0 none _ _ _ (by omega) rfl) (.cons (.slice 5 5 0 none _ _ _ (by omega) rfl) (.cons (.clos rfl) .nil))))
  · rw [hl]
    have e0 : (fun b => (RRj k).getD b 0) 0 = 0 := rfl
    refine relBs_pl p0 (relBs_pl p1 (relBs_pl p2 (tbE_relJ (ρ := fun b => (RRj k).getD b 0) (by omega) rfl rfl N M (relBs_own (plain_flat fC_cl rl 27 1 true) ?_))))
    refine .some (RelK.list (relMap (List.range M) fun j _ => ?_)) ?_
    · by_cases h1 : j < k
      · rw [if_pos (by omega), if_pos h1]
        exact .slice (6 + j) (6 + j) 0 none _ _ _ (by omega) (RRj_old k hk j h1)
      · by_cases h2 : j = k
        · rw [if_pos (by omega), if_neg h1, if_pos h2, h2]
          exact .slice (6 + k) (7 + k) 0 none _ _ _ (by omega) (RRj_new k hk)
        · rw [if_neg (by omega), if_neg h1, if_neg h2]
          exact .clos rfl
    · rw [hs]
      show RelBs _ _ ((List.range (k + 1)).map (dJ N S)) (((List.range k).map (dJ N S)).map some ++ [some (dJ N S k)])
      rw [List.range_succ, List.map_append, List.map_map]
      exact relBs_app (relBs_map (dJb N S) (dJ_cl N S) (List.range k)) (relBs_own (dJ_cl N S k) .nil)
theorem entRe (p0 : PlO b0) (p1 : PlO b1) (p2 : PlO b2) (M : Nat) (rl : List Nat) (k : Nat) (hk : k < 13) :
    EntOK 3 [1, 2, 5, 6, 7] (RRe k) (191, (LRj N M k).map (·.2), (HQ b0 b1 b2 N M rl (dlB N M k) k S).map some) (tmA 191 (LRj N M k)) (HQ b0 b1 b2 N M rl (dlB N M k) k S).toArray := by
  have hl := HQ_len (b0 := b0) (b1 := b1) (b2 := b2) (N := N) (S := S) M rl (dlB N M k) k
  refine entOK (H2 := HQ b0 b1 b2 N M rl (dlB N M k) k S) rfl rfl (RRe_nodup k hk) ?_ ?_
  · rw [hl]
    exact .cons (.slice 2 2 0 none _ _ _ (by omega) rfl) (.cons (.ptr 3 3 0 none (by omega) rfl) (.cons (.slice 4 4 0 none _ _ _ (by omega) rfl) (.cons (.slice 5 5 0 none _ _ _ (by omega) rfl) (.cons (.clos rfl) .nil))))
  · rw [hl]
    refine relBs_pl p0 (relBs_pl p1 (relBs_pl p2 (tbE_relJ (ρ := fun b => (RRe k).getD b 0) (by omega) rfl rfl N M (relBs_own (plain_flat fC_cl rl 27 1 true) ?_))))
    refine .some (RelK.list (relMap (List.range M) fun j _ => ?_)) ?_
    · by_cases h1 : j < k
      · rw [if_pos h1]
        exact .slice (6 + j) (6 + j) 0 none _ _ _ (by omega) (RRe_at k hk j h1)
      · rw [if_neg h1]
        exact .clos rfl
    · show RelBs _ _ ((List.range k).map (dJ N S)) (((List.range k).map (dJ N S)).map some)
      rw [List.map_map]
      exact relBs_map (dJb N S) (dJ_cl N S) (List.range k)
theorem hd_ok {M : Nat} (h : EvG fC b0 b1 b2 N ops out xs) {k : Nat} {o : OpD} (ho : ops[k]? = some o) (hM : ops.length = M) (rl : List Nat) : okAll Try.prog (hdO b0 b1 b2 N M rl k S o.K o.A o.B o.C ⟨0, k * 4, none⟩ ⟨5, k, none⟩) := by
  have hk : k < M := by rw [← hM]; exact (List.getElem?_eq_some_iff.1 ho).1
  have hd := h.head ho (H := HQ b0 b1 b2 N M rl (dlB N M k) k S) rfl
  rw [hM] at hd
  refine okApp' hd ⟨ixS (by simp) (by simpa using hk) (by simp), ?_, trivial⟩
  refine (wrS (o := true) (b := 5) (k := k) (l := (List.range M).map fun j => if j < k then slV (6 + j) N else .slice none 0 0) rfl (by simp; exact hk)).trans ?_
  rw [show (Value.slice (some ⟨7 + k, 0, none⟩) N N) = slV (7 + k) N from rfl, dl_set]
  rfl
/-- A register is written. -/
theorem wr_r {M : Nat} {k : Nat} (hk : k < M) (dl : Option ABlk) (c : List (Option ABlk)) {v : Nat} (hv : v = V k) : okAll Try.prog (lgW (HQ b0 b1 b2 N M (rL 0 V M k) dl k S ++ c) (HQ b0 b1 b2 N M (rL 0 V M (k + 1)) dl k S ++ c) 37 27 (slV 4 M) (Int.ofNat k) ⟨4, k, none⟩ (.float .f64 v)) := by
  refine ⟨ixF (by simp) (by simpa using hk) (by simp), ?_, trivial⟩
  subst hv
  refine (wrF (b := 4) (k := k) (l := rL 0 V M k) (a := V k) rfl (by rw [rL_len]; exact hk)).trans ?_
  rw [rL_set 0 V M k hk]
  rfl
theorem rd_r {M : Nat} {k n : Nat} {A : Int} (h0 : 0 ≤ A) (h1 : A < n) (hn : n ≤ M) (dl : Option ABlk) (c : List (Option ABlk)) : okAll Try.prog (lgX (HQ b0 b1 b2 N M (rL 0 V M n) dl k S ++ c) (slV 4 M) A ⟨4, A.toNat, none⟩ (V A.toNat)) :=
  ⟨ixF h0 (by omega) rfl, rdF (B := ⟨((rL 0 V M n).flatMap fC).toArray, 27, 1, true⟩) (l := rL 0 V M n) (k := A.toNat) rfl rfl (rL_get 0 V (by omega) (by omega)) rfl, trivial⟩
theorem rd_dk {M : Nat} {k : Nat} (hk : k < M) (rl : List Nat) (c : List (Option ABlk)) : okAll Try.prog (lgY (HQ b0 b1 b2 N M rl (dlX N M k) k S ++ c) (slV 5 M) (Int.ofNat k) ⟨5, k, none⟩ (slV (7 + k) N)) := by
  refine ⟨ixS (by simp) (by simpa using hk) (by simp), rdS (b := 5) (k := k) (l := (List.range M).map fun j => if j < k then slV (6 + j) N else if j = k then slV (7 + k) N else .slice none 0 0) rfl rfl ?_ rfl, trivial⟩
  rw [List.getElem?_map, List.getElem?_range hk, Option.map_some, if_neg (by omega), if_pos rfl]
theorem rd_da {M : Nat} {k : Nat} {A : Int} (h0 : 0 ≤ A) (h1 : A < k) (hk : k < M) (rl : List Nat) (c : List (Option ABlk)) : okAll Try.prog (lgY (HQ b0 b1 b2 N M rl (dlX N M k) k S ++ c) (slV 5 M) A ⟨5, A.toNat, none⟩ (slV (6 + A.toNat) N)) := by
  refine ⟨ixS h0 (by omega) rfl, rdS (b := 5) (k := A.toNat) (l := (List.range M).map fun j => if j < k then slV (6 + j) N else if j = k then slV (7 + k) N else .slice none 0 0) rfl rfl ?_ rfl, trivial⟩
  rw [List.getElem?_map, List.getElem?_range (by omega), Option.map_some, if_pos (by omega)]
theorem rd_s {M : Nat} {k a i : Nat} (ha : a < k) (hi : i < N) (rl : List Nat) (dl : Option ABlk) (c : List (Option ABlk)) : readVar Try.prog (HQ b0 b1 b2 N M rl dl k S ++ c).toArray 27 ⟨6 + a, i, none⟩ = some (.float .f64 (S a i)) :=
  rdF (B := dJb N S a) (l := (List.range N).map (S a)) (k := i) (HQ_d ha c) rfl (by rw [List.getElem?_map, List.getElem?_range hi]; rfl) rfl
theorem roundRj (h : EvG fC b0 b1 b2 N ops out xs) (p0 : PlO b0) (p1 : PlO b1) (p2 : PlO b2) (hV : ∀ k o, ops[k]? = some o → V k = vStep xs V o) (hS : ∀ k o, ops[k]? = some o → ∀ i, S k i = sStep V S (V k) o i)
    {M : Nat} (hM : ops.length = M) {k : Nat} {o : OpD} (ho : ops[k]? = some o) (hk : k < 12) (h1 : 1 ≤ N) (h3 : N ≤ 3) :
    CodeB Try.prog 3 bodyRj (tmA 191 (LRj N M k)) (HQ b0 b1 b2 N M (rL 0 V M k) (dlB N M k) k S).toArray (.normal, tmA 191 (LRj N M (k + 1)), (HQ b0 b1 b2 N M (rL 0 V M (k + 1)) (dlB N M (k + 1)) (k + 1) S).toArray) := by
  have hok := h.ok k o ho
  have hkM : k < M := by rw [← hM]; exact (List.getElem?_eq_some_iff.1 ho).1
  have hd := hd_ok (S := S) h ho hM (rL 0 V M k)
  have ev := hV k o ho
  have es := hS k o ho
  unfold vStep stepT at ev
  unfold sStep at es
  rcases hok with k0 | ⟨k1, a0, a1⟩ | ⟨k2, k5, a0, a1, q0, q1⟩
  · rw [if_pos k0] at ev
    simp only [k0, if_true] at es
    rw [k0] at hd
    refine rndB_toL (rjC h1 h3 hk b0 b1 b2 M (rL 0 V M k) (rL 0 V M (k + 1)) S o.A o.B o.C ⟨0, k * 4, none⟩ ⟨5, k, none⟩ ⟨4, k, none⟩) okRj (okApp' hd (wr_r hkM _ _ ev.symm)) (entRj p0 p1 p2 M _ k hk ?_)
    exact List.map_congr_left fun i _ => (es i).symm
  · have n0 : ¬ o.K = 0 := by omega
    rw [if_neg n0, if_pos k1] at ev
    simp only [k1, show ¬ (1 : Int) = 0 by decide, if_true, if_false] at es
    rw [k1] at hd
    have hx : xs[o.A.toNat]? = some (xs.getD o.A.toNat 0) := getD_at 0 (by rw [h.lx]; omega)
    obtain ⟨B2, hB2, hc2⟩ := h.m2
    refine rndB_toL (rjV h1 h3 hk b0 b1 b2 M (rL 0 V M k) (rL 0 V M (k + 1)) S o.A o.B o.C (xs.getD o.A.toNat 0) (fun j => if o.A.toNat = j then 4607182418800017408 else 0) ⟨0, k * 4, none⟩ ⟨5, k, none⟩ k o.A.toNat k o.A.toNat) okRj
      (okApp' (okApp' (okApp' (okApp' hd (rd_dk hkM _ _)) ⟨ixF a0 a1 rfl, rdF (B := B2) (l := xs) (k := o.A.toNat) (by rw [← hB2]; rfl) hc2 hx rfl, trivial⟩) (wr_r hkM _ _ ev.symm)) ⟨ixF a0 a1 rfl, ?_, trivial⟩) (entRj p0 p1 p2 M _ k hk ?_)
    · refine (wrF (b := 7 + k) (k := o.A.toNat) (l := (List.range N).map fun j => if j < 0 then (fun _ => 0 : Nat → Nat) j else 0) (a := 4607182418800017408) (HQ_new _ _) (by simp; omega)).trans ?_
      rw [one_set (by omega), HQ_setNew]
    · refine List.map_congr_left fun i _ => ?_
      rw [es i]
      by_cases e : o.A = (i : Int)
      · rw [if_pos e, if_pos (by omega)]
      · rw [if_neg e, if_neg (by omega)]
  · have n0 : ¬ o.K = 0 := by omega
    have n1 : ¬ o.K = 1 := by omega
    rw [if_neg n0, if_neg n1] at ev
    simp only [n0, n1, if_false] at es
    refine rndB_toL (rjO h1 h3 (by omega) hk k2 k5 b0 b1 b2 M (rL 0 V M k) (rL 0 V M (k + 1)) S o.A o.B o.C (V o.A.toNat) (V o.B.toNat) (V k) (S o.A.toNat) (S o.B.toNat) ⟨0, k * 4, none⟩ ⟨5, k, none⟩ ⟨4, o.A.toNat, none⟩ ⟨4, o.B.toNat, none⟩ ⟨4, k, none⟩ ⟨5, o.A.toNat, none⟩ ⟨5, o.B.toNat, none⟩ (6 + o.A.toNat) (6 + o.B.toNat)) okRj
      (okApp' (okApp' (okApp' (okApp' (okApp' hd (rd_r a0 a1 (by omega) _ _)) (rd_r q0 q1 (by omega) _ _)) (wr_r hkM _ _ ev.symm)) (each_ok _ _ fun i hi => ?_)) ⟨cmp_ok (decide_eq_false (by omega)), trivial⟩) (entRj p0 p1 p2 M _ k hk ?_)
    · have hin := List.mem_range.1 hi
      exact okApp' (okApp' (okApp' (okApp' (okApp' (okApp' (okApp' (okApp' ⟨cmp_ok (decide_eq_true hin), trivial⟩ (rd_dk hkM _ _)) (rd_r a0 (by omega) (by omega) _ _)) (rd_r q0 (by omega) (by omega) _ _)) (rd_r (A := Int.ofNat k) (n := k + 1) (by simp) (by simp; omega) (by omega) _ _)) (rd_da a0 a1 hkM _ _)) ⟨rd_s (by omega) hin _ _ _, trivial⟩) (rd_da q0 q1 hkM _ _)) ⟨rd_s (by omega) hin _ _ _, trivial⟩
    · exact List.map_congr_left fun i _ => (es i).symm
theorem roundsRj (h : EvG fC b0 b1 b2 N ops out xs) (p0 : PlO b0) (p1 : PlO b1) (p2 : PlO b2) (hV : ∀ k o, ops[k]? = some o → V k = vStep xs V o) (hS : ∀ k o, ops[k]? = some o → ∀ i, S k i = sStep V S (V k) o i)
    {M : Nat} (hM : ops.length = M) (h1 : 1 ≤ N) (h3 : N ≤ 3) (hM1 : M ≤ 12) (hM2 : 2 ≤ M) : ∀ (d k : Nat), k + d = M →
    RdsB Try.prog 3 bodyRj (tmA 191 (LRj N M k)) (HQ b0 b1 b2 N M (rL 0 V M k) (dlB N M k) k S).toArray (.exit 0, tmA 191 (LRj N M M), (HQ b0 b1 b2 N M (rL 0 V M M) (dlB N M M) M S).toArray)
  | 0, k, hk => by
    have e : k = M := by omega
    rw [e]
    exact .last (rndB_toL (rjE h1 h3 hM2 (by omega) b0 b1 b2 M _ S) okRj ⟨cmp_ok (decide_eq_false (by omega)), trivial⟩ (entRe p0 p1 p2 M _ _ (by omega))) (by simp)
  | d + 1, k, hk => by
    have hlt : k < ops.length := by omega
    exact .next (roundRj h p0 p1 p2 hV hS hM (List.getElem?_eq_getElem hlt) (by omega) h1 h3) (roundsRj h p0 p1 p2 hV hS hM h1 h3 hM1 hM2 d (k + 1) (by omega))
end

end Go.Proofs.Ytdlinjijccnaeaa
