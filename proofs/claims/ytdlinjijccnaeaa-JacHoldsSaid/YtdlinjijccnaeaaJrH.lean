/- JrF / JrG / JrH: several texts in one. -/
import Derived.Test.YtdlinjijccnaeaaJrR1
import Derived.Test.YtdlinjijccnaeaaJrR2
import Derived.Test.YtdlinjijccnaeaaJrR3
/-!  The document's Jac of numbers: its rounds in a row. -/
namespace Go.Proofs.Ytdlinjijccnaeaa
open Go
set_option linter.unusedVariables false
set_option linter.unusedSimpArgs false
set_option maxRecDepth 100000

theorem rjC {N k : Nat} (h1 : 1 ≤ N) (h2 : N ≤ 3) (hk : k < 12) : RjC N k := by
  have : N = 1 ∨ N = 2 ∨ N = 3 := by omega
  rcases this with rfl | rfl | rfl
  · exact rjC_1 k hk
  · exact rjC_2 k hk
  · exact rjC_3 k hk
theorem rjV {N k : Nat} (h1 : 1 ≤ N) (h2 : N ≤ 3) (hk : k < 12) : RjV N k := by
  have : N = 1 ∨ N = 2 ∨ N = 3 := by omega
  rcases this with rfl | rfl | rfl
  · exact rjV_1 k hk
  · exact rjV_2 k hk
  · exact rjV_3 k hk
theorem rjE {N k : Nat} (h1 : 1 ≤ N) (h2 : N ≤ 3) (h3 : 2 ≤ k) (hk : k < 13) : RjE N k := by
  have : N = 1 ∨ N = 2 ∨ N = 3 := by omega
  rcases this with rfl | rfl | rfl
  · exact rjE_1 k h3 hk
  · exact rjE_2 k h3 hk
  · exact rjE_3 k h3 hk
theorem rjO {N k : Nat} {K : Int} (h1 : 1 ≤ N) (h2 : N ≤ 3) (h3 : 1 ≤ k) (hk : k < 12) (g2 : 2 ≤ K) (g5 : K ≤ 5) : RjO N k K := by
  have : N = 1 ∨ N = 2 ∨ N = 3 := by omega
  have hK : K = 2 ∨ K = 3 ∨ K = 4 ∨ K = 5 := by omega
  rcases this with rfl | rfl | rfl <;> rcases hK with rfl | rfl | rfl | rfl
  · exact rjO_1_K2 k h3 hk
  · exact rjO_1_K3 k h3 hk
  · exact rjO_1_K4 k h3 hk
  · exact rjO_1_K5 k h3 hk
  · exact rjO_2_K2 k h3 hk
  · exact rjO_2_K3 k h3 hk
  · exact rjO_2_K4 k h3 hk
  · exact rjO_2_K5 k h3 hk
  · exact rjO_3_K2 k h3 hk
  · exact rjO_3_K3 k h3 hk
  · exact rjO_3_K4 k h3 hk
  · exact rjO_3_K5 k h3 hk

/-! cells, one by one -/
theorem sz_fsl : sizeB Try.prog 37 1 = true := by kernel_rfl
theorem ty_fss : isSliceB Try.prog 38 37 = true := by kernel_rfl
theorem ixS {b n c : Nat} {A : Int} (h0 : 0 ≤ A) (h1 : A < n) {o : Nat} (ho : o = A.toNat) : indexAddrV Try.prog 38 (.slice (some ⟨b, 0, none⟩) n c) (.int .i64 A) = some (.pointer (some ⟨b, o, none⟩)) := by
  obtain ⟨i, hi, hz⟩ := sizeB_ex sz_fsl
  exact ix_slice (isSliceB_ex ty_fss) hi hz h0 h1 (by omega)
theorem rdS {H : AHeap} {b k : Nat} {B : ABlk} {l : List Value} {a : Value} (hb : H[b]? = some (some B)) (hc : B.cells = l.toArray) (hk : l[k]? = some a) {o : Nat} (ho : o = k) : readVar Try.prog H 37 ⟨b, o, none⟩ = some a :=
  rd_one (g := fun x : Value => x) (isPlainB_ex ty_fsP) hb (by rw [flatIdR, hc]) hk ho
theorem wrF {H : AHeap} {b k : Nat} {l : List Nat} {a : Nat} (hb : H[b]? = some (nwF l)) (hk : k < l.length) : writeVar Try.prog H 27 ⟨b, k, none⟩ (.float .f64 a) = some (H.setIfInBounds b (nwF (l.set k a))) := by
  obtain ⟨i, hi, hz⟩ := sizeB_ex sz_f
  exact wr_at (f := fC) (n := 1) (fun _ => rfl) hi hz (l := l) rfl rfl hb rfl rfl hk (by omega)
theorem wrS {H : AHeap} {b k : Nat} {l : List Value} {c n m : Nat} {o : Bool} (hb : H[b]? = some (some ⟨l.toArray, 37, 1, true⟩)) (hk : k < l.length) : writeVar Try.prog H 37 ⟨b, k, none⟩ (.slice (some ⟨c, 0, none⟩) n m) = some (H.setIfInBounds b (some ⟨(l.set k (.slice (some ⟨c, 0, none⟩) n m)).toArray, 37, 1, true⟩)) := by
  obtain ⟨i, hi, hz⟩ := sizeB_ex sz_fsl
  have := wr_at (P := Try.prog) (f := fun x : Value => [x]) (n := 1) (fun _ => rfl) (t := 37) hi hz (l := l) (a := .slice (some ⟨c, 0, none⟩) n m) (v := .slice (some ⟨c, 0, none⟩) n m) rfl rfl hb rfl (by rw [flatIdR]) hk (show k = k * 1 by omega)
  rw [flatIdR] at this
  exact this
theorem RRj_nodup : ∀ k, k < 12 → (RRj k).Nodup := by decide +kernel
theorem RRj_old : ∀ k, k < 12 → ∀ j, j < k → (RRj k).getD (6 + j) 0 = 6 + j := by decide +kernel
theorem RRj_new : ∀ k, k < 12 → (RRj k).getD (6 + k) 0 = 7 + k := by decide +kernel
theorem RRe_nodup : ∀ k, k < 13 → (RRe k).Nodup := by decide +kernel
theorem RRe_at : ∀ k, k < 13 → ∀ j, j < k → (RRe k).getD (6 + j) 0 = 6 + j := by decide +kernel
theorem RRj_lo (k : Nat) {b : Nat} (h : b < 6) : (RRj k).getD b 0 = b := by
  have : b = 0 ∨ b = 1 ∨ b = 2 ∨ b = 3 ∨ b = 4 ∨ b = 5 := by omega
  rcases this with rfl | rfl | rfl | rfl | rfl | rfl <;> rfl
theorem RRe_lo (k : Nat) {b : Nat} (h : b < 6) : (RRe k).getD b 0 = b := by
  have : b = 0 ∨ b = 1 ∨ b = 2 ∨ b = 3 ∨ b = 4 ∨ b = 5 := by omega
  rcases this with rfl | rfl | rfl | rfl | rfl | rfl <;> rfl
theorem relMap {z : Nat} {ρ : Nat → Nat} {f g : Nat → Value} : ∀ (l : List Nat), (∀ j ∈ l, RelA z ρ (f j) (g j)) → RelAs z ρ (l.map f) (l.map g)
  | [], _ => .nil
  | j :: l, h => .cons (h j (List.mem_cons_self ..)) (relMap l fun i hi => h i (List.mem_cons_of_mem _ hi))
theorem dl_set (N M k : Nat) : ((List.range M).map fun j => if j < k then slV (6 + j) N else .slice none 0 0).set k (slV (7 + k) N) = (List.range M).map fun j => if j < k then slV (6 + j) N else if j = k then slV (7 + k) N else .slice none 0 0 := by
  apply List.ext_getElem?
  intro j
  rw [List.getElem?_set]
  by_cases h : k = j
  · subst h
    rw [if_pos rfl]
    by_cases hk : k < M
    · rw [if_pos (by simp; exact hk), List.getElem?_map, List.getElem?_range hk, Option.map_some, if_neg (by omega), if_pos rfl]
    · rw [if_neg (by simp; omega), List.getElem?_eq_none (by simp; omega)]
  · rw [if_neg h, List.getElem?_map, List.getElem?_map]
    by_cases hj : j < M
    · rw [List.getElem?_range hj, Option.map_some, Option.map_some]
      by_cases h2 : j < k
      · rw [if_pos h2, if_pos h2]
      · rw [if_neg h2, if_neg h2, if_neg (fun e => h e.symm)]
    · rw [List.getElem?_eq_none (by simp; omega)]
      rfl
theorem one_set {N A : Nat} (h : A < N) (v : Nat) : ((List.range N).map fun j => if j < 0 then (fun _ => 0 : Nat → Nat) j else 0).set A v = (List.range N).map fun j => if A = j then v else 0 := by
  apply List.ext_getElem?
  intro j
  rw [List.getElem?_set]
  by_cases e : A = j
  · subst e
    rw [if_pos rfl, if_pos (by simp; exact h), List.getElem?_map, List.getElem?_range h, Option.map_some, if_pos rfl]
  · rw [if_neg e, List.getElem?_map, List.getElem?_map]
    by_cases hj : j < N
    · rw [List.getElem?_range hj, Option.map_some, Option.map_some, if_neg e, if_neg (Nat.not_lt_zero _)]
    · rw [List.getElem?_eq_none (by simp; omega)]
      rfl
section
variable {b0 b1 b2 : Option ABlk} {N : Nat} {ops : List OpD} {out : List Int} {xs : List Nat} {V : Nat → Nat} {S : Nat → Nat → Nat}
theorem HQ_len (M : Nat) (rl : List Nat) (dl : Option ABlk) (k : Nat) : (HQ b0 b1 b2 N M rl dl k S).length = 6 + k := by simp [HQ]; omega
theorem HQ_d {M : Nat} {rl : List Nat} {dl : Option ABlk} {k j : Nat} (h : j < k) (c : List (Option ABlk)) : (HQ b0 b1 b2 N M rl dl k S ++ c).toArray[6 + j]? = some (dJ N S j) := by
  rw [List.getElem?_toArray, List.getElem?_append_left (by rw [HQ_len]; omega)]
  unfold HQ
  rw [List.getElem?_append_right (by simp), List.getElem?_map]
  simp [List.getElem?_range h]
theorem HQ_new {M : Nat} {rl : List Nat} {dl : Option ABlk} {k : Nat} (o x : Option ABlk) : (HQ b0 b1 b2 N M rl dl k S ++ [o, x]).toArray[7 + k]? = some x := by
  rw [List.getElem?_toArray, List.getElem?_append_right (by rw [HQ_len]; omega), HQ_len]
  rw [show 7 + k - (6 + k) = 1 by omega]
  rfl
theorem HQ_setNew {M : Nat} {rl : List Nat} {dl : Option ABlk} {k : Nat} (o x y : Option ABlk) : (HQ b0 b1 b2 N M rl dl k S ++ [o, x]).toArray.setIfInBounds (7 + k) y = (HQ b0 b1 b2 N M rl dl k S ++ [o, y]).toArray := by
  apply Array.ext'
  rw [Array.toList_setIfInBounds, List.toList_toArray, List.toList_toArray, List.set_append_right _ _ (by rw [HQ_len]; omega), HQ_len]
  rw [show 7 + k - (6 + k) = 1 by omega]
  rfl
theorem entRj (p0 : PlO b0) (p1 : PlO b1) (p2 : PlO b2) (M : Nat) (rl : List Nat) (k : Nat) (hk : k < 12) {s : Nat → Nat} (hs : (List.range N).map s = (List.range N).map (S k)) :
    EntOK 3 [1, 2, 5, 6, 7] (RRj k) (outRj b0 b1 b2 N M rl k S s) (tmA 191 (LRj N M (k + 1))) (HQ b0 b1 b2 N M rl (dlB N M (k + 1)) (k + 1) S).toArray := by
  have hl : (HQ b0 b1 b2 N M rl (dlB N M (k + 1)) (k + 1) S).length = 7 + k := by rw [HQ_len]; omega
  refine entOK (H2 := HQ b0 b1 b2 N M rl (dlB N M (k + 1)) (k + 1) S) rfl rfl (RRj_nodup k hk) ?_ ?_
  · rw [hl]
    exact .cons (.slice 2 2 0 none _ _ _ (by omega) rfl) (.cons (.ptr 3 3 0 none (by omega) rfl) (.cons (.slice 4 4 0 none _ _ _ (by omega) rfl) (.cons (.slice 5 5 0 none _ _ _ (by omega) rfl) (.cons (.clos rfl) .nil))))
  · rw [hl]
    have e0 : (fun b => (RRj k).getD b 0) 0 = 0 := rfl
    refine relBs_pl p0 (relBs_pl p1 (relBs_pl p2 (tbE_relJ (ρ := fun b => (RRj k).getD b 0) (by omega) rfl rfl N M (relBs_own (plain_flat fC_cl rl 27 1 true) ?_))))
    refine .some (RelK.list (relMap (List.range M) fun j _ => ?_)) ?_
    · by_cases h1 : j < k
      · rw [if_pos (by omega), if_pos h1]
        exact .slice (6 + j) (6 + j) 0 none _ _ _ (by omega) (RRj_old k hk j h1)
      · by_cases h2 : j = k
        · rw [if_pos (by omega), if_neg h1, if_pos h2, h2]
          exact .slice (6 + k) (7 + k) 0 none _ _ _ (by omega) (RRj_new k hk)
        · rw [if_neg (by omega), if_neg h1, if_neg h2]
          exact .clos rfl
    · rw [hs]
      show RelBs _ _ ((List.range (k + 1)).map (dJ N S)) (((List.range k).map (dJ N S)).map some ++ [some (dJ N S k)])
      rw [List.range_succ, List.map_append, List.map_map]
      exact relBs_app (relBs_map (dJb N S) (dJ_cl N S) (List.range k)) (relBs_own (dJ_cl N S k) .nil)
theorem entRe (p0 : PlO b0) (p1 : PlO b1) (p2 : PlO b2) (M : Nat) (rl : List Nat) (k : Nat) (hk : k < 13) :
    EntOK 3 [1, 2, 5, 6, 7] (RRe k) (191, (LRj N M k).map (·.2), (HQ b0 b1 b2 N M rl (dlB N M k) k S).map some) (tmA 191 (LRj N M k)) (HQ b0 b1 b2 N M rl (dlB N M k) k S).toArray := by
  have hl := HQ_len (b0 := b0) (b1 := b1) (b2 := b2) (N := N) (S := S) M rl (dlB N M k) k
  refine entOK (H2 := HQ b0 b1 b2 N M rl (dlB N M k) k S) rfl rfl (RRe_nodup k hk) ?_ ?_
  · rw [hl]
    exact .cons (.slice 2 2 0 none _ _ _ (by omega) rfl) (.cons (.ptr 3 3 0 none (by omega) rfl) (.cons (.slice 4 4 0 none _ _ _ (by omega) rfl) (.cons (.slice 5 5 0 none _ _ _ (by omega) rfl) (.cons (.clos rfl) .nil))))
  · rw [hl]
    refine relBs_pl p0 (relBs_pl p1 (relBs_pl p2 (tbE_relJ (ρ := fun b => (RRe k).getD b 0) (by omega) rfl rfl N M (relBs_own (plain_flat fC_cl rl 27 1 true) ?_))))
    refine .some (RelK.list (relMap (List.range M) fun j _ => ?_)) ?_
    · by_cases h1 : j < k
      · rw [if_pos h1]
        exact .slice (6 + j) (6 + j) 0 none _ _ _ (by omega) (RRe_at k hk j h1)
      · rw [if_neg h1]
        exact .clos rfl
    · show RelBs _ _ ((List.range k).map (dJ N S)) (((List.range k).map (dJ N S)).map some)
      rw [List.map_map]
      exact relBs_map (dJb N S) (dJ_cl N S) (List.range k)
theorem hd_ok {M : Nat} (h : EvG fC b0 b1 b2 N ops out xs) {k : Nat} {o : OpD} (ho : ops[k]? = some o) (hM : ops.length = M) (rl : List Nat) : okAll Try.prog (hdO b0 b1 b2 N M rl k S o.K o.A o.B o.C ⟨0, k * 4, none⟩ ⟨5, k, none⟩) := by
  have hk : k < M := by rw [← hM]; exact (List.getElem?_eq_some_iff.1 ho).1
  have hd := h.head ho (H := HQ b0 b1 b2 N M rl (dlB N M k) k S) rfl
  rw [hM] at hd
  refine okApp' hd ⟨ixS (by simp) (by simpa using hk) (by simp), ?_, trivial⟩
  refine (wrS (o := true) (b := 5) (k := k) (l := (List.range M).map fun j => if j < k then slV (6 + j) N else .slice none 0 0) rfl (by simp; exact hk)).trans ?_
  rw [show (Value.slice (some ⟨7 + k, 0, none⟩) N N) = slV (7 + k) N from rfl, dl_set]
  rfl
/-- A register is written. -/
theorem wr_r {M : Nat} {k : Nat} (hk : k < M) (dl : Option ABlk) (c : List (Option ABlk)) {v : Nat} (hv : v = V k) : okAll Try.prog (lgW (HQ b0 b1 b2 N M (rL 0 V M k) dl k S ++ c) (HQ b0 b1 b2 N M (rL 0 V M (k + 1)) dl k S ++ c) 37 27 (slV 4 M) (Int.ofNat k) ⟨4, k, none⟩ (.float .f64 v)) := by
  refine ⟨ixF (by simp) (by simpa using hk) (by simp), ?_, trivial⟩
  subst hv
  refine (wrF (b := 4) (k := k) (l := rL 0 V M k) (a := V k) rfl (by rw [rL_len]; exact hk)).trans ?_
  rw [rL_set 0 V M k hk]
  rfl
theorem rd_r {M : Nat} {k n : Nat} {A : Int} (h0 : 0 ≤ A) (h1 : A < n) (hn : n ≤ M) (dl : Option ABlk) (c : List (Option ABlk)) : okAll Try.prog (lgX (HQ b0 b1 b2 N M (rL 0 V M n) dl k S ++ c) (slV 4 M) A ⟨4, A.toNat, none⟩ (V A.toNat)) :=
  ⟨ixF h0 (by omega) rfl, rdF (B := ⟨((rL 0 V M n).flatMap fC).toArray, 27, 1, true⟩) (l := rL 0 V M n) (k := A.toNat) rfl rfl (rL_get 0 V (by omega) (by omega)) rfl, trivial⟩
theorem rd_dk {M : Nat} {k : Nat} (hk : k < M) (rl : List Nat) (c : List (Option ABlk)) : okAll Try.prog (lgY (HQ b0 b1 b2 N M rl (dlX N M k) k S ++ c) (slV 5 M) (Int.ofNat k) ⟨5, k, none⟩ (slV (7 + k) N)) := by
  refine ⟨ixS (by simp) (by simpa using hk) (by simp), rdS (b := 5) (k := k) (l := (List.range M).map fun j => if j < k then slV (6 + j) N else if j = k then slV (7 + k) N else .slice none 0 0) rfl rfl ?_ rfl, trivial⟩
  rw [List.getElem?_map, List.getElem?_range hk, Option.map_some, if_neg (by omega), if_pos rfl]
theorem rd_da {M : Nat} {k : Nat} {A : Int} (h0 : 0 ≤ A) (h1 : A < k) (hk : k < M) (rl : List Nat) (c : List (Option ABlk)) : okAll Try.prog (lgY (HQ b0 b1 b2 N M rl (dlX N M k) k S ++ c) (slV 5 M) A ⟨5, A.toNat, none⟩ (slV (6 + A.toNat) N)) := by
  refine ⟨ixS h0 (by omega) rfl, rdS (b := 5) (k := A.toNat) (l := (List.range M).map fun j => if j < k then slV (6 + j) N else if j = k then slV (7 + k) N else .slice none 0 0) rfl rfl ?_ rfl, trivial⟩
  rw [List.getElem?_map, List.getElem?_range (by omega), Option.map_some, if_pos (by omega)]
theorem rd_s {M : Nat} {k a i : Nat} (ha : a < k) (hi : i < N) (rl : List Nat) (dl : Option ABlk) (c : List (Option ABlk)) : readVar Try.prog (HQ b0 b1 b2 N M rl dl k S ++ c).toArray 27 ⟨6 + a, i, none⟩ = some (.float .f64 (S a i)) :=
  rdF (B := dJb N S a) (l := (List.range N).map (S a)) (k := i) (HQ_d ha c) rfl (by rw [List.getElem?_map, List.getElem?_range hi]; rfl) rfl
theorem roundRj (h : EvG fC b0 b1 b2 N ops out xs) (p0 : PlO b0) (p1 : PlO b1) (p2 : PlO b2) (hV : ∀ k o, ops[k]? = some o → V k = vStep xs V o) (hS : ∀ k o, ops[k]? = some o → ∀ i, S k i = sStep V S (V k) o i)
    {M : Nat} (hM : ops.length = M) {k : Nat} {o : OpD} (ho : ops[k]? = some o) (hk : k < 12) (h1 : 1 ≤ N) (h3 : N ≤ 3) :
    CodeB Try.prog 3 bodyRj (tmA 191 (LRj N M k)) (HQ b0 b1 b2 N M (rL 0 V M k) (dlB N M k) k S).toArray (.normal, tmA 191 (LRj N M (k + 1)), (HQ b0 b1 b2 N M (rL 0 V M (k + 1)) (dlB N M (k + 1)) (k + 1) S).toArray) := by
  have hok := h.ok k o ho
  have hkM : k < M := by rw [← hM]; exact (List.getElem?_eq_some_iff.1 ho).1
  have hd := hd_ok (S := S) h ho hM (rL 0 V M k)
  have ev := hV k o ho
  have es := hS k o ho
  unfold vStep stepT at ev
  unfold sStep at es
  rcases hok with k0 | ⟨k1, a0, a1⟩ | ⟨k2, k5, a0, a1, q0, q1⟩
  · rw [if_pos k0] at ev
    simp only [k0, if_true] at es
    rw [k0] at hd
    refine rndB_toL (rjC h1 h3 hk b0 b1 b2 M (rL 0 V M k) (rL 0 V M (k + 1)) S o.A o.B o.C ⟨0, k * 4, none⟩ ⟨5, k, none⟩ ⟨4, k, none⟩) okRj (okApp' hd (wr_r hkM _ _ ev.symm)) (entRj p0 p1 p2 M _ k hk ?_)
    exact List.map_congr_left fun i _ => (es i).symm
  · have n0 : ¬ o.K = 0 := by omega
    rw [if_neg n0, if_pos k1] at ev
    simp only [k1, show ¬ (1 : Int) = 0 by decide, if_true, if_false] at es
    rw [k1] at hd
    have hx : xs[o.A.toNat]? = some (xs.getD o.A.toNat 0) := getD_at 0 (by rw [h.lx]; omega)
    obtain ⟨B2, hB2, hc2⟩ := h.m2
    refine rndB_toL (rjV h1 h3 hk b0 b1 b2 M (rL 0 V M k) (rL 0 V M (k + 1)) S o.A o.B o.C (xs.getD o.A.toNat 0) (fun j => if o.A.toNat = j then 4607182418800017408 else 0) ⟨0, k * 4, none⟩ ⟨5, k, none⟩ k o.A.toNat k o.A.toNat) okRj
      (okApp' (okApp' (okApp' (okApp' hd (rd_dk hkM _ _)) ⟨ixF a0 a1 rfl, rdF (B := B2) (l := xs) (k := o.A.toNat) (by rw [← hB2]; rfl) hc2 hx rfl, trivial⟩) (wr_r hkM _ _ ev.symm)) ⟨ixF a0 a1 rfl, ?_, trivial⟩) (entRj p0 p1 p2 M _ k hk ?_)
    · refine (wrF (b := 7 + k) (k := o.A.toNat) (l := (List.range N).map fun j => if j < 0 then (fun _ => 0 : Nat → Nat) j else 0) (a := 4607182418800017408) (HQ_new _ _) (by simp; omega)).trans ?_
      rw [one_set (by omega), HQ_setNew]
    · refine List.map_congr_left fun i _ => ?_
      rw [es i]
      by_cases e : o.A = (i : Int)
      · rw [if_pos e, if_pos (by omega)]
      · rw [if_neg e, if_neg (by omega)]
  · have n0 : ¬ o.K = 0 := by omega
    have n1 : ¬ o.K = 1 := by omega
    rw [if_neg n0, if_neg n1] at ev
    simp only [n0, n1, if_false] at es
    refine rndB_toL (rjO h1 h3 (by omega) hk k2 k5 b0 b1 b2 M (rL 0 V M k) (rL 0 V M (k + 1)) S o.A o.B o.C (V o.A.toNat) (V o.B.toNat) (V k) (S o.A.toNat) (S o.B.toNat) ⟨0, k * 4, none⟩ ⟨5, k, none⟩ ⟨4, o.A.toNat, none⟩ ⟨4, o.B.toNat, none⟩ ⟨4, k, none⟩ ⟨5, o.A.toNat, none⟩ ⟨5, o.B.toNat, none⟩ (6 + o.A.toNat) (6 + o.B.toNat)) okRj
      (okApp' (okApp' (okApp' (okApp' (okApp' hd (rd_r a0 a1 (by omega) _ _)) (rd_r q0 q1 (by omega) _ _)) (wr_r hkM _ _ ev.symm)) (each_ok _ _ fun i hi => ?_)) ⟨cmp_ok (decide_eq_false (by omega)), trivial⟩) (entRj p0 p1 p2 M _ k hk ?_)
    · have hin := List.mem_range.1 hi
      exact okApp' (okApp' (okApp' (okApp' (okApp' (okApp' (okApp' (okApp' ⟨cmp_ok (decide_eq_true hin), trivial⟩ (rd_dk hkM _ _)) (rd_r a0 (by omega) (by omega) _ _)) (rd_r q0 (by omega) (by omega) _ _)) (rd_r (A := Int.ofNat k) (n := k + 1) (by simp) (by simp; omega) (by omega) _ _)) (rd_da a0 a1 hkM _ _)) ⟨rd_s (by omega) hin _ _ _, trivial⟩) (rd_da q0 q1 hkM _ _)) ⟨rd_s (by omega) hin _ _ _, trivial⟩
    · exact List.map_congr_left fun i _ => (es i).symm
theorem roundsRj (h : EvG fC b0 b1 b2 N ops out xs) (p0 : PlO b0) (p1 : PlO b1) (p2 : PlO b2) (hV : ∀ k o, ops[k]? = some o → V k = vStep xs V o) (hS : ∀ k o, ops[k]? = some o → ∀ i, S k i = sStep V S (V k) o i)
    {M : Nat} (hM : ops.length = M) (h1 : 1 ≤ N) (h3 : N ≤ 3) (hM1 : M ≤ 12) (hM2 : 2 ≤ M) : ∀ (d k : Nat), k + d = M →
    RdsB Try.prog 3 bodyRj (tmA 191 (LRj N M k)) (HQ b0 b1 b2 N M (rL 0 V M k) (dlB N M k) k S).toArray (.exit 0, tmA 191 (LRj N M M), (HQ b0 b1 b2 N M (rL 0 V M M) (dlB N M M) M S).toArray)
  | 0, k, hk => by
    have e : k = M := by omega
    rw [e]
    exact .last (rndB_toL (rjE h1 h3 hM2 (by omega) b0 b1 b2 M _ S) okRj ⟨cmp_ok (decide_eq_false (by omega)), trivial⟩ (entRe p0 p1 p2 M _ _ (by omega))) (by simp)
  | d + 1, k, hk => by
    have hlt : k < ops.length := by omega
    exact .next (roundRj h p0 p1 p2 hV hS hM (List.getElem?_eq_getElem hlt) (by omega) h1 h3) (roundsRj h p0 p1 p2 hV hS hM h1 h3 hM1 hM2 d (k + 1) (by omega))
end

end Go.Proofs.Ytdlinjijccnaeaa

/-!  The document's Jac of numbers about its rounds. -/
namespace Go.Proofs.Ytdlinjijccnaeaa
open Go
set_option linter.unusedVariables false
set_option linter.unusedSimpArgs false
set_option maxRecDepth 100000

/-- What is left behind, as far as the i-th row: an empty row, the row, its slice, the rows' slices. -/
def lfJ (c N : Nat) (R : Nat → Nat → Nat) (i : Nat) : List (Option ABlk) := (List.range i).flatMap fun j => [none, nwF ((List.range N).map (R j)), some ⟨#[slV (c + 1 + 4 * j) N], 37, 1, true⟩, if j + 1 = i then some ⟨((List.range i).map fun j => slV (c + 1 + 4 * j) N).toArray, 37, 1, true⟩ else none]
noncomputable def lgH (H : List (Option ABlk)) (c N M : Nat) (u : Nat → Int) (p : Nat → Addr) (d : Nat → Nat) (R : Nat → Nat → Nat) : List Obl :=
  (List.range N).flatMap (fun i => [.cmp .lss 3 (.int .i64 (Int.ofNat i)) (.int .i64 (Int.ofNat N)) true, .ex (readVar Try.prog (H ++ lfJ c N R i ++ [nwF []]).toArray 3 ⟨1, i, none⟩ = some (.int .i64 (u i))),
    .ex (indexAddrV Try.prog 38 (slV 5 M) (.int .i64 (u i)) = some (.pointer (some (p i)))), .ex (readVar Try.prog (H ++ lfJ c N R i ++ [nwF []]).toArray 37 (p i) = some (slV (d i) N)),
    .ex (appendV Try.prog (H ++ lfJ c N R i ++ [nwF []]).toArray 37 37 (slV (c + 4 * i) 0) (slV (d i) N) = some (slV (c + 1 + 4 * i) N, (H ++ lfJ c N R i ++ [none, nwF ((List.range N).map (R i))]).toArray))]) ++
  [.cmp .lss 3 (.int .i64 (Int.ofNat N)) (.int .i64 (Int.ofNat N)) false]
def FinRj (N M : Nat) : Prop := ∀ (b0 b1 b2 : Option ABlk) (rl0 rl : List Nat) (S : Nat → Nat → Nat) (u : Nat → Int) (p : Nat → Addr) (d : Nat → Nat) (R : Nat → Nat → Nat),
  (askTB askRj lssC 25 #[tpV 0 1 N M, slV 2 N] #[b0, b1, b2] ([mAnsT (slV 4 M) [b0, b1, b2, tbE N M, nwF rl0], mAnsT (slV 5 M) (HQ b0 b1 b2 N M rl0 (dlB N M 0) 0 S)] ++ (List.range N).flatMap (fun i => [yes true, vAns (.int .i64 (u i)), pAnsT (p i), vAns (slV (d i) N), mAnsT (slV (6 + M + 1 + 4 * i) N) (HQ b0 b1 b2 N M rl (dlB N M M) M S ++ lfJ (6 + M) N R i ++ [none, nwF ((List.range N).map (R i))])]) ++ [yes false])
    [some ⟨.exit 0, tmA 191 (LRj N M M), (HQ b0 b1 b2 N M rl (dlB N M M) M S).toArray⟩, none]).map (fun r => (r.1, r.2.1, r.2.2.1, slL [([1, 2, 5, 6, 7], RRe 0)] r.2.2.2)) =
  some (slV (6 + M + 4 * N - 1) N, (HQ b0 b1 b2 N M rl (dlB N M M) M S ++ lfJ (6 + M) N R N).toArray,
    [.ex (makeSliceV Try.prog [b0, b1, b2, tbE N M].toArray 37 (.int .i64 M) (.int .i64 M) = some (slV 4 M, [b0, b1, b2, tbE N M, nwF rl0].toArray)), .ex (makeSliceV Try.prog [b0, b1, b2, tbE N M, nwF rl0].toArray 38 (.int .i64 M) (.int .i64 M) = some (slV 5 M, (HQ b0 b1 b2 N M rl0 (dlB N M 0) 0 S).toArray))] ++
      lgH (HQ b0 b1 b2 N M rl (dlB N M M) M S) (6 + M) N M u p d R,
    [(bodyRj, (191, (LRj N M 0).map (·.2), (HQ b0 b1 b2 N M rl0 (dlB N M 0) 0 S).map some), (.exit 0, tmA 191 (LRj N M M), (HQ b0 b1 b2 N M rl (dlB N M M) M S).toArray))])
theorem finRj_1_2 : FinRj 1 2 := fun _ _ _ _ _ _ _ _ _ _ => by kernel_rfl
theorem finRj_1_3 : FinRj 1 3 := fun _ _ _ _ _ _ _ _ _ _ => by kernel_rfl
theorem finRj_1_4 : FinRj 1 4 := fun _ _ _ _ _ _ _ _ _ _ => by kernel_rfl
theorem finRj_1_5 : FinRj 1 5 := fun _ _ _ _ _ _ _ _ _ _ => by kernel_rfl
theorem finRj_1_6 : FinRj 1 6 := fun _ _ _ _ _ _ _ _ _ _ => by kernel_rfl
theorem finRj_1_7 : FinRj 1 7 := fun _ _ _ _ _ _ _ _ _ _ => by kernel_rfl
theorem finRj_1_8 : FinRj 1 8 := fun _ _ _ _ _ _ _ _ _ _ => by kernel_rfl
theorem finRj_1_9 : FinRj 1 9 := fun _ _ _ _ _ _ _ _ _ _ => by kernel_rfl
theorem finRj_1_10 : FinRj 1 10 := fun _ _ _ _ _ _ _ _ _ _ => by kernel_rfl
theorem finRj_1_11 : FinRj 1 11 := fun _ _ _ _ _ _ _ _ _ _ => by kernel_rfl
theorem finRj_1_12 : FinRj 1 12 := fun _ _ _ _ _ _ _ _ _ _ => by kernel_rfl
theorem finRj_2_2 : FinRj 2 2 := fun _ _ _ _ _ _ _ _ _ _ => by kernel_rfl
theorem finRj_2_3 : FinRj 2 3 := fun _ _ _ _ _ _ _ _ _ _ => by kernel_rfl
theorem finRj_2_4 : FinRj 2 4 := fun _ _ _ _ _ _ _ _ _ _ => by kernel_rfl
theorem finRj_2_5 : FinRj 2 5 := fun _ _ _ _ _ _ _ _ _ _ => by kernel_rfl
theorem finRj_2_6 : FinRj 2 6 := fun _ _ _ _ _ _ _ _ _ _ => by kernel_rfl
theorem finRj_2_7 : FinRj 2 7 := fun _ _ _ _ _ _ _ _ _ _ => by kernel_rfl
theorem finRj_2_8 : FinRj 2 8 := fun _ _ _ _ _ _ _ _ _ _ => by kernel_rfl
theorem finRj_2_9 : FinRj 2 9 := fun _ _ _ _ _ _ _ _ _ _ => by kernel_rfl
theorem finRj_2_10 : FinRj 2 10 := fun _ _ _ _ _ _ _ _ _ _ => by kernel_rfl
theorem finRj_2_11 : FinRj 2 11 := fun _ _ _ _ _ _ _ _ _ _ => by kernel_rfl
theorem finRj_2_12 : FinRj 2 12 := fun _ _ _ _ _ _ _ _ _ _ => by kernel_rfl
theorem finRj_3_2 : FinRj 3 2 := fun _ _ _ _ _ _ _ _ _ _ => by kernel_rfl
theorem finRj_3_3 : FinRj 3 3 := fun _ _ _ _ _ _ _ _ _ _ => by kernel_rfl
theorem finRj_3_4 : FinRj 3 4 := fun _ _ _ _ _ _ _ _ _ _ => by kernel_rfl
theorem finRj_3_5 : FinRj 3 5 := fun _ _ _ _ _ _ _ _ _ _ => by kernel_rfl
theorem finRj_3_6 : FinRj 3 6 := fun _ _ _ _ _ _ _ _ _ _ => by kernel_rfl
theorem finRj_3_7 : FinRj 3 7 := fun _ _ _ _ _ _ _ _ _ _ => by kernel_rfl
theorem finRj_3_8 : FinRj 3 8 := fun _ _ _ _ _ _ _ _ _ _ => by kernel_rfl
theorem finRj_3_9 : FinRj 3 9 := fun _ _ _ _ _ _ _ _ _ _ => by kernel_rfl
theorem finRj_3_10 : FinRj 3 10 := fun _ _ _ _ _ _ _ _ _ _ => by kernel_rfl
theorem finRj_3_11 : FinRj 3 11 := fun _ _ _ _ _ _ _ _ _ _ => by kernel_rfl
theorem finRj_3_12 : FinRj 3 12 := fun _ _ _ _ _ _ _ _ _ _ => by kernel_rfl
theorem finRj_1 : ∀ M, 2 ≤ M → M < 13 → FinRj 1 M
  | 0, h, _ => absurd h (by omega)
  | 1, h, _ => absurd h (by omega)
  | 2, _, _ => finRj_1_2
  | 3, _, _ => finRj_1_3
  | 4, _, _ => finRj_1_4
  | 5, _, _ => finRj_1_5
  | 6, _, _ => finRj_1_6
  | 7, _, _ => finRj_1_7
  | 8, _, _ => finRj_1_8
  | 9, _, _ => finRj_1_9
  | 10, _, _ => finRj_1_10
  | 11, _, _ => finRj_1_11
  | 12, _, _ => finRj_1_12
  | n + 13, _, h => absurd h (by omega)
theorem finRj_2 : ∀ M, 2 ≤ M → M < 13 → FinRj 2 M
  | 0, h, _ => absurd h (by omega)
  | 1, h, _ => absurd h (by omega)
  | 2, _, _ => finRj_2_2
  | 3, _, _ => finRj_2_3
  | 4, _, _ => finRj_2_4
  | 5, _, _ => finRj_2_5
  | 6, _, _ => finRj_2_6
  | 7, _, _ => finRj_2_7
  | 8, _, _ => finRj_2_8
  | 9, _, _ => finRj_2_9
  | 10, _, _ => finRj_2_10
  | 11, _, _ => finRj_2_11
  | 12, _, _ => finRj_2_12
  | n + 13, _, h => absurd h (by omega)
theorem finRj_3 : ∀ M, 2 ≤ M → M < 13 → FinRj 3 M
  | 0, h, _ => absurd h (by omega)
  | 1, h, _ => absurd h (by omega)
  | 2, _, _ => finRj_3_2
  | 3, _, _ => finRj_3_3
  | 4, _, _ => finRj_3_4
  | 5, _, _ => finRj_3_5
  | 6, _, _ => finRj_3_6
  | 7, _, _ => finRj_3_7
  | 8, _, _ => finRj_3_8
  | 9, _, _ => finRj_3_9
  | 10, _, _ => finRj_3_10
  | 11, _, _ => finRj_3_11
  | 12, _, _ => finRj_3_12
  | n + 13, _, h => absurd h (by omega)
theorem finRj {N M : Nat} (h1 : 1 ≤ N) (h2 : N ≤ 3) (h3 : 2 ≤ M) (h4 : M < 13) : FinRj N M := by
  have : N = 1 ∨ N = 2 ∨ N = 3 := by omega
  rcases this with rfl | rfl | rfl
  · exact finRj_1 M h3 h4
  · exact finRj_2 M h3 h4
  · exact finRj_3 M h3 h4

end Go.Proofs.Ytdlinjijccnaeaa

/-!  The document's Jac of numbers: its contract; both, in any memory. -/
namespace Go.Proofs.Ytdlinjijccnaeaa
open Go
set_option linter.unusedVariables false
set_option linter.unusedSimpArgs false
set_option maxRecDepth 100000

section
variable {P : Program}
theorem app_emptyL {α : Type} {f : α → List Value} {n : Nat} (hf : ∀ a, (f a).length = n) (hone : ∀ a, (f a).all oneC = true) {t e : TypeId} (hg : growOk P t e n = true) {H : AHeap} {br bx c c' N : Nat} {Bx : ABlk} {l : List α} (hr : H[br]? = some (some ⟨#[], e, n, true⟩)) (hx : H[bx]? = some (some Bx)) (hcx : Bx.cells = (l.flatMap f).toArray) (hl : l.length = N) (h1 : 1 ≤ N) (h2 : N ≤ 1000) :
    appendV P H t t (.slice (some ⟨br, 0, none⟩) 0 c) (.slice (some ⟨bx, 0, none⟩) N c') = some (.slice (some ⟨H.size, 0, none⟩) N N, (H.setIfInBounds br none).push (some ⟨(l.flatMap f).toArray, e, n, true⟩)) := by
  obtain ⟨hu, i, z, hi, g1, g2, g3, hz, g4⟩ := growOk_ex hg
  have hlen : ∀ l : List α, (l.flatMap f).length = l.length * n := by
    intro l
    induction l with
    | nil => simp
    | cons a l ih => rw [List.flatMap_cons, List.length_append, hf, ih, List.length_cons, Nat.add_mul, Nat.one_mul, Nat.add_comm]
  have hcut : cut Bx.cells 0 (N * n) = (l.flatMap f).toArray := by
    unfold cut
    rw [hcx, List.drop_zero, List.toList_toArray, List.take_of_length_le (by rw [hlen, hl]; exact Nat.le_refl _)]
  have hnews : newsV H i.size (.slice (some ⟨bx, 0, none⟩) N c') = some (N, (l.flatMap f).toArray) := by
    unfold newsV
    simp only [hx, g1]
    rw [if_pos]
    · rw [hcut]
    · rw [hcut, Bool.and_eq_true]
      refine ⟨decide_eq_true ?_, ?_⟩
      · rw [hcx, List.size_toArray, hlen, hl]
        omega
      · show (l.flatMap f).all oneC = true
        rw [List.all_flatMap]
        exact List.all_eq_true.2 fun a _ => hone a
  unfold appendV
  simp only [hu, hi, hz]
  rw [if_pos]
  · simp only [hnews, hr]
    rw [if_pos]
    · simp
    · simp [g1]
      omega
  · simp only [beq_self_eq_true, Bool.true_and, Bool.and_eq_true, beq_iff_eq, decide_eq_true_eq]
    exact ⟨⟨by omega, by omega⟩, g3⟩
def otP (π : Nat → Nat) (N : Nat) : ABlk := ⟨((List.range N).map fun j => slV (π j) N).toArray, 37, 1, true⟩
theorem otP_relK {z : Nat} {ρ : Nat → Nat} {c N : Nat} {π : Nat → Nat} (h : ∀ j, j < N → c + j < z ∧ ρ (c + j) = π j) : RelK z ρ (otJb c N) (otP π N) := by
  refine RelK.list (relMap (List.range N) fun j hj => ?_)
  have hj := List.mem_range.1 hj
  rw [if_pos hj]
  exact .slice (c + j) (π j) 0 none _ _ _ (h j hj).1 (h j hj).2
/-- A table that was made, its rows anywhere. -/
theorem Runs.tabP {f : FuncId} {args : Array Value} {b0 b1 b2 : Option ABlk} {N e : Nat} {π : Nat → Nat} {R : Nat → Nat → Nat} {H1 : AHeap} (h : Runs P f args #[b0, b1, b2] (slV e N) H1) (p0 : PlO b0) (p1 : PlO b1) (p2 : PlO b2)
    (q0 : H1[0]? = some b0) (q1 : H1[1]? = some b1) (q2 : H1[2]? = some b2) (hr : ∀ j, j < N → H1[π j]? = some (some (rowJb N (R j)))) (he : H1[e]? = some (some (otP π N))) (hc : ∀ j, j < N → 3 ≤ π j) (he3 : 3 ≤ e) (hne : ∀ j, j < N → e ≠ π j) (hinj : ∀ i j, i < N → j < N → π i = π j → i = j) :
    Runs P f args #[b0, b1, b2] (slV (3 + N) N) (#[b0, b1, b2] ++ (tabJ 3 N R).toArray) := by
  let ρ : Nat → Nat := fun b => if b < 3 then b else if b < 3 + N then π (b - 3) else e
  have hs : (#[b0, b1, b2] ++ (tabJ 3 N R).toArray : AHeap).size = 4 + N := by
    have h1 : (tabJ 3 N R).toArray.size = N + 1 := by rw [List.size_toArray, tab_len]
    rw [Array.size_append, h1]
    show 3 + (N + 1) = 4 + N
    omega
  have r0 : ∀ b, b < 3 → ρ b = b := fun b hb => if_pos hb
  have r1 : ∀ j, j < N → ρ (3 + j) = π j := fun j hj => by show (if _ then _ else _) = _; rw [if_neg (by omega), if_pos (by omega), show 3 + j - 3 = j by omega]
  have r2 : ρ (3 + N) = e := by show (if _ then _ else _) = _; rw [if_neg (by omega), if_neg (by omega)]
  have sp : ∀ (b : Nat) (B : ABlk), (#[b0, b1, b2] ++ (tabJ 3 N R).toArray : AHeap)[b]? = some (some B) → (b < 3 ∧ (#[b0, b1, b2] : AHeap)[b]? = some (some B)) ∨ (∃ j, j < N ∧ b = 3 + j ∧ B = rowJb N (R j)) ∨ (b = 3 + N ∧ B = otJb 3 N) := fun b B hB => by
    by_cases hb : b < 3
    · rw [Array.getElem?_append_left (by simp; omega)] at hB
      exact .inl ⟨hb, hB⟩
    · rw [Array.getElem?_append_right (by simp; omega), List.getElem?_toArray] at hB
      rcases tab_cases hB with ⟨g1, g2⟩ | ⟨g1, g2⟩
      · exact .inr (.inl ⟨_, g1, by simp; omega, g2⟩)
      · exact .inr (.inr ⟨by simp at g1; omega, g2⟩)
  refine Runs.ren (ρ := ρ) h ⟨fun b hb => ⟨by rw [hs]; simp at hb; omega, r0 b (by simpa using hb)⟩, rfl, ?_, ?_, ?_⟩
  · intro i v2 v1 h2 h1
    match i, h2, h1 with
    | 0, h2, h1 =>
      injection h2 with h2; injection h1 with h1
      subst h2 h1
      rw [hs]
      exact .slice (3 + N) e 0 none _ _ _ (by omega) r2
    | n + 1, h2, _ => simp at h2
  · intro b B hB
    rw [hs]
    rcases sp b B hB with ⟨hb, g⟩ | ⟨j, hj, rfl, rfl⟩ | ⟨rfl, rfl⟩
    · rw [r0 b hb]
      match b, g with
      | 0, g => exact ⟨B, q0.trans (by simpa using g), RelK.plain fun i v hv => p0 B (by simpa using g) i v hv⟩
      | 1, g => exact ⟨B, q1.trans (by simpa using g), RelK.plain fun i v hv => p1 B (by simpa using g) i v hv⟩
      | 2, g => exact ⟨B, q2.trans (by simpa using g), RelK.plain fun i v hv => p2 B (by simpa using g) i v hv⟩
      | n + 3, g => simp at g
    · rw [r1 j hj]
      exact ⟨_, hr j hj, row_relK _ _⟩
    · rw [r2]
      exact ⟨_, he, otP_relK fun j hj => ⟨by omega, r1 j hj⟩⟩
  · intro b b' B B' hB hB' heq
    rcases sp b B hB with ⟨hb, _⟩ | ⟨j, hj, rfl, _⟩ | ⟨rfl, _⟩ <;> rcases sp b' B' hB' with ⟨hb', _⟩ | ⟨j', hj', rfl, _⟩ | ⟨rfl, _⟩
    · rw [r0 b hb, r0 b' hb'] at heq; exact heq
    · rw [r0 b hb, r1 j' hj'] at heq; have := hc j' hj'; omega
    · rw [r0 b hb, r2] at heq; omega
    · rw [r1 j hj, r0 b' hb'] at heq; have := hc j hj; omega
    · rw [r1 j hj, r1 j' hj'] at heq; rw [hinj j j' hj hj' heq]
    · rw [r1 j hj, r2] at heq; exact absurd heq.symm (hne j hj)
    · rw [r2, r0 b' hb'] at heq; omega
    · rw [r2, r1 j' hj'] at heq; exact absurd heq (hne j' hj')
    · rfl
end
theorem zr_flJ : zeroB Try.prog 27 1 = true := by kernel_rfl
theorem zc_flJ : zeroC Try.prog 27 = fC 0 := by kernel_rfl
theorem zr_fslJ : zeroB Try.prog 37 1 = true := by kernel_rfl
theorem zc_fslJ : zeroC Try.prog 37 = [.slice none 0 0] := by kernel_rfl
theorem lf_len (c N : Nat) (R : Nat → Nat → Nat) (i : Nat) : (lfJ c N R i).length = 4 * i := by
  unfold lfJ
  rw [List.length_flatMap]
  simp only [List.length_cons, List.length_nil]
  rw [List.map_const', List.sum_replicate_nat, List.length_range]
  omega
theorem lf_row : ∀ N, 1 ≤ N → N ≤ 3 → ∀ j, j < N → ∀ (c : Nat) (R : Nat → Nat → Nat), (lfJ c N R N)[4 * j + 1]? = some (some (rowJb N (R j)))
  | 1, _, _, 0, _, _, _ => rfl
  | 2, _, _, 0, _, _, _ => rfl
  | 2, _, _, 1, _, _, _ => rfl
  | 3, _, _, 0, _, _, _ => rfl
  | 3, _, _, 1, _, _, _ => rfl
  | 3, _, _, 2, _, _, _ => rfl
  | 0, h, _, _, _, _, _ => absurd h (by omega)
  | n + 4, _, h, _, _, _, _ => absurd h (by omega)
  | 1, _, _, j + 1, h, _, _ => absurd h (by omega)
  | 2, _, _, j + 2, h, _, _ => absurd h (by omega)
  | 3, _, _, j + 3, h, _, _ => absurd h (by omega)
theorem lf_ot : ∀ N, 1 ≤ N → N ≤ 3 → ∀ (c : Nat) (R : Nat → Nat → Nat), (lfJ c N R N)[4 * N - 1]? = some (some (otP (fun j => c + 1 + 4 * j) N))
  | 1, _, _, _, _ => rfl
  | 2, _, _, _, _ => rfl
  | 3, _, _, _, _ => rfl
  | 0, h, _, _, _ => absurd h (by omega)
  | n + 4, _, h, _, _ => absurd h (by omega)
section
variable {c0 c1 c2 : ABlk} {N : Nat} {ops : List OpD} {out : List Int} {xs : List Nat}
theorem ref_Jac (h : EvG fC (some c0) (some c1) (some c2) N ops out xs) (p0 : PlainB c0) (p1 : PlainB c1) (p2 : PlainB c2) (h1 : 1 ≤ N) (h3 : N ≤ 3) (hM : ops.length ≤ 12) (hM2 : 2 ≤ ops.length) :
    Runs Try.prog 25 #[tpV 0 1 N ops.length, slV 2 N] #[some c0, some c1, some c2] (slV (3 + N) N) (#[some c0, some c1, some c2] ++ (tabJ 3 N (rwD ops xs out)).toArray) := by
  generalize hMM : ops.length = M at hM hM2
  let V : Nat → Nat := fun k => (regD ops xs k).1
  let S : Nat → Nat → Nat := fun k => (regD ops xs k).2
  have rds := roundsRj (V := V) (S := S) h (plO_of p0) (plO_of p1) (plO_of p2) (fun k o ho => regD_v ho (h.ok k o ho)) (fun k o ho i => regD_s ho (h.ok k o ho) i) hMM h1 h3 hM hM2 M 0 (by omega)
  let u : Nat → Int := fun i => out.getD i 0
  have hu : ∀ i, i < N → out[i]? = some (u i) ∧ 0 ≤ u i ∧ u i < M := fun i hi => by
    have hg : out[i]? = some (out.getD i 0) := getD_at 0 (by rw [h.lo]; exact hi)
    have := h.oo _ (List.mem_of_getElem? hg)
    rw [hMM] at this
    exact ⟨hg, this⟩
  have fin := finRj h1 h3 hM2 (show M < 13 by omega) (some c0) (some c1) (some c2) (rL 0 V M 0) (rL 0 V M M) S u (fun i => ⟨5, (u i).toNat, none⟩) (fun i => 6 + (u i).toNat) (rwD ops xs out)
  have hql := HQ_len (b0 := some c0) (b1 := some c1) (b2 := some c2) (N := N) (S := S) M (rL 0 V M M) (dlB N M M) M
  have hob : okAll Try.prog (lgH (HQ (some c0) (some c1) (some c2) N M (rL 0 V M M) (dlB N M M) M S) (6 + M) N M u (fun i => ⟨5, (u i).toNat, none⟩) (fun i => 6 + (u i).toNat) (rwD ops xs out)) := by
    unfold lgH
    refine okApp' (each_ok _ _ fun i hi => ?_) ⟨cmp_ok (decide_eq_false (by omega)), trivial⟩
    have hin := List.mem_range.1 hi
    obtain ⟨e0, e1, e2⟩ := hu i hin
    obtain ⟨B1, hB1, hc1⟩ := h.m1
    have hlt : (u i).toNat < M := by omega
    have hll := lf_len (6 + M) N (rwD ops xs out) i
    have hrow : (HQ (some c0) (some c1) (some c2) N M (rL 0 V M M) (dlB N M M) M S ++ lfJ (6 + M) N (rwD ops xs out) i ++ [nwF []]).toArray[6 + (u i).toNat]? = some (dJ N S (u i).toNat) := by
      rw [List.append_assoc]
      exact HQ_d hlt _
    have hemp : (HQ (some c0) (some c1) (some c2) N M (rL 0 V M M) (dlB N M M) M S ++ lfJ (6 + M) N (rwD ops xs out) i ++ [nwF []]).toArray[6 + M + 4 * i]? = some (nwF []) := by
      rw [List.getElem?_toArray, List.getElem?_append_right (by rw [List.length_append, hql, hll]; omega), List.length_append, hql, hll, Nat.sub_self]
      rfl
    have hsz : (HQ (some c0) (some c1) (some c2) N M (rL 0 V M M) (dlB N M M) M S ++ lfJ (6 + M) N (rwD ops xs out) i ++ [nwF []]).toArray.size = 6 + M + 1 + 4 * i := by
      rw [List.size_toArray, List.length_append, List.length_append, hql, hll]
      simp
      omega
    refine ⟨cmp_ok (decide_eq_true hin), rdI (B := B1) (l := out) (k := i) (by rw [← hB1]; rfl) hc1 e0 rfl, ixS e1 e2 rfl, rdS (b := 5) (k := (u i).toNat) (l := (List.range M).map fun j => if j < M then slV (6 + j) N else .slice none 0 0) rfl rfl ?_ rfl, ?_, trivial⟩
    · rw [List.getElem?_map, List.getElem?_range hlt, Option.map_some, if_pos hlt]
    · refine (app_emptyL (f := fC) (n := 1) (fun _ => rfl) (fun _ => rfl) gr_fs (l := (List.range N).map (S (u i).toNat)) hemp hrow rfl (by simp) h1 (by omega)).trans ?_
      rw [hsz]
      congr 2
      apply Array.ext'
      rw [Array.toList_push, Array.toList_setIfInBounds, List.toList_toArray, List.toList_toArray, List.set_append_right _ _ (by rw [List.length_append, hql, hll]; omega), List.length_append, hql, hll, Nat.sub_self, List.append_assoc, List.append_assoc]
      rw [List.append_assoc]
      rfl
  have hmk : okAll Try.prog [.ex (makeSliceV Try.prog [some c0, some c1, some c2, tbE N M].toArray 37 (.int .i64 M) (.int .i64 M) = some (slV 4 M, [some c0, some c1, some c2, tbE N M, nwF (rL 0 V M 0)].toArray)), .ex (makeSliceV Try.prog [some c0, some c1, some c2, tbE N M, nwF (rL 0 V M 0)].toArray 38 (.int .i64 M) (.int .i64 M) = some (slV 5 M, (HQ (some c0) (some c1) (some c2) N M (rL 0 V M 0) (dlB N M 0) 0 S).toArray))] := by
    refine ⟨?_, ?_, trivial⟩
    · refine (mk_sliceT ty_fs zr_flJ zc_flJ (M := M) (by omega)).trans ?_
      rw [rL_zero]
      rfl
    · refine (mk_sliceT ty_fss zr_fslJ (f := fun x : Value => [x]) (a := .slice none 0 0) zc_fslJ (M := M) (by omega)).trans ?_
      have e : dlB N M 0 = some ⟨((List.replicate M (Value.slice none 0 0)).flatMap fun x => [x]).toArray, 37, 1, true⟩ := by
        unfold dlB
        rw [flatIdR]
        have : ((List.range M).map fun j => if j < 0 then slV (6 + j) N else Value.slice none 0 0) = List.replicate M (Value.slice none 0 0) := by
          simp only [Nat.not_lt_zero, if_false]
          rw [List.map_const', List.length_range]
        rw [this]
      rw [e]
      rfl
  obtain ⟨H', hH, hrun⟩ := askTB_to (g := fun H => H) fin (okApp' hmk hob) ⟨⟨_, _, entRe (plO_of p0) (plO_of p1) (plO_of p2) M _ 0 (by decide), rds.loop⟩, trivial⟩
  subst hH
  refine Runs.tabP (π := fun j => 6 + M + 1 + 4 * j) (e := 6 + M + 4 * N - 1) hrun (plO_of p0) (plO_of p1) (plO_of p2) rfl rfl rfl (fun j hj => ?_) ?_ (fun j _ => by omega) (by omega) (fun j hj => by omega) (fun i j _ _ e => by omega)
  · rw [List.getElem?_toArray, List.getElem?_append_right (by omega), hql, show 6 + M + 1 + 4 * j - (6 + M) = 4 * j + 1 by omega]
    exact lf_row N h1 h3 j hj _ _
  · rw [List.getElem?_toArray, List.getElem?_append_right (by omega), hql, show 6 + M + 4 * N - 1 - (6 + M) = 4 * N - 1 by omega]
    exact lf_ot N h1 h3 _ _
end
section
variable {l : List (Option ABlk)}
def evD (n : Int) (zs : List Int) (dv : Bool) (xs : List Nat) : Nat → Nat → Nat := rwD (mkOps n zs dv) xs (mkOut n (mkM n zs))
theorem jacs_rn (n : Int) (zs : List Int) (dv : Bool) {xs : List Nat} {N M bo bu bx s : Nat} (hN : mkN n = N) (hM : mkM n zs = M) (hx : xs.length = N)
    (h0 : l[bo]? = some (opB (opsB (mkOps n zs dv) true).cells)) (h1 : l[bu]? = some (iB (intB (mkOut n (mkM n zs)) true).cells)) (h2 : l[bx]? = some (nwF xs)) (n1 : bo ≠ bu) (n2 : bo ≠ bx) (n3 : bu ≠ bx) (hs : s = l.length) :
    (rnO 16 #[tpV bo bu N M, slV bx N] l (slV (s + N) N) (tabJ s N (evD n zs dv xs))).ok Try.prog ∧ (rnO 25 #[tpV bo bu N M, slV bx N] l (slV (s + N) N) (tabJ s N (evD n zs dv xs))).ok Try.prog := by
  subst hN hM hs
  obtain ⟨g1, g2⟩ := mkN_le n
  obtain ⟨m1, m2⟩ := mkM_le n zs
  have hG := mk_evG (f := fC) n zs dv hx 27 1
  have hl := mkOps_len n zs dv
  have r1 := jac_Jac hG rfl rfl (opsB_plain _ _) (intB_plain _ _) (plain_flat fC_cl _ _ _ _) rfl g1 (by omega) (by rw [hl]; unfold mkM mkL; omega) (by rw [hl]; omega)
  have r2 := ref_Jac hG (opsB_plain _ _) (intB_plain _ _) (plain_flat fC_cl _ _ _ _) g1 g2 (by rw [hl]; unfold mkM mkL; omega) (by rw [hl]; omega)
  rw [hl] at r1 r2
  have key := fun {f : FuncId} (r : Runs Try.prog f #[tpV 0 1 (mkN n) (mkM n zs), slV 2 (mkN n)] #[some (opsB (mkOps n zs dv) false), some (intB (mkOut n (mkM n zs)) false), some ⟨(xs.flatMap fC).toArray, 27, 1, false⟩] (slV (3 + mkN n) (mkN n)) (#[some (opsB (mkOps n zs dv) false), some (intB (mkOut n (mkM n zs)) false), some ⟨(xs.flatMap fC).toArray, 27, 1, false⟩] ++ (tabJ 3 (mkN n) (evD n zs dv xs)).toArray)) =>
    Runs.tabAt (args1 := #[tpV bo bu (mkN n) (mkM n zs), slV bx (mkN n)]) (bo := bo) (bu := bu) (bx := bx) (B0 := opsB (mkOps n zs dv) false) (B1 := intB (mkOut n (mkM n zs)) false) (B2 := ⟨(xs.flatMap fC).toArray, 27, 1, false⟩) r rfl rfl rfl (opsB_plain _ _) (intB_plain _ _) (plain_flat fC_cl _ _ _ _) (froze_all l.toArray) (fz_at h0) (fz_at h1) (fz_at h2) n1 n2 n3
      (.cons (tp_rel bo bu _ _ (by decide) rfl rfl) (.cons (.slice 2 bx 0 none _ _ _ (by decide) rfl) .nil))
  have a := key r1
  have b := key r2
  rw [fz_size] at a b
  exact ⟨a, b⟩
end

end Go.Proofs.Ytdlinjijccnaeaa
