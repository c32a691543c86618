/- JqF / JqG / JqH / JqP: several texts in one. -/
import Derived.Test.YtdlinjijccnaeaaJqR1
import Derived.Test.YtdlinjijccnaeaaJqR2
import Derived.Test.YtdlinjijccnaeaaJqR3
import Derived.Test.YtdlinjijccnaeaaJrH
/-!  The document's JacIv: its rounds in a row. -/
namespace Go.Proofs.Ytdlinjijccnaeaa
open Go
set_option linter.unusedVariables false
set_option linter.unusedSimpArgs false
set_option maxRecDepth 100000

theorem rjCi {N k : Nat} (h1 : 1 ≤ N) (h2 : N ≤ 3) (hk : k < 12) : RjCi N k := by
  have : N = 1 ∨ N = 2 ∨ N = 3 := by omega
  rcases this with rfl | rfl | rfl
  · exact rjCi_1 k hk
  · exact rjCi_2 k hk
  · exact rjCi_3 k hk
theorem rjVi {N k : Nat} (h1 : 1 ≤ N) (h2 : N ≤ 3) (hk : k < 12) : RjVi N k := by
  have : N = 1 ∨ N = 2 ∨ N = 3 := by omega
  rcases this with rfl | rfl | rfl
  · exact rjVi_1 k hk
  · exact rjVi_2 k hk
  · exact rjVi_3 k hk
theorem rjEi {N k : Nat} (h1 : 1 ≤ N) (h2 : N ≤ 3) (h3 : 2 ≤ k) (hk : k < 13) : RjEi N k := by
  have : N = 1 ∨ N = 2 ∨ N = 3 := by omega
  rcases this with rfl | rfl | rfl
  · exact rjEi_1 k h3 hk
  · exact rjEi_2 k h3 hk
  · exact rjEi_3 k h3 hk
theorem rjOi {N k : Nat} {K : Int} (h1 : 1 ≤ N) (h2 : N ≤ 3) (h3 : 1 ≤ k) (hk : k < 12) (g2 : 2 ≤ K) (g5 : K ≤ 5) : RjOi N k K := by
  have : N = 1 ∨ N = 2 ∨ N = 3 := by omega
  have hK : K = 2 ∨ K = 3 ∨ K = 4 ∨ K = 5 := by omega
  rcases this with rfl | rfl | rfl <;> rcases hK with rfl | rfl | rfl | rfl
  · exact rjOi_1_K2 k h3 hk
  · exact rjOi_1_K3 k h3 hk
  · exact rjOi_1_K4 k h3 hk
  · exact rjOi_1_K5 k h3 hk
  · exact rjOi_2_K2 k h3 hk
  · exact rjOi_2_K3 k h3 hk
  · exact rjOi_2_K4 k h3 hk
  · exact rjOi_2_K5 k h3 hk
  · exact rjOi_3_K2 k h3 hk
  · exact rjOi_3_K3 k h3 hk
  · exact rjOi_3_K4 k h3 hk
  · exact rjOi_3_K5 k h3 hk

/-! cells, one by one -/
theorem sz_fsli : sizeB Try.prog 26 1 = true := by kernel_rfl
theorem ty_fssi : isSliceB Try.prog 25 26 = true := by kernel_rfl
theorem ixSi {b n c : Nat} {A : Int} (h0 : 0 ≤ A) (h1 : A < n) {o : Nat} (ho : o = A.toNat) : indexAddrV Try.prog 25 (.slice (some ⟨b, 0, none⟩) n c) (.int .i64 A) = some (.pointer (some ⟨b, o, none⟩)) := by
  obtain ⟨i, hi, hz⟩ := sizeB_ex sz_fsli
  exact ix_slice (isSliceB_ex ty_fssi) hi hz h0 h1 (by omega)
theorem rdSi {H : AHeap} {b k : Nat} {B : ABlk} {l : List Value} {a : Value} (hb : H[b]? = some (some B)) (hc : B.cells = l.toArray) (hk : l[k]? = some a) {o : Nat} (ho : o = k) : readVar Try.prog H 26 ⟨b, o, none⟩ = some a :=
  rd_one (g := fun x : Value => x) (isPlainB_ex ty_fsPI) hb (by rw [flatIdR, hc]) hk ho
theorem wrIv {H : AHeap} {b k : Nat} {l : List P2} {a : P2} (hb : H[b]? = some (nwPj l)) (hk : k < l.length) : writeVar Try.prog H 29 ⟨b, k * 2, none⟩ (vI a) = some (H.setIfInBounds b (nwPj (l.set k a))) := by
  obtain ⟨i, hi, hz⟩ := sizeB_ex sz_iv
  exact wr_at (f := pC) (n := 2) (fun _ => rfl) hi hz (l := l) rfl rfl hb rfl rfl hk rfl
theorem wrSi {H : AHeap} {b k : Nat} {l : List Value} {c n m : Nat} {o : Bool} (hb : H[b]? = some (some ⟨l.toArray, 26, 1, true⟩)) (hk : k < l.length) : writeVar Try.prog H 26 ⟨b, k, none⟩ (.slice (some ⟨c, 0, none⟩) n m) = some (H.setIfInBounds b (some ⟨(l.set k (.slice (some ⟨c, 0, none⟩) n m)).toArray, 26, 1, true⟩)) := by
  obtain ⟨i, hi, hz⟩ := sizeB_ex sz_fsli
  have := wr_at (P := Try.prog) (f := fun x : Value => [x]) (n := 1) (fun _ => rfl) (t := 26) hi hz (l := l) (a := .slice (some ⟨c, 0, none⟩) n m) (v := .slice (some ⟨c, 0, none⟩) n m) rfl rfl hb rfl (by rw [flatIdR]) hk (show k = k * 1 by omega)
  rw [flatIdR] at this
  exact this
theorem one_seti {N A : Nat} (h : A < N) (v : P2) : ((List.range N).map fun j => if j < 0 then (fun _ => (0, 0) : Nat → P2) j else (0, 0)).set A v = (List.range N).map fun j => if A = j then v else (0, 0) := by
  apply List.ext_getElem?
  intro j
  rw [List.getElem?_set]
  by_cases e : A = j
  · subst e
    rw [if_pos rfl, if_pos (by simp; exact h), List.getElem?_map, List.getElem?_range h, Option.map_some, if_pos rfl]
  · rw [if_neg e, List.getElem?_map, List.getElem?_map]
    by_cases hj : j < N
    · rw [List.getElem?_range hj, Option.map_some, Option.map_some, if_neg e, if_neg (Nat.not_lt_zero _)]
    · rw [List.getElem?_eq_none (by simp; omega)]
      rfl
/-! how one operation changes -/
noncomputable def askCi (g : FuncId) : Nat := if g == 54 then 1 else 0
def ChI (K : Int) : Prop := ∀ (u v q x y : P2), (askB base1 noF noC 12 55 #[.int .i64 K, vI u, vI v, vI q, vI x, vI y] #[] []).map (fun r => (r.1, r.2.2)) = some (vI (slP K u v q x y), [])
theorem chI_2 : ChI 2 := fun _ _ _ _ _ => by kernel_rfl
theorem chI_3 : ChI 3 := fun _ _ _ _ _ => by kernel_rfl
theorem chI_4 : ChI 4 := fun _ _ _ _ _ => by kernel_rfl
theorem chI_5 (u v q x y w : P2) : (askB base1 askCi noC 12 55 #[.int .i64 5, vI u, vI v, vI q, vI x, vI y] #[] [vAns (vI w)]).map (fun r => (r.1, r.2.2)) = some (vI w, [qtO 54 #[vI (subP x (mulP q y)), vI v] (vI w)]) := by kernel_rfl
theorem ch_ok {K : Int} (g2 : 2 ≤ K) (g5 : K ≤ 5) (u : P2) {v : P2} (q x y : P2) (hv : Rt v) : (qtO 55 #[.int .i64 K, vI u, vI v, vI q, vI x, vI y] (vI (slP K u v q x y))).ok Try.prog := by
  have hK : K = 2 ∨ K = 3 ∨ K = 4 ∨ K = 5 := by omega
  rcases hK with rfl | rfl | rfl | rfl
  · exact quietB base1_ok (chI_2 u v q x y) trivial rfl rfl
  · exact quietB base1_ok (chI_3 u v q x y) trivial rfl rfl
  · exact quietB base1_ok (chI_4 u v q x y) trivial rfl rfl
  · exact quietB base1_ok (chI_5 u v q x y (divP (subP x (mulP q y)) v)) ⟨(div_w _ hv.l hv.h).2, trivial⟩ rfl rfl
theorem fn_ok {K : Int} (g2 : 2 ≤ K) (g5 : K ≤ 5) (u : P2) {v : P2} (hv : Rt v) : (qtO (fnRi K) #[vI u, vI v] (vI (opP K u v))).ok Try.prog := by
  have hK : K = 2 ∨ K = 3 ∨ K = 4 ∨ K = 5 := by omega
  rcases hK with rfl | rfl | rfl | rfl
  · exact (add_w u v).2
  · exact (sub_w u v).2
  · exact (mul_w u v).2
  · exact (div_w u hv.l hv.h).2
section
variable {b0 b1 b2 : Option ABlk} {N : Nat} {ops : List OpD} {out : List Int} {xs : List P2} {V : Nat → P2} {S : Nat → Nat → P2}
theorem HQ_leni (M : Nat) (rl : List P2) (dl : Option ABlk) (k : Nat) : (HQi b0 b1 b2 N M rl dl k S).length = 6 + k := by simp [HQi]; omega
theorem HQ_di {M : Nat} {rl : List P2} {dl : Option ABlk} {k j : Nat} (h : j < k) (c : List (Option ABlk)) : (HQi b0 b1 b2 N M rl dl k S ++ c).toArray[6 + j]? = some (dJI N S j) := by
  rw [List.getElem?_toArray, List.getElem?_append_left (by rw [HQ_leni]; omega)]
  unfold HQi
  rw [List.getElem?_append_right (by simp), List.getElem?_map]
  simp [List.getElem?_range h]
theorem HQ_newi {M : Nat} {rl : List P2} {dl : Option ABlk} {k : Nat} (o x : Option ABlk) : (HQi b0 b1 b2 N M rl dl k S ++ [o, x]).toArray[7 + k]? = some x := by
  rw [List.getElem?_toArray, List.getElem?_append_right (by rw [HQ_leni]; omega), HQ_leni]
  rw [show 7 + k - (6 + k) = 1 by omega]
  rfl
theorem HQ_setNewi {M : Nat} {rl : List P2} {dl : Option ABlk} {k : Nat} (o x y : Option ABlk) : (HQi b0 b1 b2 N M rl dl k S ++ [o, x]).toArray.setIfInBounds (7 + k) y = (HQi b0 b1 b2 N M rl dl k S ++ [o, y]).toArray := by
  apply Array.ext'
  rw [Array.toList_setIfInBounds, List.toList_toArray, List.toList_toArray, List.set_append_right _ _ (by rw [HQ_leni]; omega), HQ_leni]
  rw [show 7 + k - (6 + k) = 1 by omega]
  rfl
theorem entRji (p0 : PlO b0) (p1 : PlO b1) (p2 : PlO b2) (M : Nat) (rl : List P2) (k : Nat) (hk : k < 12) {s : Nat → P2} (hs : (List.range N).map s = (List.range N).map (S k)) :
    EntOK 3 [1, 2, 5, 6, 7] (RRj k) (outRji b0 b1 b2 N M rl k S s) (tmA 193 (LRj N M (k + 1))) (HQi b0 b1 b2 N M rl (dlBi N M (k + 1)) (k + 1) S).toArray := by
  have hl : (HQi b0 b1 b2 N M rl (dlBi N M (k + 1)) (k + 1) S).length = 7 + k := by rw [HQ_leni]; omega
  refine entOK (H2 := HQi b0 b1 b2 N M rl (dlBi N M (k + 1)) (k + 1) S) rfl rfl (RRj_nodup k hk) ?_ ?_
  · rw [hl]
    exact .cons (.slice 2 2 0 none _ _ _ (by omega) rfl) (.cons (.ptr 3 3 0 none (by omega) rfl) (.cons (.slice 4 4 0 none _ _ _ (by omega) rfl) (.cons (.slice 5 5 0 none _ _ _ (by omega) rfl) (.cons (.clos rfl) .nil))))
  · rw [hl]
    have e0 : (fun b => (RRj k).getD b 0) 0 = 0 := rfl
    refine relBs_pl p0 (relBs_pl p1 (relBs_pl p2 (tbE_relJ (ρ := fun b => (RRj k).getD b 0) (by omega) rfl rfl N M (relBs_own (plain_flat pC_cl rl 29 2 true) ?_))))
    refine .some (RelK.list (relMap (List.range M) fun j _ => ?_)) ?_
    · by_cases h1 : j < k
      · rw [if_pos (by omega), if_pos h1]
        exact .slice (6 + j) (6 + j) 0 none _ _ _ (by omega) (RRj_old k hk j h1)
      · by_cases h2 : j = k
        · rw [if_pos (by omega), if_neg h1, if_pos h2, h2]
          exact .slice (6 + k) (7 + k) 0 none _ _ _ (by omega) (RRj_new k hk)
        · rw [if_neg (by omega), if_neg h1, if_neg h2]
          exact .clos rfl
    · rw [hs]
      show RelBs _ _ ((List.range (k + 1)).map (dJI N S)) (((List.range k).map (dJI N S)).map some ++ [some (dJI N S k)])
      rw [List.range_succ, List.map_append, List.map_map]
      exact relBs_app (relBs_map (dJbI N S) (dJ_clI N S) (List.range k)) (relBs_own (dJ_clI N S k) .nil)
theorem entRei (p0 : PlO b0) (p1 : PlO b1) (p2 : PlO b2) (M : Nat) (rl : List P2) (k : Nat) (hk : k < 13) :
    EntOK 3 [1, 2, 5, 6, 7] (RRe k) (193, (LRj N M k).map (·.2), (HQi b0 b1 b2 N M rl (dlBi N M k) k S).map some) (tmA 193 (LRj N M k)) (HQi b0 b1 b2 N M rl (dlBi N M k) k S).toArray := by
  have hl := HQ_leni (b0 := b0) (b1 := b1) (b2 := b2) (N := N) (S := S) M rl (dlBi N M k) k
  refine entOK (H2 := HQi b0 b1 b2 N M rl (dlBi N M k) k S) rfl rfl (RRe_nodup k hk) ?_ ?_
  · rw [hl]
    exact .cons (.slice 2 2 0 none _ _ _ (by omega) rfl) (.cons (.ptr 3 3 0 none (by omega) rfl) (.cons (.slice 4 4 0 none _ _ _ (by omega) rfl) (.cons (.slice 5 5 0 none _ _ _ (by omega) rfl) (.cons (.clos rfl) .nil))))
  · rw [hl]
    refine relBs_pl p0 (relBs_pl p1 (relBs_pl p2 (tbE_relJ (ρ := fun b => (RRe k).getD b 0) (by omega) rfl rfl N M (relBs_own (plain_flat pC_cl rl 29 2 true) ?_))))
    refine .some (RelK.list (relMap (List.range M) fun j _ => ?_)) ?_
    · by_cases h1 : j < k
      · rw [if_pos h1]
        exact .slice (6 + j) (6 + j) 0 none _ _ _ (by omega) (RRe_at k hk j h1)
      · rw [if_neg h1]
        exact .clos rfl
    · show RelBs _ _ ((List.range k).map (dJI N S)) (((List.range k).map (dJI N S)).map some)
      rw [List.map_map]
      exact relBs_map (dJbI N S) (dJ_clI N S) (List.range k)
theorem hd_oki {M : Nat} (h : EvG pC b0 b1 b2 N ops out xs) {k : Nat} {o : OpD} (ho : ops[k]? = some o) (hM : ops.length = M) (rl : List P2) : okAll Try.prog (hdOi b0 b1 b2 N M rl k S o.K o.A o.B o.C ⟨0, k * 4, none⟩ ⟨5, k, none⟩) := by
  have hk : k < M := by rw [← hM]; exact (List.getElem?_eq_some_iff.1 ho).1
  have hd := h.head ho (H := HQi b0 b1 b2 N M rl (dlBi N M k) k S) rfl
  rw [hM] at hd
  refine okApp' hd ⟨ixSi (by simp) (by simpa using hk) (by simp), ?_, trivial⟩
  refine (wrSi (o := true) (b := 5) (k := k) (l := (List.range M).map fun j => if j < k then slV (6 + j) N else .slice none 0 0) rfl (by simp; exact hk)).trans ?_
  rw [show (Value.slice (some ⟨7 + k, 0, none⟩) N N) = slV (7 + k) N from rfl, dl_set]
  rfl
/-- A register is written. -/
theorem wr_ri {M : Nat} {k : Nat} (hk : k < M) (dl : Option ABlk) (c : List (Option ABlk)) {v : P2} (hv : v = V k) : okAll Try.prog (lgWi (HQi b0 b1 b2 N M (rL (0, 0) V M k) dl k S ++ c) (HQi b0 b1 b2 N M (rL (0, 0) V M (k + 1)) dl k S ++ c) 26 29 (slV 4 M) (Int.ofNat k) ⟨4, k * 2, none⟩ (vI v)) := by
  refine ⟨ixIv (by simp) (by simpa using hk) (by simp), ?_, trivial⟩
  subst hv
  refine (wrIv (b := 4) (k := k) (l := rL (0, 0) V M k) (a := V k) rfl (by rw [rL_len]; exact hk)).trans ?_
  rw [rL_set (0, 0) V M k hk]
  rfl
theorem rd_ri {M : Nat} {k n : Nat} {A : Int} (h0 : 0 ≤ A) (h1 : A < n) (hn : n ≤ M) (dl : Option ABlk) (c : List (Option ABlk)) : okAll Try.prog (lgXi (HQi b0 b1 b2 N M (rL (0, 0) V M n) dl k S ++ c) (slV 4 M) A ⟨4, A.toNat * 2, none⟩ (V A.toNat)) :=
  ⟨ixIv h0 (by omega) rfl, rdIv (B := ⟨((rL (0, 0) V M n).flatMap pC).toArray, 29, 2, true⟩) (l := rL (0, 0) V M n) (k := A.toNat) rfl rfl (rL_get (0, 0) V (by omega) (by omega)) rfl, trivial⟩
theorem rd_dki {M : Nat} {k : Nat} (hk : k < M) (rl : List P2) (c : List (Option ABlk)) : okAll Try.prog (lgYi (HQi b0 b1 b2 N M rl (dlXi N M k) k S ++ c) (slV 5 M) (Int.ofNat k) ⟨5, k, none⟩ (slV (7 + k) N)) := by
  refine ⟨ixSi (by simp) (by simpa using hk) (by simp), rdSi (b := 5) (k := k) (l := (List.range M).map fun j => if j < k then slV (6 + j) N else if j = k then slV (7 + k) N else .slice none 0 0) rfl rfl ?_ rfl, trivial⟩
  rw [List.getElem?_map, List.getElem?_range hk, Option.map_some, if_neg (by omega), if_pos rfl]
theorem rd_dai {M : Nat} {k : Nat} {A : Int} (h0 : 0 ≤ A) (h1 : A < k) (hk : k < M) (rl : List P2) (c : List (Option ABlk)) : okAll Try.prog (lgYi (HQi b0 b1 b2 N M rl (dlXi N M k) k S ++ c) (slV 5 M) A ⟨5, A.toNat, none⟩ (slV (6 + A.toNat) N)) := by
  refine ⟨ixSi h0 (by omega) rfl, rdSi (b := 5) (k := A.toNat) (l := (List.range M).map fun j => if j < k then slV (6 + j) N else if j = k then slV (7 + k) N else .slice none 0 0) rfl rfl ?_ rfl, trivial⟩
  rw [List.getElem?_map, List.getElem?_range (by omega), Option.map_some, if_pos (by omega)]
theorem rd_si {M : Nat} {k a i : Nat} (ha : a < k) (hi : i < N) (rl : List P2) (dl : Option ABlk) (c : List (Option ABlk)) : readVar Try.prog (HQi b0 b1 b2 N M rl dl k S ++ c).toArray 29 ⟨6 + a, i * 2, none⟩ = some (vI (S a i)) :=
  rdIv (B := dJbI N S a) (l := (List.range N).map (S a)) (k := i) (HQ_di ha c) rfl (by rw [List.getElem?_map, List.getElem?_range hi]; rfl) rfl
theorem roundRji (h : EvG pC b0 b1 b2 N ops out xs) (p0 : PlO b0) (p1 : PlO b1) (p2 : PlO b2) (hr : ∀ j, Rt (V j)) (hV : ∀ k o, ops[k]? = some o → V k = vStepI xs V o) (hS : ∀ k o, ops[k]? = some o → ∀ i, S k i = sStepI V S (V k) o i)
    {M : Nat} (hM : ops.length = M) {k : Nat} {o : OpD} (ho : ops[k]? = some o) (hk : k < 12) (h1 : 1 ≤ N) (h3 : N ≤ 3) :
    CodeB Try.prog 3 bodyRji (tmA 193 (LRj N M k)) (HQi b0 b1 b2 N M (rL (0, 0) V M k) (dlBi N M k) k S).toArray (.normal, tmA 193 (LRj N M (k + 1)), (HQi b0 b1 b2 N M (rL (0, 0) V M (k + 1)) (dlBi N M (k + 1)) (k + 1) S).toArray) := by
  have hok := h.ok k o ho
  have hkM : k < M := by rw [← hM]; exact (List.getElem?_eq_some_iff.1 ho).1
  have hd := hd_oki (S := S) h ho hM (rL (0, 0) V M k)
  have ev := hV k o ho
  have es := hS k o ho
  unfold vStepI stepT at ev
  unfold sStepI at es
  rcases hok with k0 | ⟨k1, a0, a1⟩ | ⟨k2, k5, a0, a1, q0, q1⟩
  · rw [if_pos k0] at ev
    simp only [k0, if_true] at es
    rw [k0] at hd
    refine rndB_toL (rjCi h1 h3 hk b0 b1 b2 M (rL (0, 0) V M k) (rL (0, 0) V M (k + 1)) S o.A o.B o.C ⟨0, k * 4, none⟩ ⟨5, k, none⟩ ⟨4, k * 2, none⟩) okRji (okApp' hd (wr_ri hkM _ _ ev.symm)) (entRji p0 p1 p2 M _ k hk ?_)
    exact List.map_congr_left fun i _ => (es i).symm
  · have n0 : ¬ o.K = 0 := by omega
    rw [if_neg n0, if_pos k1] at ev
    simp only [k1, show ¬ (1 : Int) = 0 by decide, if_true, if_false] at es
    rw [k1] at hd
    have hx : xs[o.A.toNat]? = some (xs.getD o.A.toNat (0, 0)) := getD_at (0, 0) (by rw [h.lx]; omega)
    obtain ⟨B2, hB2, hc2⟩ := h.m2
    refine rndB_toL (rjVi h1 h3 hk b0 b1 b2 M (rL (0, 0) V M k) (rL (0, 0) V M (k + 1)) S o.A o.B o.C (xs.getD o.A.toNat (0, 0)) (fun j => if o.A.toNat = j then (4607182418800017408, 4607182418800017408) else (0, 0)) ⟨0, k * 4, none⟩ ⟨5, k, none⟩ k (o.A.toNat * 2) (k * 2) (o.A.toNat * 2)) okRji
      (okApp' (okApp' (okApp' (okApp' hd (rd_dki hkM _ _)) ⟨ixIv a0 a1 rfl, rdIv (B := B2) (l := xs) (k := o.A.toNat) (by rw [← hB2]; rfl) hc2 hx rfl, trivial⟩) (wr_ri hkM _ _ ev.symm)) ⟨ixIv a0 a1 rfl, ?_, trivial⟩) (entRji p0 p1 p2 M _ k hk ?_)
    · refine (wrIv (b := 7 + k) (k := o.A.toNat) (l := (List.range N).map fun j => if j < 0 then (fun _ => (0, 0) : Nat → P2) j else (0, 0)) (a := (4607182418800017408, 4607182418800017408)) (HQ_newi _ _) (by simp; omega)).trans ?_
      rw [one_seti (by omega), HQ_setNewi]
    · refine List.map_congr_left fun i _ => ?_
      rw [es i]
      by_cases e : o.A = (i : Int)
      · rw [if_pos e, if_pos (by omega)]
      · rw [if_neg e, if_neg (by omega)]
  · have n0 : ¬ o.K = 0 := by omega
    have n1 : ¬ o.K = 1 := by omega
    rw [if_neg n0, if_neg n1] at ev
    simp only [n0, n1, if_false] at es
    refine rndB_toL (rjOi h1 h3 (by omega) hk k2 k5 b0 b1 b2 M (rL (0, 0) V M k) (rL (0, 0) V M (k + 1)) S o.A o.B o.C (V o.A.toNat) (V o.B.toNat) (opP o.K (V o.A.toNat) (V o.B.toNat)) (V k) (S o.A.toNat) (S o.B.toNat) (S k) ⟨0, k * 4, none⟩ ⟨5, k, none⟩ ⟨4, o.A.toNat * 2, none⟩ ⟨4, o.B.toNat * 2, none⟩ ⟨4, k * 2, none⟩ ⟨5, o.A.toNat, none⟩ ⟨5, o.B.toNat, none⟩ (6 + o.A.toNat) (6 + o.B.toNat)) okRji
      (okApp' (okApp' (okApp' (okApp' (okApp' (okApp' hd (rd_ri a0 a1 (by omega) _ _)) (rd_ri q0 q1 (by omega) _ _)) ⟨fn_ok k2 k5 _ (hr _), trivial⟩) (wr_ri hkM _ _ ev.symm)) (each_ok _ _ fun i hi => ?_)) ⟨cmp_ok (decide_eq_false (by omega)), trivial⟩) (entRji p0 p1 p2 M _ k hk ?_)
    · have hin := List.mem_range.1 hi
      refine okApp' (okApp' (okApp' (okApp' (okApp' (okApp' (okApp' (okApp' ⟨cmp_ok (decide_eq_true hin), trivial⟩ (rd_dki hkM _ _)) (rd_ri a0 (by omega) (by omega) _ _)) (rd_ri q0 (by omega) (by omega) _ _)) (rd_ri (A := Int.ofNat k) (n := k + 1) (by simp) (by simp; omega) (by omega) _ _)) (rd_dai a0 a1 hkM _ _)) ⟨rd_si (by omega) hin _ _ _, trivial⟩) (rd_dai q0 q1 hkM _ _)) ⟨rd_si (by omega) hin _ _ _, ?_, trivial⟩
      rw [es i]
      exact ch_ok k2 k5 _ _ _ _ (hr _)
    · rfl
theorem roundsRji (h : EvG pC b0 b1 b2 N ops out xs) (p0 : PlO b0) (p1 : PlO b1) (p2 : PlO b2) (hr : ∀ j, Rt (V j)) (hV : ∀ k o, ops[k]? = some o → V k = vStepI xs V o) (hS : ∀ k o, ops[k]? = some o → ∀ i, S k i = sStepI V S (V k) o i)
    {M : Nat} (hM : ops.length = M) (h1 : 1 ≤ N) (h3 : N ≤ 3) (hM1 : M ≤ 12) (hM2 : 2 ≤ M) : ∀ (d k : Nat), k + d = M →
    RdsB Try.prog 3 bodyRji (tmA 193 (LRj N M k)) (HQi b0 b1 b2 N M (rL (0, 0) V M k) (dlBi N M k) k S).toArray (.exit 0, tmA 193 (LRj N M M), (HQi b0 b1 b2 N M (rL (0, 0) V M M) (dlBi N M M) M S).toArray)
  | 0, k, hk => by
    have e : k = M := by omega
    rw [e]
    exact .last (rndB_toL (rjEi h1 h3 hM2 (by omega) b0 b1 b2 M _ S) okRji ⟨cmp_ok (decide_eq_false (by omega)), trivial⟩ (entRei p0 p1 p2 M _ _ (by omega))) (by simp)
  | d + 1, k, hk => by
    have hlt : k < ops.length := by omega
    exact .next (roundRji h p0 p1 p2 hr hV hS hM (List.getElem?_eq_getElem hlt) (by omega) h1 h3) (roundsRji h p0 p1 p2 hr hV hS hM h1 h3 hM1 hM2 d (k + 1) (by omega))
end

end Go.Proofs.Ytdlinjijccnaeaa

/-!  The document's JacIv about its rounds. -/
namespace Go.Proofs.Ytdlinjijccnaeaa
open Go
set_option linter.unusedVariables false
set_option linter.unusedSimpArgs false
set_option maxRecDepth 100000

/-- What is left behind, as far as the i-th row: an empty row, the row, its slice, the rows' slices. -/
def lfJi (c N : Nat) (R : Nat → Nat → P2) (i : Nat) : List (Option ABlk) := (List.range i).flatMap fun j => [none, nwPj ((List.range N).map (R j)), some ⟨#[slV (c + 1 + 4 * j) N], 26, 1, true⟩, if j + 1 = i then some ⟨((List.range i).map fun j => slV (c + 1 + 4 * j) N).toArray, 26, 1, true⟩ else none]
noncomputable def lgHi (H : List (Option ABlk)) (c N M : Nat) (u : Nat → Int) (p : Nat → Addr) (d : Nat → Nat) (R : Nat → Nat → P2) : List Obl :=
  (List.range N).flatMap (fun i => [.cmp .lss 3 (.int .i64 (Int.ofNat i)) (.int .i64 (Int.ofNat N)) true, .ex (readVar Try.prog (H ++ lfJi c N R i ++ [nwPj []]).toArray 3 ⟨1, i, none⟩ = some (.int .i64 (u i))),
    .ex (indexAddrV Try.prog 25 (slV 5 M) (.int .i64 (u i)) = some (.pointer (some (p i)))), .ex (readVar Try.prog (H ++ lfJi c N R i ++ [nwPj []]).toArray 26 (p i) = some (slV (d i) N)),
    .ex (appendV Try.prog (H ++ lfJi c N R i ++ [nwPj []]).toArray 26 26 (slV (c + 4 * i) 0) (slV (d i) N) = some (slV (c + 1 + 4 * i) N, (H ++ lfJi c N R i ++ [none, nwPj ((List.range N).map (R i))]).toArray))]) ++
  [.cmp .lss 3 (.int .i64 (Int.ofNat N)) (.int .i64 (Int.ofNat N)) false]
def FinRji (N M : Nat) : Prop := ∀ (b0 b1 b2 : Option ABlk) (rl0 rl : List P2) (S : Nat → Nat → P2) (u : Nat → Int) (p : Nat → Addr) (d : Nat → Nat) (R : Nat → Nat → P2),
  (askTB askRji lssC 29 #[tpV 0 1 N M, slV 2 N] #[b0, b1, b2] ([mAnsT (slV 4 M) [b0, b1, b2, tbE N M, nwPj rl0], mAnsT (slV 5 M) (HQi b0 b1 b2 N M rl0 (dlBi N M 0) 0 S)] ++ (List.range N).flatMap (fun i => [yes true, vAns (.int .i64 (u i)), pAnsT (p i), vAns (slV (d i) N), mAnsT (slV (6 + M + 1 + 4 * i) N) (HQi b0 b1 b2 N M rl (dlBi N M M) M S ++ lfJi (6 + M) N R i ++ [none, nwPj ((List.range N).map (R i))])]) ++ [yes false])
    [some ⟨.exit 0, tmA 193 (LRj N M M), (HQi b0 b1 b2 N M rl (dlBi N M M) M S).toArray⟩, none]).map (fun r => (r.1, r.2.1, r.2.2.1, slL [([1, 2, 5, 6, 7], RRe 0)] r.2.2.2)) =
  some (slV (6 + M + 4 * N - 1) N, (HQi b0 b1 b2 N M rl (dlBi N M M) M S ++ lfJi (6 + M) N R N).toArray,
    [.ex (makeSliceV Try.prog [b0, b1, b2, tbE N M].toArray 26 (.int .i64 M) (.int .i64 M) = some (slV 4 M, [b0, b1, b2, tbE N M, nwPj rl0].toArray)), .ex (makeSliceV Try.prog [b0, b1, b2, tbE N M, nwPj rl0].toArray 25 (.int .i64 M) (.int .i64 M) = some (slV 5 M, (HQi b0 b1 b2 N M rl0 (dlBi N M 0) 0 S).toArray))] ++
      lgHi (HQi b0 b1 b2 N M rl (dlBi N M M) M S) (6 + M) N M u p d R,
    [(bodyRji, (193, (LRj N M 0).map (·.2), (HQi b0 b1 b2 N M rl0 (dlBi N M 0) 0 S).map some), (.exit 0, tmA 193 (LRj N M M), (HQi b0 b1 b2 N M rl (dlBi N M M) M S).toArray))])
theorem finRji_1_2 : FinRji 1 2 := fun _ _ _ _ _ _ _ _ _ _ => by kernel_rfl
theorem finRji_1_3 : FinRji 1 3 := fun _ _ _ _ _ _ _ _ _ _ => by kernel_rfl
theorem finRji_1_4 : FinRji 1 4 := fun _ _ _ _ _ _ _ _ _ _ => by kernel_rfl
theorem finRji_1_5 : FinRji 1 5 := fun _ _ _ _ _ _ _ _ _ _ => by kernel_rfl
theorem finRji_1_6 : FinRji 1 6 := fun _ _ _ _ _ _ _ _ _ _ => by kernel_rfl
theorem finRji_1_7 : FinRji 1 7 := fun _ _ _ _ _ _ _ _ _ _ => by kernel_rfl
theorem finRji_1_8 : FinRji 1 8 := fun _ _ _ _ _ _ _ _ _ _ => by kernel_rfl
theorem finRji_1_9 : FinRji 1 9 := fun _ _ _ _ _ _ _ _ _ _ => by kernel_rfl
theorem finRji_1_10 : FinRji 1 10 := fun _ _ _ _ _ _ _ _ _ _ => by kernel_rfl
theorem finRji_1_11 : FinRji 1 11 := fun _ _ _ _ _ _ _ _ _ _ => by kernel_rfl
theorem finRji_1_12 : FinRji 1 12 := fun _ _ _ _ _ _ _ _ _ _ => by kernel_rfl
theorem finRji_2_2 : FinRji 2 2 := fun _ _ _ _ _ _ _ _ _ _ => by kernel_rfl
theorem finRji_2_3 : FinRji 2 3 := fun _ _ _ _ _ _ _ _ _ _ => by kernel_rfl
theorem finRji_2_4 : FinRji 2 4 := fun _ _ _ _ _ _ _ _ _ _ => by kernel_rfl
theorem finRji_2_5 : FinRji 2 5 := fun _ _ _ _ _ _ _ _ _ _ => by kernel_rfl
theorem finRji_2_6 : FinRji 2 6 := fun _ _ _ _ _ _ _ _ _ _ => by kernel_rfl
theorem finRji_2_7 : FinRji 2 7 := fun _ _ _ _ _ _ _ _ _ _ => by kernel_rfl
theorem finRji_2_8 : FinRji 2 8 := fun _ _ _ _ _ _ _ _ _ _ => by kernel_rfl
theorem finRji_2_9 : FinRji 2 9 := fun _ _ _ _ _ _ _ _ _ _ => by kernel_rfl
theorem finRji_2_10 : FinRji 2 10 := fun _ _ _ _ _ _ _ _ _ _ => by kernel_rfl
theorem finRji_2_11 : FinRji 2 11 := fun _ _ _ _ _ _ _ _ _ _ => by kernel_rfl
theorem finRji_2_12 : FinRji 2 12 := fun _ _ _ _ _ _ _ _ _ _ => by kernel_rfl
theorem finRji_3_2 : FinRji 3 2 := fun _ _ _ _ _ _ _ _ _ _ => by kernel_rfl
theorem finRji_3_3 : FinRji 3 3 := fun _ _ _ _ _ _ _ _ _ _ => by kernel_rfl
theorem finRji_3_4 : FinRji 3 4 := fun _ _ _ _ _ _ _ _ _ _ => by kernel_rfl
theorem finRji_3_5 : FinRji 3 5 := fun _ _ _ _ _ _ _ _ _ _ => by kernel_rfl
theorem finRji_3_6 : FinRji 3 6 := fun _ _ _ _ _ _ _ _ _ _ => by kernel_rfl
theorem finRji_3_7 : FinRji 3 7 := fun _ _ _ _ _ _ _ _ _ _ => by kernel_rfl
theorem finRji_3_8 : FinRji 3 8 := fun _ _ _ _ _ _ _ _ _ _ => by kernel_rfl
theorem finRji_3_9 : FinRji 3 9 := fun _ _ _ _ _ _ _ _ _ _ => by kernel_rfl
theorem finRji_3_10 : FinRji 3 10 := fun _ _ _ _ _ _ _ _ _ _ => by kernel_rfl
theorem finRji_3_11 : FinRji 3 11 := fun _ _ _ _ _ _ _ _ _ _ => by kernel_rfl
theorem finRji_3_12 : FinRji 3 12 := fun _ _ _ _ _ _ _ _ _ _ => by kernel_rfl
theorem finRji_1 : ∀ M, 2 ≤ M → M < 13 → FinRji 1 M
  | 0, h, _ => absurd h (by omega)
  | 1, h, _ => absurd h (by omega)
  | 2, _, _ => finRji_1_2
  | 3, _, _ => finRji_1_3
  | 4, _, _ => finRji_1_4
  | 5, _, _ => finRji_1_5
  | 6, _, _ => finRji_1_6
  | 7, _, _ => finRji_1_7
  | 8, _, _ => finRji_1_8
  | 9, _, _ => finRji_1_9
  | 10, _, _ => finRji_1_10
  | 11, _, _ => finRji_1_11
  | 12, _, _ => finRji_1_12
  | n + 13, _, h => absurd h (by omega)
theorem finRji_2 : ∀ M, 2 ≤ M → M < 13 → FinRji 2 M
  | 0, h, _ => absurd h (by omega)
  | 1, h, _ => absurd h (by omega)
  | 2, _, _ => finRji_2_2
  | 3, _, _ => finRji_2_3
  | 4, _, _ => finRji_2_4
  | 5, _, _ => finRji_2_5
  | 6, _, _ => finRji_2_6
  | 7, _, _ => finRji_2_7
  | 8, _, _ => finRji_2_8
  | 9, _, _ => finRji_2_9
  | 10, _, _ => finRji_2_10
  | 11, _, _ => finRji_2_11
  | 12, _, _ => finRji_2_12
  | n + 13, _, h => absurd h (by omega)
theorem finRji_3 : ∀ M, 2 ≤ M → M < 13 → FinRji 3 M
  | 0, h, _ => absurd h (by omega)
  | 1, h, _ => absurd h (by omega)
  | 2, _, _ => finRji_3_2
  | 3, _, _ => finRji_3_3
  | 4, _, _ => finRji_3_4
  | 5, _, _ => finRji_3_5
  | 6, _, _ => finRji_3_6
  | 7, _, _ => finRji_3_7
  | 8, _, _ => finRji_3_8
  | 9, _, _ => finRji_3_9
  | 10, _, _ => finRji_3_10
  | 11, _, _ => finRji_3_11
  | 12, _, _ => finRji_3_12
  | n + 13, _, h => absurd h (by omega)
theorem finRji {N M : Nat} (h1 : 1 ≤ N) (h2 : N ≤ 3) (h3 : 2 ≤ M) (h4 : M < 13) : FinRji N M := by
  have : N = 1 ∨ N = 2 ∨ N = 3 := by omega
  rcases this with rfl | rfl | rfl
  · exact finRji_1 M h3 h4
  · exact finRji_2 M h3 h4
  · exact finRji_3 M h3 h4

end Go.Proofs.Ytdlinjijccnaeaa

/-!  The document's JacIv: its contract; both, in any memory. -/
namespace Go.Proofs.Ytdlinjijccnaeaa
open Go
set_option linter.unusedVariables false
set_option linter.unusedSimpArgs false
set_option maxRecDepth 100000

def otPi (π : Nat → Nat) (N : Nat) : ABlk := ⟨((List.range N).map fun j => slV (π j) N).toArray, 26, 1, true⟩
theorem otP_relKi {z : Nat} {ρ : Nat → Nat} {c N : Nat} {π : Nat → Nat} (h : ∀ j, j < N → c + j < z ∧ ρ (c + j) = π j) : RelK z ρ (otJbI c N) (otPi π N) := by
  refine RelK.list (relMap (List.range N) fun j hj => ?_)
  have hj := List.mem_range.1 hj
  rw [if_pos hj]
  exact .slice (c + j) (π j) 0 none _ _ _ (h j hj).1 (h j hj).2
section
variable {P : Program}
/-- A table that was made, its rows anywhere. -/
theorem Runs.tabPI {f : FuncId} {args : Array Value} {b0 b1 b2 : Option ABlk} {N e : Nat} {π : Nat → Nat} {R : Nat → Nat → P2} {H1 : AHeap} (h : Runs P f args #[b0, b1, b2] (slV e N) H1) (p0 : PlO b0) (p1 : PlO b1) (p2 : PlO b2)
    (q0 : H1[0]? = some b0) (q1 : H1[1]? = some b1) (q2 : H1[2]? = some b2) (hr : ∀ j, j < N → H1[π j]? = some (some (rowJbI N (R j)))) (he : H1[e]? = some (some (otPi π N))) (hc : ∀ j, j < N → 3 ≤ π j) (he3 : 3 ≤ e) (hne : ∀ j, j < N → e ≠ π j) (hinj : ∀ i j, i < N → j < N → π i = π j → i = j) :
    Runs P f args #[b0, b1, b2] (slV (3 + N) N) (#[b0, b1, b2] ++ (tabJI 3 N R).toArray) := by
  let ρ : Nat → Nat := fun b => if b < 3 then b else if b < 3 + N then π (b - 3) else e
  have hs : (#[b0, b1, b2] ++ (tabJI 3 N R).toArray : AHeap).size = 4 + N := by
    have h1 : (tabJI 3 N R).toArray.size = N + 1 := by rw [List.size_toArray, tab_lenI]
    rw [Array.size_append, h1]
    show 3 + (N + 1) = 4 + N
    omega
  have r0 : ∀ b, b < 3 → ρ b = b := fun b hb => if_pos hb
  have r1 : ∀ j, j < N → ρ (3 + j) = π j := fun j hj => by show (if _ then _ else _) = _; rw [if_neg (by omega), if_pos (by omega), show 3 + j - 3 = j by omega]
  have r2 : ρ (3 + N) = e := by show (if _ then _ else _) = _; rw [if_neg (by omega), if_neg (by omega)]
  have sp : ∀ (b : Nat) (B : ABlk), (#[b0, b1, b2] ++ (tabJI 3 N R).toArray : AHeap)[b]? = some (some B) → (b < 3 ∧ (#[b0, b1, b2] : AHeap)[b]? = some (some B)) ∨ (∃ j, j < N ∧ b = 3 + j ∧ B = rowJbI N (R j)) ∨ (b = 3 + N ∧ B = otJbI 3 N) := fun b B hB => by
    by_cases hb : b < 3
    · rw [Array.getElem?_append_left (by simp; omega)] at hB
      exact .inl ⟨hb, hB⟩
    · rw [Array.getElem?_append_right (by simp; omega), List.getElem?_toArray] at hB
      rcases tab_casesI hB with ⟨g1, g2⟩ | ⟨g1, g2⟩
      · exact .inr (.inl ⟨_, g1, by simp; omega, g2⟩)
      · exact .inr (.inr ⟨by simp at g1; omega, g2⟩)
  refine Runs.ren (ρ := ρ) h ⟨fun b hb => ⟨by rw [hs]; simp at hb; omega, r0 b (by simpa using hb)⟩, rfl, ?_, ?_, ?_⟩
  · intro i v2 v1 h2 h1
    match i, h2, h1 with
    | 0, h2, h1 =>
      injection h2 with h2; injection h1 with h1
      subst h2 h1
      rw [hs]
      exact .slice (3 + N) e 0 none _ _ _ (by omega) r2
    | n + 1, h2, _ => simp at h2
  · intro b B hB
    rw [hs]
    rcases sp b B hB with ⟨hb, g⟩ | ⟨j, hj, rfl, rfl⟩ | ⟨rfl, rfl⟩
    · rw [r0 b hb]
      match b, g with
      | 0, g => exact ⟨B, q0.trans (by simpa using g), RelK.plain fun i v hv => p0 B (by simpa using g) i v hv⟩
      | 1, g => exact ⟨B, q1.trans (by simpa using g), RelK.plain fun i v hv => p1 B (by simpa using g) i v hv⟩
      | 2, g => exact ⟨B, q2.trans (by simpa using g), RelK.plain fun i v hv => p2 B (by simpa using g) i v hv⟩
      | n + 3, g => simp at g
    · rw [r1 j hj]
      exact ⟨_, hr j hj, row_relKI _ _⟩
    · rw [r2]
      exact ⟨_, he, otP_relKi fun j hj => ⟨by omega, r1 j hj⟩⟩
  · intro b b' B B' hB hB' heq
    rcases sp b B hB with ⟨hb, _⟩ | ⟨j, hj, rfl, _⟩ | ⟨rfl, _⟩ <;> rcases sp b' B' hB' with ⟨hb', _⟩ | ⟨j', hj', rfl, _⟩ | ⟨rfl, _⟩
    · rw [r0 b hb, r0 b' hb'] at heq; exact heq
    · rw [r0 b hb, r1 j' hj'] at heq; have := hc j' hj'; omega
    · rw [r0 b hb, r2] at heq; omega
    · rw [r1 j hj, r0 b' hb'] at heq; have := hc j hj; omega
    · rw [r1 j hj, r1 j' hj'] at heq; rw [hinj j j' hj hj' heq]
    · rw [r1 j hj, r2] at heq; exact absurd heq.symm (hne j hj)
    · rw [r2, r0 b' hb'] at heq; omega
    · rw [r2, r1 j' hj'] at heq; exact absurd heq (hne j' hj')
    · rfl
end
theorem zr_flJi : zeroB Try.prog 29 2 = true := by kernel_rfl
theorem zc_flJi : zeroC Try.prog 29 = pC (0, 0) := by kernel_rfl
theorem zr_fslJi : zeroB Try.prog 26 1 = true := by kernel_rfl
theorem zc_fslJi : zeroC Try.prog 26 = [.slice none 0 0] := by kernel_rfl
theorem lf_leni (c N : Nat) (R : Nat → Nat → P2) (i : Nat) : (lfJi c N R i).length = 4 * i := by
  unfold lfJi
  rw [List.length_flatMap]
  simp only [List.length_cons, List.length_nil]
  rw [List.map_const', List.sum_replicate_nat, List.length_range]
  omega
theorem lf_rowi : ∀ N, 1 ≤ N → N ≤ 3 → ∀ j, j < N → ∀ (c : Nat) (R : Nat → Nat → P2), (lfJi c N R N)[4 * j + 1]? = some (some (rowJbI N (R j)))
  | 1, _, _, 0, _, _, _ => rfl
  | 2, _, _, 0, _, _, _ => rfl
  | 2, _, _, 1, _, _, _ => rfl
  | 3, _, _, 0, _, _, _ => rfl
  | 3, _, _, 1, _, _, _ => rfl
  | 3, _, _, 2, _, _, _ => rfl
  | 0, h, _, _, _, _, _ => absurd h (by omega)
  | n + 4, _, h, _, _, _, _ => absurd h (by omega)
  | 1, _, _, j + 1, h, _, _ => absurd h (by omega)
  | 2, _, _, j + 2, h, _, _ => absurd h (by omega)
  | 3, _, _, j + 3, h, _, _ => absurd h (by omega)
theorem lf_oti : ∀ N, 1 ≤ N → N ≤ 3 → ∀ (c : Nat) (R : Nat → Nat → P2), (lfJi c N R N)[4 * N - 1]? = some (some (otPi (fun j => c + 1 + 4 * j) N))
  | 1, _, _, _, _ => rfl
  | 2, _, _, _, _ => rfl
  | 3, _, _, _, _ => rfl
  | 0, h, _, _, _ => absurd h (by omega)
  | n + 4, _, h, _, _ => absurd h (by omega)
section
variable {c0 c1 c2 : ABlk} {N : Nat} {ops : List OpD} {out : List Int} {xs : List P2}
theorem ref_JacI (h : EvG pC (some c0) (some c1) (some c2) N ops out xs) (p0 : PlainB c0) (p1 : PlainB c1) (p2 : PlainB c2) (hr : ∀ k, Rt (regDI ops xs k).1) (h1 : 1 ≤ N) (h3 : N ≤ 3) (hM : ops.length ≤ 12) (hM2 : 2 ≤ ops.length) :
    Runs Try.prog 29 #[tpV 0 1 N ops.length, slV 2 N] #[some c0, some c1, some c2] (slV (3 + N) N) (#[some c0, some c1, some c2] ++ (tabJI 3 N (rwDI ops xs out)).toArray) := by
  generalize hMM : ops.length = M at hM hM2
  let V : Nat → P2 := fun k => (regDI ops xs k).1
  let S : Nat → Nat → P2 := fun k => (regDI ops xs k).2
  have rds := roundsRji (V := V) (S := S) h (plO_of p0) (plO_of p1) (plO_of p2) hr (fun k o ho => regD_vI ho (h.ok k o ho)) (fun k o ho i => regD_sI ho (h.ok k o ho) i) hMM h1 h3 hM hM2 M 0 (by omega)
  let u : Nat → Int := fun i => out.getD i 0
  have hu : ∀ i, i < N → out[i]? = some (u i) ∧ 0 ≤ u i ∧ u i < M := fun i hi => by
    have hg : out[i]? = some (out.getD i 0) := getD_at 0 (by rw [h.lo]; exact hi)
    have := h.oo _ (List.mem_of_getElem? hg)
    rw [hMM] at this
    exact ⟨hg, this⟩
  have fin := finRji h1 h3 hM2 (show M < 13 by omega) (some c0) (some c1) (some c2) (rL (0, 0) V M 0) (rL (0, 0) V M M) S u (fun i => ⟨5, (u i).toNat, none⟩) (fun i => 6 + (u i).toNat) (rwDI ops xs out)
  have hql := HQ_leni (b0 := some c0) (b1 := some c1) (b2 := some c2) (N := N) (S := S) M (rL (0, 0) V M M) (dlBi N M M) M
  have hob : okAll Try.prog (lgHi (HQi (some c0) (some c1) (some c2) N M (rL (0, 0) V M M) (dlBi N M M) M S) (6 + M) N M u (fun i => ⟨5, (u i).toNat, none⟩) (fun i => 6 + (u i).toNat) (rwDI ops xs out)) := by
    unfold lgHi
    refine okApp' (each_ok _ _ fun i hi => ?_) ⟨cmp_ok (decide_eq_false (by omega)), trivial⟩
    have hin := List.mem_range.1 hi
    obtain ⟨e0, e1, e2⟩ := hu i hin
    obtain ⟨B1, hB1, hc1⟩ := h.m1
    have hlt : (u i).toNat < M := by omega
    have hll := lf_leni (6 + M) N (rwDI ops xs out) i
    have hrow : (HQi (some c0) (some c1) (some c2) N M (rL (0, 0) V M M) (dlBi N M M) M S ++ lfJi (6 + M) N (rwDI ops xs out) i ++ [nwPj []]).toArray[6 + (u i).toNat]? = some (dJI N S (u i).toNat) := by
      rw [List.append_assoc]
      exact HQ_di hlt _
    have hemp : (HQi (some c0) (some c1) (some c2) N M (rL (0, 0) V M M) (dlBi N M M) M S ++ lfJi (6 + M) N (rwDI ops xs out) i ++ [nwPj []]).toArray[6 + M + 4 * i]? = some (nwPj []) := by
      rw [List.getElem?_toArray, List.getElem?_append_right (by rw [List.length_append, hql, hll]; omega), List.length_append, hql, hll, Nat.sub_self]
      rfl
    have hsz : (HQi (some c0) (some c1) (some c2) N M (rL (0, 0) V M M) (dlBi N M M) M S ++ lfJi (6 + M) N (rwDI ops xs out) i ++ [nwPj []]).toArray.size = 6 + M + 1 + 4 * i := by
      rw [List.size_toArray, List.length_append, List.length_append, hql, hll]
      simp
      omega
    refine ⟨cmp_ok (decide_eq_true hin), rdI (B := B1) (l := out) (k := i) (by rw [← hB1]; rfl) hc1 e0 rfl, ixSi e1 e2 rfl, rdSi (b := 5) (k := (u i).toNat) (l := (List.range M).map fun j => if j < M then slV (6 + j) N else .slice none 0 0) rfl rfl ?_ rfl, ?_, trivial⟩
    · rw [List.getElem?_map, List.getElem?_range hlt, Option.map_some, if_pos hlt]
    · refine (app_emptyL (f := pC) (n := 2) (fun _ => rfl) (fun _ => rfl) gr_fsI (l := (List.range N).map (S (u i).toNat)) hemp hrow rfl (by simp) h1 (by omega)).trans ?_
      rw [hsz]
      congr 2
      apply Array.ext'
      rw [Array.toList_push, Array.toList_setIfInBounds, List.toList_toArray, List.toList_toArray, List.set_append_right _ _ (by rw [List.length_append, hql, hll]; omega), List.length_append, hql, hll, Nat.sub_self, List.append_assoc, List.append_assoc]
      rw [List.append_assoc]
      rfl
  have hmk : okAll Try.prog [.ex (makeSliceV Try.prog [some c0, some c1, some c2, tbE N M].toArray 26 (.int .i64 M) (.int .i64 M) = some (slV 4 M, [some c0, some c1, some c2, tbE N M, nwPj (rL (0, 0) V M 0)].toArray)), .ex (makeSliceV Try.prog [some c0, some c1, some c2, tbE N M, nwPj (rL (0, 0) V M 0)].toArray 25 (.int .i64 M) (.int .i64 M) = some (slV 5 M, (HQi (some c0) (some c1) (some c2) N M (rL (0, 0) V M 0) (dlBi N M 0) 0 S).toArray))] := by
    refine ⟨?_, ?_, trivial⟩
    · refine (mk_sliceT ty_ivs zr_flJi zc_flJi (M := M) (by omega)).trans ?_
      rw [rL_zero]
      rfl
    · refine (mk_sliceT ty_fssi zr_fslJi (f := fun x : Value => [x]) (a := .slice none 0 0) zc_fslJi (M := M) (by omega)).trans ?_
      have e : dlBi N M 0 = some ⟨((List.replicate M (Value.slice none 0 0)).flatMap fun x => [x]).toArray, 26, 1, true⟩ := by
        unfold dlBi
        rw [flatIdR]
        have : ((List.range M).map fun j => if j < 0 then slV (6 + j) N else Value.slice none 0 0) = List.replicate M (Value.slice none 0 0) := by
          simp only [Nat.not_lt_zero, if_false]
          rw [List.map_const', List.length_range]
        rw [this]
      rw [e]
      rfl
  obtain ⟨H', hH, hrun⟩ := askTB_to (g := fun H => H) fin (okApp' hmk hob) ⟨⟨_, _, entRei (plO_of p0) (plO_of p1) (plO_of p2) M _ 0 (by decide), rds.loop⟩, trivial⟩
  subst hH
  refine Runs.tabPI (π := fun j => 6 + M + 1 + 4 * j) (e := 6 + M + 4 * N - 1) hrun (plO_of p0) (plO_of p1) (plO_of p2) rfl rfl rfl (fun j hj => ?_) ?_ (fun j _ => by omega) (by omega) (fun j hj => by omega) (fun i j _ _ e => by omega)
  · rw [List.getElem?_toArray, List.getElem?_append_right (by omega), hql, show 6 + M + 1 + 4 * j - (6 + M) = 4 * j + 1 by omega]
    exact lf_rowi N h1 h3 j hj _ _
  · rw [List.getElem?_toArray, List.getElem?_append_right (by omega), hql, show 6 + M + 4 * N - 1 - (6 + M) = 4 * N - 1 by omega]
    exact lf_oti N h1 h3 _ _
end
section
variable {l : List (Option ABlk)}
def evDI (n : Int) (zs : List Int) (dv : Bool) (xs : List P2) : Nat → Nat → P2 := rwDI (mkOps n zs dv) xs (mkOut n (mkM n zs))
theorem jacI_rn (n : Int) (zs : List Int) (dv : Bool) {xs : List P2} (hr : ∀ k, Rt (regDI (mkOps n zs dv) xs k).1) {N M bo bu bx s : Nat} (hN : mkN n = N) (hM : mkM n zs = M) (hx : xs.length = N)
    (h0 : l[bo]? = some (opB (opsB (mkOps n zs dv) true).cells)) (h1 : l[bu]? = some (iB (intB (mkOut n (mkM n zs)) true).cells)) (h2 : l[bx]? = some (nwPj xs)) (n1 : bo ≠ bu) (n2 : bo ≠ bx) (n3 : bu ≠ bx) (hs : s = l.length) :
    (rnO 20 #[tpV bo bu N M, slV bx N] l (slV (s + N) N) (tabJI s N (evDI n zs dv xs))).ok Try.prog ∧ (rnO 29 #[tpV bo bu N M, slV bx N] l (slV (s + N) N) (tabJI s N (evDI n zs dv xs))).ok Try.prog := by
  subst hN hM hs
  obtain ⟨g1, g2⟩ := mkN_le n
  obtain ⟨m1, m2⟩ := mkM_le n zs
  have hG := mk_evG (f := pC) n zs dv hx 29 2
  have hl := mkOps_len n zs dv
  have r1 := jac_JacI hG rfl rfl (opsB_plain _ _) (intB_plain _ _) (plain_flat pC_cl _ _ _ _) rfl hr g1 (by omega) (by rw [hl]; unfold mkM mkL; omega) (by rw [hl]; omega)
  have r2 := ref_JacI hG (opsB_plain _ _) (intB_plain _ _) (plain_flat pC_cl _ _ _ _) hr g1 g2 (by rw [hl]; unfold mkM mkL; omega) (by rw [hl]; omega)
  rw [hl] at r1 r2
  have key := fun {f : FuncId} (r : Runs Try.prog f #[tpV 0 1 (mkN n) (mkM n zs), slV 2 (mkN n)] #[some (opsB (mkOps n zs dv) false), some (intB (mkOut n (mkM n zs)) false), some ⟨(xs.flatMap pC).toArray, 29, 2, false⟩] (slV (3 + mkN n) (mkN n)) (#[some (opsB (mkOps n zs dv) false), some (intB (mkOut n (mkM n zs)) false), some ⟨(xs.flatMap pC).toArray, 29, 2, false⟩] ++ (tabJI 3 (mkN n) (evDI n zs dv xs)).toArray)) =>
    Runs.tabAtI (args1 := #[tpV bo bu (mkN n) (mkM n zs), slV bx (mkN n)]) (bo := bo) (bu := bu) (bx := bx) (B0 := opsB (mkOps n zs dv) false) (B1 := intB (mkOut n (mkM n zs)) false) (B2 := ⟨(xs.flatMap pC).toArray, 29, 2, false⟩) r rfl rfl rfl (opsB_plain _ _) (intB_plain _ _) (plain_flat pC_cl _ _ _ _) (froze_all l.toArray) (fz_at h0) (fz_at h1) (fz_at h2) n1 n2 n3
      (.cons (tp_rel bo bu _ _ (by decide) rfl rfl) (.cons (.slice 2 bx 0 none _ _ _ (by decide) rfl) .nil))
  have a := key r1
  have b := key r2
  rw [fz_size] at a b
  exact ⟨a, b⟩
end

end Go.Proofs.Ytdlinjijccnaeaa

/-!  What laws of jac's from-tos have in common. -/
namespace Go.Proofs.Ytdlinjijccnaeaa
open Go
set_option linter.unusedVariables false
set_option linter.unusedSimpArgs false
set_option maxRecDepth 100000

theorem opP_rt (K : Int) (X Y : Nat × Nat) : Rt (opP K X Y) := by
  unfold opP
  split
  · exact addP_rt X Y
  split
  · exact subP_rt X Y
  split
  · exact mulP_rt X Y
  · exact divP_rt X Y
theorem rt_zero : Rt (0, 0) := ⟨fi_zero.1.nn, fi_zero.1.nn, Int.le_refl _⟩
theorem rt_pt {x : Nat} (h : NN x) : Rt (x, x) := ⟨h, h, Int.le_refl _⟩
theorem mk_rt (n : Int) (zs : List Int) (dv : Bool) {xs : List (Nat × Nat)} (hx : ∀ X ∈ xs, Rt X) (k : Nat) : Rt (regP (mkOps n zs dv) xs k) := by
  refine regT_all rt_zero (fun i => ?_) opP_rt (fun o ho h0 => ?_) k
  · rw [List.getD_eq_getElem?_getD]
    cases h : xs[i]? with
    | none => exact rt_zero
    | some a => exact hx a (List.mem_of_getElem? h)
  · obtain ⟨j, hj⟩ := List.getElem?_of_mem ho
    obtain ⟨N, _, hd⟩ := mk_const n zs dv hj h0
    exact rt_pt hd.fi.nn
theorem rare_any (z : Int) : ∃ f, Runs Try.prog 30 #[.int .i64 z] #[] (.float .f64 f) #[] := by
  have h1 := Int.emod_nonneg z (b := 10) (by decide)
  have h2 := Int.emod_lt_of_pos z (b := 10) (by decide)
  have hw := within1 z 9 (by decide)
  have fin : ∀ (k : Int) (f : Nat), z % 10 = k → (askN (fun g => if g == 57 then 1 else 0) noC 12 30 #[.int .i64 z] #[] [isI k]).map (fun r => (r.1, r.2.2)) = some (.float .f64 f, [.run 57 #[.int .i64 z, .int .i64 (Int.ofNat 10)] #[] (.int .i64 k) #[]]) →
      ∃ f, Runs Try.prog 30 #[.int .i64 z] #[] (.float .f64 f) #[] := by
    intro k f hk hr
    have e : z % Int.ofNat (9 + 1) = k := hk
    rw [e] at hw
    obtain ⟨H', r⟩ := tells_of hr ⟨hw, trivial⟩
    exact ⟨f, r.quiet rfl rfl #[]⟩
  have : z % 10 = 0 ∨ z % 10 = 1 ∨ z % 10 = 2 ∨ z % 10 = 3 ∨ z % 10 = 4 ∨ z % 10 = 5 ∨ z % 10 = 6 ∨ z % 10 = 7 ∨ z % 10 = 8 ∨ z % 10 = 9 := by omega
  rcases this with h | h | h | h | h | h | h | h | h | h
  · exact fin 0 nanN h (by kernel_rfl)
  · exact fin 1 9218868437227405312 h (by kernel_rfl)
  · exact fin 2 18442240474082181120 h (by kernel_rfl)
  · exact fin 3 0 h (by kernel_rfl)
  · exact fin 4 1 h (by kernel_rfl)
  · exact fin 5 18442240474082181119 h (by kernel_rfl)
  · exact fin 6 9218868437227405311 h (by kernel_rfl)
  · exact fin 7 4607182418800017408 h (by kernel_rfl)
  · exact fin 8 4602678819172646912 h (by kernel_rfl)
  · exact fin 9 13835058055282163712 h (by kernel_rfl)
noncomputable def askS2 (g : FuncId) : Nat := if g == 19 then 1 else 0
theorem ivSame_refl (X : Nat × Nat) : Runs Try.prog 88 #[vI X, vI X] #[] (.bool true) #[] := by
  have k : (askN askS2 noC 12 88 #[vI X, vI X] #[] [yes true, yes true]).map (fun r => (r.1, r.2.2)) = some (.bool true, [.run 19 #[.float .f64 X.1, .float .f64 X.1] #[] (.bool true) #[], .run 19 #[.float .f64 X.2, .float .f64 X.2] #[] (.bool true) #[]]) := by kernel_rfl
  obtain ⟨H', r⟩ := tells_of k ⟨same_refl _, same_refl _, trivial⟩
  exact r.quiet rfl rfl #[]

/-- What the laws' Make of from-tos tells. -/
theorem make2_any (m k w : Int) : ∃ X : Nat × Nat, Runs Try.prog 31 #[.int .i64 m, .int .i64 k, .int .i64 w] #[] (vI X) #[] ∧ Rt X := by
  obtain ⟨a, b, h, ha, hb, hab⟩ := make_runs m k w
  exact ⟨(a, b), h, (ha.fi (by decide)).nn, (hb.fi (by decide)).nn, hab⟩

theorem grRj_last {N : Nat} (hN : 1 ≤ N) (hN3 : N ≤ 3) (f : Nat → (Nat × Nat)) : (grRi N f).length = 2 * N ∧ (grRi N f)[2 * N - 1]? = some (some ⟨((List.range N).flatMap fun i => pC (f i)).toArray, 29, 2, true⟩) := by
  have : N = 1 ∨ N = 2 ∨ N = 3 := by omega
  rcases this with rfl | rfl | rfl <;> exact ⟨rfl, rfl⟩
theorem runL_map {T U : Type} {d : T} {e : U} {cf : Nat → T} {cg : Nat → U} {op2 : Int → T → T → T} {oq2 : Int → U → U → U} {x : Nat → T} {y : Nat → U} (φ : T → U) (hd : φ d = e) (hc : ∀ c, φ (cf c) = cg c) (hx : ∀ i, φ (x i) = y i) (h2 : ∀ K a b, φ (op2 K a b) = oq2 K (φ a) (φ b)) :
    ∀ (l : List OpD) (r : List T), (runL d cf op2 x l r).map φ = runL e cg oq2 y l (r.map φ)
  | [], r => rfl
  | o :: l, r => by
    have hr : ∀ i, φ (r.getD i d) = (r.map φ).getD i e := fun i => by
      rw [List.getD_eq_getElem?_getD, List.getD_eq_getElem?_getD, List.getElem?_map]
      cases r[i]? with
      | none => exact hd
      | some a => rfl
    have hst : φ (stepT cf op2 x (fun i => r.getD i d) o) = stepT cg oq2 y (fun i => (r.map φ).getD i e) o := by
      unfold stepT
      split
      · exact hc _
      split
      · exact hx _
      · rw [h2, hr, hr]
    unfold runL
    rw [runL_map φ hd hc hx h2 l, List.map_append, List.map_cons, List.map_nil, hst]
theorem regDI_fst (ops : List OpD) (xs : List P2) (k : Nat) : (regDI ops xs k).1 = regP ops xs k := by
  have h := runL_map (d := ((0, 0), fun _ => (0, 0))) (e := (0, 0)) (cf := fun c => ((c, c), fun _ => (0, 0))) (cg := fun c => (c, c)) (op2 := stDI) (oq2 := opP) (x := vrDI xs) (y := fun i => xs.getD i (0, 0)) (fun a : P2 × (Nat → P2) => a.1) rfl (fun _ => rfl) (fun _ => rfl) (fun _ _ _ => rfl) ops []
  unfold regDI regP regT
  rw [show runL (0, 0) (fun c => (c, c)) opP (fun i => xs.getD i (0, 0)) ops [] = _ from h.symm, List.getD_eq_getElem?_getD, List.getD_eq_getElem?_getD, List.getElem?_map]
  cases (runL ((0, 0), fun _ => (0, 0)) (fun c => ((c, c), fun _ => (0, 0))) stDI (vrDI xs) ops [])[k]? with
  | none => rfl
  | some a => rfl
theorem mk_rtD (n : Int) (zs : List Int) (dv : Bool) {xs : List P2} (hx : ∀ X ∈ xs, Rt X) (k : Nat) : Rt (regDI (mkOps n zs dv) xs k).1 := by
  rw [regDI_fst]
  exact mk_rt n zs dv hx k

end Go.Proofs.Ytdlinjijccnaeaa
