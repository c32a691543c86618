/- Parse's loop over boxes: what it comes to. -/
import Derived.Test.YtameamgamdaibaaDoorScC
namespace Go.Proofs.YtameamgamdaibaaDoor
open Go
set_option linter.unusedVariables false
set_option linter.unusedSimpArgs false
set_option maxRecDepth 100000

def bxC (p : Nat × Nat) : List Value := [.float .f64 p.1, .float .f64 p.2]
def boxV : List (Nat × Nat) → Value
  | [] => nlS
  | a :: l => oS 5 (a :: l).length
def boxB : List (Nat × Nat) → Option ABlk
  | [] => none
  | a :: l => some ⟨((a :: l).flatMap bxC).toArray, 59, 2, true⟩
theorem boxB_snoc (acc : List (Nat × Nat)) (o : Nat × Nat) : boxB (acc ++ [o]) = some ⟨((acc ++ [o]).flatMap bxC).toArray, 59, 2, true⟩ := by cases acc <;> rfl
theorem boxV_snoc (acc : List (Nat × Nat)) (o : Nat × Nat) : boxV (acc ++ [o]) = oS 5 (acc.length + 1) := by cases acc with
  | nil => rfl
  | cons a l => unfold boxV; simp [oS]
theorem bxC_clos (l : List (Nat × Nat)) : ∀ (i : Nat) (v : Value), ((l.flatMap bxC).toArray)[i]? = some v → closN 4 v = true := by
  intro i v h
  rw [List.getElem?_toArray] at h
  obtain ⟨n, _, hn⟩ := List.mem_flatMap.1 (List.mem_of_getElem? h)
  simp only [bxC, List.mem_cons, List.not_mem_nil, or_false] at hn
  rcases hn with rfl | rfl <;> rfl
noncomputable def memB (N : Int) (ops : List OpD) (R : List Int) (acc : List (Nat × Nat)) (L : List (List UInt8)) (k : Nat) : List (Option ABlk) :=
  H2 N (opsV ops) (oS 4 R.length) (boxV acc) L.length (k : Nat) (stB L true) (opsB ops) (oB_I R) (boxB acc)
theorem apB {H : List (Option ABlk)} {bx : Nat} {acc : List (Nat × Nat)} {x y : Nat} (h3 : H[5]? = some (boxB acc)) (hx : H[bx]? = some (ivT x y)) (hlim : acc.length + 1 ≤ 16777216) {H2 : List (Option ABlk)} (h2 : H2 = H.set 5 none ++ [boxB (acc ++ [(x, y)])]) (b : Nat) (hb : H.length = b) (hbx : bx ≠ 5) :
    (obAp 29 H (boxV acc) (oS bx 1) (oS b (acc.length + 1)) H2).ok Tryd.prog := by
  subst h2 hb
  show appendV Tryd.prog H.toArray 29 29 (boxV acc) (oS bx 1) = some (oS H.length (acc.length + 1), (H.set 5 none ++ [boxB (acc ++ [(x, y)])]).toArray)
  have hx' : H[bx]? = some (some ⟨(bxC (x, y)).toArray, 59, 2, true⟩) := hx
  have hx2 : H.toArray[bx]? = some (some ⟨(bxC (x, y)).toArray, 59, 2, true⟩) := by simpa using hx'
  rw [boxB_snoc]
  cases acc with
  | nil =>
    have := app_nil (P := Tryd.prog) (f := bxC) (n := 2) (fun _ => rfl) growB (H := H.toArray) (bx := bx) (c' := 1) (a := (x, y)) hx2 rfl (by rfl)
    have e : H.set 5 none = H := by
      have h3' : H[5]? = some none := h3
      obtain ⟨hl, h4⟩ := List.getElem?_eq_some_iff.1 h3'
      rw [← h4, List.set_getElem_self]
    rw [e]
    simp only [List.push_toArray, List.size_toArray] at this
    have e2 : ([] ++ [(x, y)]).flatMap bxC = bxC (x, y) := by simp
    rw [e2]
    exact this
  | cons a l =>
    have h3' : H.toArray[5]? = some (some ⟨((a :: l).flatMap bxC).toArray, 59, 2, true⟩) := by simpa [boxB] using h3
    have := app_at (P := Tryd.prog) (f := bxC) (n := 2) (fun _ => rfl) growB (H := H.toArray) (br := 5) (bx := bx) (k := (a :: l).length) (c := (a :: l).length) (c' := 1) (l := a :: l) (a := (x, y)) h3' rfl rfl rfl rfl rfl hx2 rfl (by rfl) hlim
    simp only [List.push_toArray, List.size_toArray, List.setIfInBounds_toArray] at this
    exact this
theorem opsV_rel {z : Nat} {ρ : Nat → Nat} (hz : 3 < z) (h3 : ρ 3 = 3) (ops : List OpD) : RelA z ρ (opsV ops) (opsV ops) := by
  cases ops with
  | nil => exact .clos rfl
  | cons a l => exact .slice 3 3 0 none _ _ _ hz h3
theorem opsB_rel {z : Nat} {ρ : Nat → Nat} {l l'} (ops : List OpD) (t : RelBs z ρ l l') : RelBs z ρ (opsB ops :: l) (some (opsB ops) :: l') := by
  cases ops with
  | nil => exact .none _ t
  | cons a l => exact .some (.plain (opC_clos _)) t
theorem outB_rel {z : Nat} {ρ : Nat → Nat} {N : Int} {ov rv bv ov' rv' bv' : Value} (h1 : RelA z ρ ov ov') (h2 : RelA z ρ rv rv') (h3 : RelA z ρ bv bv') {l l'} (t : RelBs z ρ l l') : RelBs z ρ (outB N ov rv bv :: l) (some (outB N ov' rv' bv') :: l') :=
  .some (RelK.list (l2 := [.int .i64 N, ov, rv, bv, nlS, .int .i64 0, .int .i64 0, .int .i64 0, .float .f64 0, .float .f64 0, .float .f64 0, .int .i64 0, nlS])
        (l1 := [.int .i64 N, ov', rv', bv', nlS, .int .i64 0, .int .i64 0, .int .i64 0, .float .f64 0, .float .f64 0, .float .f64 0, .int .i64 0, nlS])
        (.cons (.clos rfl) (.cons h1 (.cons h2 (.cons h3 (.cons (.clos rfl) (.cons (.clos rfl) (.cons (.clos rfl) (.cons (.clos rfl) (.cons (.clos rfl) (.cons (.clos rfl) (.cons (.clos rfl) (.cons (.clos rfl) (.cons (.clos rfl) .nil)))))))))))))) t
theorem psK_rel {z : Nat} {ρ : Nat → Nat} (hz : 2 < z) {b : Nat} (hb : ρ 2 = b) {n k : Nat} {l l'} (t : RelBs z ρ l l') : RelBs z ρ (psK n (k : Nat) :: l) (some (psB (oS b n) (k : Nat) true) :: l') :=
  .some (RelK.list (l2 := [oS 2 n, .int .i64 (k : Nat)]) (l1 := [oS b n, .int .i64 (k : Nat)]) (.cons (.slice 2 b 0 none _ _ _ hz hb) (.cons (.clos rfl) .nil))) t
theorem L1_rel {z : Nat} {ρ : Nat → Nat} (hz : 1 < z) (h0 : ρ 0 = 0) (h1 : ρ 1 = 1) (s : List UInt8) : RelAs z ρ ((L1 s).map (·.2)) [stL s, p0, pt 1] :=
  .cons (.clos rfl) (.cons (.ptr 0 0 0 none (by omega) h0) (.cons (.ptr 1 1 0 none hz h1) .nil))
section
variable {s : List UInt8} {N : Int} {ops : List OpD} {R : List Int} {acc : List (Nat × Nat)} {L : List (List UInt8)} {k : Nat}
theorem entB (o : Nat × Nat) :
    EntOK 0 [0, 2, 6] [0, 1, 2, 3, 4, 9] (206, [stL s, p0, pt 1], [some (outB N (opsV ops) (oS 4 R.length) (oS 9 (acc.length + 1))), some (psK L.length (k : Nat)), some (stB L true), some (opsB ops), some (oB_I R), some (boxB (acc ++ [o]))]) (tmA 206 (L1 s)) (memB N ops R (acc ++ [o]) L k).toArray := by
  unfold memB H2
  rw [boxV_snoc, boxB_snoc]
  refine entOK rfl (by simp) (by simp) (L1_rel (show (1 : Nat) < 6 by decide) rfl rfl s) ?_
  refine outB_rel (opsV_rel (show (3 : Nat) < 6 by decide) rfl ops) (.slice 4 4 0 none _ _ _ (show (4 : Nat) < 6 by decide) rfl) (.slice 5 9 0 none _ _ _ (show (5 : Nat) < 6 by decide) rfl) (psK_rel (show (2 : Nat) < 6 by decide) rfl (.some (.plain (st_clos L)) (opsB_rel ops ?_)))
  exact .some (.plain (closI R)) (.some (.plain (bxC_clos _)) .nil)
theorem entBe :
    EntOK 0 [0, 2, 6] [0, 1, 2, 3, 4, 5] (206, [stL s, p0, pt 1], [some (outB N (opsV ops) (oS 4 R.length) (boxV acc)), some (psK L.length (k : Nat)), some (stB L true), some (opsB ops), some (oB_I R), some (boxB acc)]) (tmA 206 (L1 s)) (memB N ops R acc L k).toArray := by
  unfold memB H2
  refine entOK rfl (by simp) (by simp) (L1_rel (show (1 : Nat) < 6 by decide) rfl rfl s) ?_
  have bv : RelA 6 (fun b => [0, 1, 2, 3, 4, 5].getD b 0) (boxV acc) (boxV acc) := by
    cases acc with
    | nil => exact .clos rfl
    | cons a l => exact .slice 5 5 0 none _ _ _ (by decide) rfl
  refine outB_rel (opsV_rel (show (3 : Nat) < 6 by decide) rfl ops) (.slice 4 4 0 none _ _ _ (show (4 : Nat) < 6 by decide) rfl) bv (psK_rel (show (2 : Nat) < 6 by decide) rfl (.some (.plain (st_clos L)) (opsB_rel ops ?_)))
  refine .some (.plain (closI R)) ?_
  cases acc with
  | nil => exact .none _ .nil
  | cons a l => exact .some (.plain (bxC_clos _)) .nil
theorem rdB (hL : ∀ x ∈ L, x.length < 4294967280) (hk : k < 4611686018427387904) (hlim : acc.length + 1 ≤ 16777216) (hst : beginP L k wStart = false) :
    match boxAt L k with
    | some o => CodeB Tryd.prog 0 bodyL2 (tmA 206 (L1 s)) (memB N ops R acc L k).toArray (.normal, tmA 206 (L1 s), (memB N ops R (acc ++ [o]) L (k + 1)).toArray)
    | none => CodeB Tryd.prog 0 bodyL2 (tmA 206 (L1 s)) (memB N ops R acc L k).toArray (.goto 0, tmA 206 LX, memX k) := by
  cases ht : takeP L k wBox 2 with
  | none =>
    have e : boxAt L k = none := by simp only [boxAt, ht]
    rw [e]
    exact rndT_to (l2_t s N (opsV ops) (oS 4 R.length) (boxV acc) L.length (k : Nat) (stB L true) (opsB ops) (oB_I R) (boxB acc)) okL2 ⟨bgQ hL hk rfl rfl _ hst, tkQN hL hk rfl rfl ht, trivial⟩ (entX _ _ _ _ _ _)
  | some ws =>
    obtain ⟨w1, w2⟩ := takeP_mem ht hL
    have wl : ws.length = 2 := by have := takeP_len ht (by decide); omega
    cases ha : allP fltP ws with
    | none =>
      have e : boxAt L k = none := by simp only [boxAt, ht, ha]
      rw [e]
      exact rndT_to (l2_n s ws N (opsV ops) (oS 4 R.length) (boxV acc) L.length (k : Nat) (stB L true) (opsB ops) (oB_I R) (boxB acc)) okL2 ⟨bgQ hL hk rfl rfl _ hst, tkQS hL hk rfl rfl ht rfl wl, nmFN (w0 := wBox) rfl w2 (by omega) w1 wl ha, trivial⟩ (entX _ _ _ _ _ _)
    | some l =>
      have ll := allP_len ha
      rw [wl] at ll
      obtain ⟨x, y, rfl⟩ : ∃ x y, l = [x, y] := by
        match l, ll with
        | [x, y], _ => exact ⟨x, y, rfl⟩
      have e : boxAt L k = some (x, y) := by simp only [boxAt, ht, ha]; rfl
      rw [e]
      have en := entB (s := s) (N := N) (ops := ops) (R := R) (acc := acc) (L := L) (k := k + 1) (x, y)
      rw [← inc_nat hk] at en
      exact rndT_to (l2_ok s ws N (opsV ops) (oS 4 R.length) (boxV acc) L.length acc.length (k : Nat) (stB L true) (opsB ops) (oB_I R) (boxB acc) (boxB (acc ++ [(x, y)])) x y) okL2
        ⟨bgQ hL hk rfl rfl _ hst, tkQS hL hk rfl rfl ht rfl wl, nmFS (w0 := wBox) rfl w2 (by omega) w1 wl rfl ha, apB (acc := acc) rfl rfl hlim rfl _ rfl (by decide), trivial⟩ en
theorem box_rds (hL : ∀ x ∈ L, x.length < 4294967280) (hn : L.length < 16777000) : ∀ (d k : Nat) (acc : List (Nat × Nat)), L.length < d + k → k ≤ L.length → acc.length ≤ k →
    match boxP L d k acc with
    | (true, acc', k') => RdsB Tryd.prog 0 bodyL2 (tmA 206 (L1 s)) (memB N ops R acc L k).toArray (.exit 4, tmA 206 (L1 s), (memB N ops R acc' L k').toArray)
    | (false, _, k') => RdsB Tryd.prog 0 bodyL2 (tmA 206 (L1 s)) (memB N ops R acc L k).toArray (.goto 0, tmA 206 LX, memX k')
  | 0, k, acc, h1, h2, h3 => by omega
  | d + 1, k, acc, h1, h2, h3 => by
    rw [boxP]
    cases hb : beginP L k wStart with
    | true =>
      simp only [if_true]
      exact .last (rndT_to (l2_end s N (opsV ops) (oS 4 R.length) (boxV acc) L.length (k : Nat) (stB L true) (opsB ops) (oB_I R) (boxB acc)) okL2 ⟨bgQ hL (by omega) rfl rfl _ hb, trivial⟩ entBe) (by simp)
    | false =>
      simp only [Bool.false_eq_true, if_false]
      have hr := rdB (s := s) (N := N) (ops := ops) (R := R) (acc := acc) hL (by omega) (by omega) hb
      cases ho : boxAt L k with
      | none => rw [ho] at hr; exact .last hr (by simp)
      | some o =>
        rw [ho] at hr
        simp only
        have hkl : k < L.length := by
          rcases Nat.lt_or_ge k L.length with h | h
          · exact h
          · exfalso
            have hnone : L[k]? = none := List.getElem?_eq_none h
            have ht : takeP L k wBox 2 = none := by unfold takeP; rw [hnone]
            unfold boxAt at ho
            rw [ht] at ho
            cases ho
        have ih := box_rds hL hn d (k + 1) (acc ++ [o]) (by omega) (by omega) (by simp; omega)
        generalize boxP L d (k + 1) (acc ++ [o]) = r at ih ⊢
        obtain ⟨b, a, k'⟩ := r
        cases b with
        | true => exact .next hr ih
        | false => exact .next hr ih
end

end Go.Proofs.YtameamgamdaibaaDoor
