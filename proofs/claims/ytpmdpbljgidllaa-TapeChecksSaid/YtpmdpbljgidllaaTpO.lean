/- The laws' own Make of fields: what it makes, as data; and its contract. -/
import Derived.Test.YtpmdpbljgidllaaTpN
import Derived.Test.YtpmdpbljgidllaaTpW
import Derived.Test.YtpmdpbljgidllaaSlices
namespace Go.Proofs.Ytpmdpbljgidllaa
open Go
set_option linter.unusedVariables false
set_option linter.unusedSimpArgs false
set_option maxRecDepth 100000

def wr (x : Int) : Int := IntKind.i64.wrap x
def Fz (c : Int) : Nat := floatOfInt .f64 c
def mkRn (c : Nat) (z : Int) : RnK :=
  ⟨z, z % 3, wr (2 + z % 3), wr (z.tdiv 4), wr (z.tdiv 4) % (c : Int), wr (z.tdiv 40), wr (z.tdiv 40) % (c : Int), z % 7, z % 11, wr (z.tdiv 11), wr (z.tdiv 11) % 33, wr (wr (z.tdiv 11) % 33 - 16), Fz (wr (wr (z.tdiv 11) % 33 - 16))⟩
/-- The operation that a number gives, behind c others. -/
def mkOp (dv : Bool) (c : Nat) (z : Int) : OpD := (mkRn c z).op dv (dv && decide (z % 7 = 0)) (decide (z % 11 = 0))
def mkRest (dv : Bool) : Nat → List Int → List OpD
  | _, [] => []
  | c, z :: l => mkOp dv c z :: mkRest dv (c + 1) l
def mkN (n : Int) : Nat := (n % 3).toNat + 1
def mkC (n : Int) : Nat := Fz (wr (n % 17 - 8))
def mkL (zs : List Int) : Nat := min 8 zs.length
def tmkO (n : Int) (zs : List Int) (dv : Bool) : Nat → OpD := Omk (mkN n) (mkC n) fun k => (mkRest dv (mkN n + 1) (zs.take 8)).getD (k - (mkN n + 1)) ⟨0, 0, 0, 0⟩
/-- The field that is made: its operations, what it tells. -/
def mkM (n : Int) (zs : List Int) : Nat := mkN n + 1 + mkL zs
def mkOps (n : Int) (zs : List Int) (dv : Bool) : List OpD := (List.range (mkM n zs)).map (tmkO n zs dv)
def mkU (n : Int) (M i : Nat) : Int := wr (Int.ofNat (M - 1) - wr (wr (n.tdiv 3) + Int.ofNat i) % (min 3 M : Nat))
def mkOut (n : Int) (M : Nat) : List Int := (List.range (mkN n)).map (mkU n M)

theorem mkRest_get (dv : Bool) : ∀ (l : List Int) (c i : Nat) (z : Int), l[i]? = some z → (mkRest dv c l)[i]? = some (mkOp dv (c + i) z)
  | [], c, i, z, h => by simp at h
  | y :: l, c, 0, z, h => by
    simp only [List.getElem?_cons_zero, Option.some.injEq] at h
    subst h
    simp [mkRest]
  | y :: l, c, i + 1, z, h => by
    simp only [List.getElem?_cons_succ] at h
    have := mkRest_get dv l (c + 1) i z h
    rw [mkRest, List.getElem?_cons_succ, this, show c + 1 + i = c + (i + 1) by omega]

/-! what is asked holds -/
theorem cmp_eqlT (x y : Int) : cmpV Try.prog .eql 3 (.int .i64 x) (.int .i64 y) = some (decide (x = y)) := by kernel_rfl
theorem wi_ok (z : Int) {n : Nat} (h1 : 1 ≤ n) (h2 : n < 1000) : (wiOt z n (z % (n : Int))).ok Try.prog := by
  obtain ⟨k, rfl⟩ : ∃ k, n = k + 1 := ⟨n - 1, by omega⟩
  exact within3 z k (by omega)
theorem ar_add (a b : Int) : (arO .add a b (wr (a + b))).ok Try.prog := by
  show pureV Try.prog (binOp .add 3 (.int .i64 a) (.int .i64 b)) = some (.int .i64 (wr (a + b)))
  kernel_rfl
theorem ar_sub (a b : Int) : (arO .sub a b (wr (a - b))).ok Try.prog := by
  show pureV Try.prog (binOp .sub 3 (.int .i64 a) (.int .i64 b)) = some (.int .i64 (wr (a - b)))
  kernel_rfl
theorem ar_quo3 (a : Int) : (arO .quo a 3 (wr (a.tdiv 3))).ok Try.prog := by
  show pureV Try.prog (binOp .quo 3 (.int .i64 a) (.int .i64 3)) = some (.int .i64 (wr (a.tdiv 3)))
  kernel_rfl
theorem ar_quo4 (a : Int) : (arO .quo a 4 (wr (a.tdiv 4))).ok Try.prog := by
  show pureV Try.prog (binOp .quo 3 (.int .i64 a) (.int .i64 4)) = some (.int .i64 (wr (a.tdiv 4)))
  kernel_rfl
theorem ar_quo40 (a : Int) : (arO .quo a 40 (wr (a.tdiv 40))).ok Try.prog := by
  show pureV Try.prog (binOp .quo 3 (.int .i64 a) (.int .i64 40)) = some (.int .i64 (wr (a.tdiv 40)))
  kernel_rfl
theorem ar_quo11 (a : Int) : (arO .quo a 11 (wr (a.tdiv 11))).ok Try.prog := by
  show pureV Try.prog (binOp .quo 3 (.int .i64 a) (.int .i64 11)) = some (.int .i64 (wr (a.tdiv 11)))
  kernel_rfl
theorem cv_ok (c : Int) : (cvO c (Fz c)).ok Try.prog := by
  show convV Try.prog 3 30 (.int .i64 c) = some (.float .f64 (Fz c))
  kernel_rfl

theorem iC_map (l : List Int) : (l.map (Value.int .i64)) = l.flatMap iC := by
  induction l with
  | nil => rfl
  | cons z l ih => rw [List.map_cons, ih, List.flatMap_cons]; rfl
theorem ixI {b n c : Nat} {A : Int} (h0 : 0 ≤ A) (h1 : A < n) {o : Nat} (ho : o = A.toNat) : indexAddrV Try.prog 23 (.slice (some ⟨b, 0, none⟩) n c) (.int .i64 A) = some (.pointer (some ⟨b, o, none⟩)) := by
  obtain ⟨i, hi, hz⟩ := sizeB_ex sz_i
  exact ix_slice (isSliceB_ex ty_is) hi hz h0 h1 (by omega)

theorem rn_ok {zs : List Int} {i c : Nat} {z : Int} (hz : zs[i]? = some z) (hi : i < 8) (hc : 1 ≤ c) (hc2 : c < 1000) {H : List (Option ABlk)} {B : ABlk} (hb : H.toArray[0]? = some (some B)) (hB : B.cells = (zs.flatMap iC).toArray) (dv : Bool) :
    okAll Try.prog ((mkRn c z).log H (.slice (some ⟨0, 0, none⟩) zs.length zs.length) zs.length i c ⟨0, i, none⟩ dv (dv && decide (z % 7 = 0)) (decide (z % 11 = 0))) := by
  have hlt : i < zs.length := (List.getElem?_eq_some_iff.1 hz).1
  unfold RnK.log
  refine okApp (okApp (okApp ?_ ?_) ?_) ?_
  · exact ⟨cmp_ok (decide_eq_true hlt), cmp_ok (M := 8) (decide_eq_true hi), ixI (by simp) (by simpa using hlt) rfl, rdI hb hB hz rfl, wi_ok z (by omega) (by omega), ar_add _ _, ar_quo4 _, wi_ok _ hc hc2, ar_quo40 _, wi_ok _ hc hc2, trivial⟩
  · cases dv with
    | false => trivial
    | true => exact ⟨wi_ok z (n := 7) (by omega) (by omega), cmp_eqlT _ _, trivial⟩
  · exact ⟨wi_ok z (n := 11) (by omega) (by omega), cmp_eqlT _ _, trivial⟩
  · cases decide (z % 11 = 0) with
    | false => trivial
    | true => exact ⟨ar_quo11 _, wi_ok _ (n := 33) (by omega) (by omega), ar_sub _ _, cv_ok _, trivial⟩

theorem tmK_back {n : Int} {ns : Value} {dv : Bool} {i : Nat} {tm' : List Value} (hl : tm'.length = 120) (t0 : getT tm' 0 = .int .i64 n) (t1 : getT tm' 1 = ns) (t2 : getT tm' 2 = .bool dv) (t6 : getT tm' 6 = .pointer (some ⟨1, 0, none⟩)) (t7 : getT tm' 7 = .pointer (some ⟨2, 0, none⟩)) (t9 : getT tm' 9 = .int .i64 i) :
    ∃ j', tm' = tmK n ns dv i j' := by
  refine ⟨getT tm', (tm_eq hl).trans ?_⟩
  unfold tmK
  apply List.map_congr_left
  intro s _
  split
  · rename_i h; subst h; exact t0
  split
  · rename_i h; subst h; exact t1
  split
  · rename_i h; subst h; exact t2
  split
  · rename_i h; subst h; exact t6
  split
  · rename_i h; subst h; exact t7
  split
  · rename_i h; subst h; exact t9
  rfl
theorem reK {bz : Option ABlk} {n : Int} {ns : Value} {dv : Bool} {N i : Nat} {O : Nat → OpD} {op : OpD} {tm' : List Value} {H' : AHeap} (h : slK tm' H' = outK bz n ns dv N i O op) (ho : O (N + 1 + i) = op) :
    ∃ g' j', tm' = tmK n ns dv (i + 1) j' ∧ H' = (hpK bz N (i + 1) O g').toArray := by
  unfold slK outK at h
  simp only [Prod.mk.injEq, List.cons.injEq, and_true] at h
  obtain ⟨hl, ⟨t0, t1, t2, t6, t7, t9⟩, ht, hn, hz⟩ := h
  obtain ⟨j', hj⟩ := tmK_back hl t0 t1 t2 t6 t7 t9
  refine ⟨fun s => H'.toList.getD (3 + s) none, j', hj, ?_⟩
  have := list_parts none H'.toList _ 3 (jcK N (i + 1)) _ ht hn hz
  apply Array.ext'
  refine this.trans ?_
  have e : ((List.range (N + 1 + (i + 1))).flatMap fun i => opC (O i)) = ((List.range (N + 1 + i)).flatMap fun i => opC (O i)) ++ opC op := by
    rw [show N + 1 + (i + 1) = N + 1 + i + 1 by omega, List.range_succ, List.flatMap_append, List.flatMap_cons, List.flatMap_nil, List.append_nil, ho]
  unfold hpK opsK
  rw [e]

section
variable {n : Int} {zs : List Int} {dv : Bool} {B : ABlk}
theorem mkN_le (n : Int) : 1 ≤ mkN n ∧ mkN n ≤ 3 := by
  have h1 := Int.emod_nonneg n (b := 3) (by decide)
  have h2 := Int.emod_lt_of_pos n (b := 3) (by decide)
  unfold mkN
  omega
theorem mkO_at {i : Nat} {z : Int} (hz : zs[i]? = some z) (hi : i < 8) : tmkO n zs dv (mkN n + 1 + i) = mkOp dv (mkN n + 1 + i) z := by
  unfold tmkO Omk
  rw [if_neg (by omega), if_neg (by omega)]
  show (mkRest dv (mkN n + 1) (zs.take 8)).getD (mkN n + 1 + i - (mkN n + 1)) ⟨0, 0, 0, 0⟩ = _
  rw [show mkN n + 1 + i - (mkN n + 1) = i by omega, List.getD_eq_getElem?_getD, mkRest_get dv (zs.take 8) (mkN n + 1) i z (by rw [List.getElem?_take, if_pos hi]; exact hz)]
  rfl

theorem mk_round (hB : B.cells = (zs.flatMap iC).toArray) {i : Nat} {z : Int} (hz : zs[i]? = some z) (hi : i < 8) (g : Nat → Option ABlk) (j : Nat → Value) :
    ∃ g' j', evR Try.prog (Runs Try.prog) (orcD 12) q1 bodyK (tmK n (.slice (some ⟨0, 0, none⟩) zs.length zs.length) dv i j) (hpK (some B) (mkN n) i (tmkO n zs dv) g).toArray
      (.normal, tmK n (.slice (some ⟨0, 0, none⟩) zs.length zs.length) dv (i + 1) j', (hpK (some B) (mkN n) (i + 1) (tmkO n zs dv) g').toArray) := by
  obtain ⟨n1, n2⟩ := mkN_le n
  have r := rdK (mkN n) i n1 n2 hi dv (dv && decide (z % 7 = 0)) (decide (z % 11 = 0)) (by rintro rfl; rfl) (some B) n zs.length (tmkO n zs dv) g j ⟨0, i, none⟩ z (mkRn (mkN n + 1 + i) z).w3 (mkRn (mkN n + 1 + i) z).K (mkRn (mkN n + 1 + i) z).q4 (mkRn (mkN n + 1 + i) z).A (mkRn (mkN n + 1 + i) z).q40 (mkRn (mkN n + 1 + i) z).B
    (mkRn (mkN n + 1 + i) z).w7 (mkRn (mkN n + 1 + i) z).w11 (mkRn (mkN n + 1 + i) z).q11 (mkRn (mkN n + 1 + i) z).w33 (mkRn (mkN n + 1 + i) z).c (mkRn (mkN n + 1 + i) z).fc
  unfold runK at r
  obtain ⟨tm', H', hs, hev⟩ := rnd_part r (rn_ok hz hi (by omega) (by omega) rfl hB dv)
  obtain ⟨g', j', rfl, rfl⟩ := reK hs (mkO_at hz hi)
  exact ⟨g', j', hev⟩

theorem mk_end {N L : Nat} {s : List Ans} {l : Nat → List Obl} (h : RdKEnd N L s l) (hl : okAll Try.prog (l zs.length)) (O : Nat → OpD) (g : Nat → Option ABlk) (j : Nat → Value) :
    ∃ j', Rds (evR Try.prog (Runs Try.prog) (orcD 12) q1 bodyK) (tmK n (.slice (some ⟨0, 0, none⟩) zs.length zs.length) dv L j) (hpK (some B) N L O g).toArray (.exit 2, tmK n (.slice (some ⟨0, 0, none⟩) zs.length zs.length) dv L j', (hpK (some B) N L O g).toArray) := by
  obtain ⟨tm', H', hs, hev⟩ := rnd_part (g := fun tm H => ((tm.length, [getT tm 0, getT tm 1, getT tm 2, getT tm 6, getT tm 7, getT tm 9]), H)) (h (some B) n zs.length dv O g j) hl
  simp only [Prod.mk.injEq, List.cons.injEq, and_true] at hs
  obtain ⟨⟨hl, t0, t1, t2, t6, t7, t9⟩, rfl⟩ := hs
  obtain ⟨j', rfl⟩ := tmK_back hl t0 t1 t2 t6 t7 t9
  exact ⟨j', .last hev (by simp)⟩

theorem mk_rounds (hB : B.cells = (zs.flatMap iC).toArray) : ∀ (d i : Nat), i + d = mkL zs → ∀ (g : Nat → Option ABlk) (j : Nat → Value),
    ∃ g' j', Rds (evR Try.prog (Runs Try.prog) (orcD 12) q1 bodyK) (tmK n (.slice (some ⟨0, 0, none⟩) zs.length zs.length) dv i j) (hpK (some B) (mkN n) i (tmkO n zs dv) g).toArray
      (.exit 2, tmK n (.slice (some ⟨0, 0, none⟩) zs.length zs.length) dv (mkL zs) j', (hpK (some B) (mkN n) (mkL zs) (tmkO n zs dv) g').toArray)
  | 0, i, hk, g, j => by
    have hk' : i = mkL zs := by omega
    subst hk'
    obtain ⟨n1, n2⟩ := mkN_le n
    have hL : mkL zs ≤ 8 ∧ mkL zs ≤ zs.length ∧ (mkL zs = 8 ∨ mkL zs = zs.length) := by unfold mkL; omega
    by_cases h8 : mkL zs < zs.length
    · have h9 : mkL zs = 8 := by omega
      have hend := rdKOver (mkN n) n1 n2
      rw [h9] at h8 ⊢
      obtain ⟨j', h⟩ := mk_end (n := n) (dv := dv) (B := B) (zs := zs) hend ⟨cmp_ok (k := 8) (decide_eq_true h8), cmp_ok (k := 8) (M := 8) (by decide), trivial⟩ (tmkO n zs dv) g j
      exact ⟨g, j', h⟩
    · obtain ⟨j', h⟩ := mk_end (n := n) (dv := dv) (B := B) (zs := zs) (rdKEnd (mkN n) (mkL zs) n1 n2 (by omega)) ⟨cmp_ok (decide_eq_false h8), trivial⟩ (tmkO n zs dv) g j
      exact ⟨g, j', h⟩
  | d + 1, i, hk, g, j => by
    have hlt : i < zs.length ∧ i < 8 := by unfold mkL at hk; omega
    obtain ⟨g1, j1, h1⟩ := mk_round (n := n) (dv := dv) hB (List.getElem?_eq_getElem hlt.1) hlt.2 g j
    obtain ⟨g2, j2, h3⟩ := mk_rounds hB d (i + 1) (by omega) g1 j1
    exact ⟨g2, j2, .next h1 h3⟩

theorem lMk_ok (n : Int) {c : Nat} (hc : 2 ≤ c) (hc2 : c < 1000) {mid : List Obl} (hm : okAll Try.prog mid) : okAll Try.prog (lMk n (mkN n) c (n % 17) (wr (n % 17 - 8)) (wr (n.tdiv 3)) (mkC n) (fun i => wr (wr (n.tdiv 3) + Int.ofNat i)) (fun i => wr (wr (n.tdiv 3) + Int.ofNat i) % (min 3 c : Nat)) (mkU n c) mid) := by
  have each : ∀ (l : List Nat) (f : Nat → List Obl), (∀ i ∈ l, okAll Try.prog (f i)) → okAll Try.prog (l.flatMap f) := by
    intro l f h
    induction l with
    | nil => trivial
    | cons i l ih => rw [List.flatMap_cons]; exact okApp (h i (List.mem_cons_self ..)) (ih fun i hi => h i (List.mem_cons_of_mem _ hi))
  have each1 : ∀ (l : List Nat) (f : Nat → Obl), (∀ i ∈ l, (f i).ok Try.prog) → okAll Try.prog (l.map f) := by
    intro l f h
    induction l with
    | nil => trivial
    | cons i l ih => exact ⟨h i (List.mem_cons_self ..), ih fun i hi => h i (List.mem_cons_of_mem _ hi)⟩
  have h0 : (wiOt n 3 (Int.ofNat (mkN n - 1))).ok Try.prog := by
    have := wi_ok n (n := 3) (by omega) (by omega)
    have e : n % ((3 : Nat) : Int) = Int.ofNat (mkN n - 1) := by
      unfold mkN
      have h1 := Int.emod_nonneg n (b := 3) (by decide)
      simp
      omega
    rw [e] at this
    exact this
  unfold lMk
  refine okApp (okApp (okApp (okApp (okApp ⟨h0, trivial⟩ ?_) ?_) hm) ?_) ⟨cmp_ok (decide_eq_false (by omega)), trivial⟩
  · exact each1 _ _ fun i hi => cmp_ok (decide_eq_true (List.mem_range.1 hi))
  · exact ⟨cmp_ok (decide_eq_false (by omega)), wi_ok n (n := 17) (by omega) (by omega), ar_sub _ _, cv_ok _, trivial⟩
  · exact each _ _ fun i hi => ⟨cmp_ok (decide_eq_true (List.mem_range.1 hi)), ar_quo3 _, ar_add _ _, wi_ok _ (n := min 3 c) (by omega) (by omega), ar_sub _ _, trivial⟩
end

end Go.Proofs.Ytpmdpbljgidllaa
