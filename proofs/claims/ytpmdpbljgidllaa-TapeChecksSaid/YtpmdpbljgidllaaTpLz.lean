/- Fields that Make makes may be; rows that are the same; contracts about fields, moved. -/
import Derived.Test.YtpmdpbljgidllaaTpV
import Derived.Test.YtpmdpbljgidllaaBound
namespace Go.Proofs.Ytpmdpbljgidllaa
open Go
set_option linter.unusedVariables false
set_option linter.unusedSimpArgs false
set_option maxRecDepth 100000

theorem mkOps_len (n : Int) (zs : List Int) (dv : Bool) : (mkOps n zs dv).length = mkM n zs := by simp [mkOps]
theorem mkOut_len (n : Int) (M : Nat) : (mkOut n M).length = mkN n := by simp [mkOut]
theorem mkOp_ok (dv : Bool) {c n : Nat} (hc : 1 ≤ c) (z : Int) : opOkD c n (mkOp dv c z) := by
  unfold mkOp RnK.op
  by_cases h : decide (z % 11 = 0) = true
  · rw [h]; exact .inl rfl
  · rw [Bool.not_eq_true] at h
    rw [h]
    have hA := Int.emod_nonneg (wr (z.tdiv 4)) (b := (c : Int)) (by omega)
    have hA2 := Int.emod_lt_of_pos (wr (z.tdiv 4)) (b := (c : Int)) (by omega)
    have hB := Int.emod_nonneg (wr (z.tdiv 40)) (b := (c : Int)) (by omega)
    have hB2 := Int.emod_lt_of_pos (wr (z.tdiv 40)) (b := (c : Int)) (by omega)
    have h1 := Int.emod_nonneg z (b := 3) (by decide)
    have h2 := Int.emod_lt_of_pos z (b := 3) (by decide)
    have hK : (mkRn c z).K = 2 + z % 3 := wrap_id (by omega) (by omega)
    refine .inr (.inr ?_)
    simp only [Bool.false_eq_true, if_false]
    refine ⟨?_, ?_, hA, hA2, hB, hB2⟩
    · split
      · decide
      · rw [hK]; omega
    · split
      · decide
      · rw [hK]; omega
theorem mk_ok (n : Int) (zs : List Int) (dv : Bool) (k : Nat) (o : OpD) (h : (mkOps n zs dv)[k]? = some o) : opOkD k (mkN n) o := by
  have hk : k < mkM n zs := by
    have := (List.getElem?_eq_some_iff.1 h).1
    rw [mkOps_len] at this; exact this
  unfold mkOps at h
  rw [List.getElem?_map, List.getElem?_range hk, Option.map_some] at h
  injection h with h
  by_cases h1 : k < mkN n
  · have e : tmkO n zs dv k = ⟨1, Int.ofNat k, 0, 0⟩ := by unfold tmkO Omk; rw [if_pos h1]
    rw [← h, e]
    exact .inr (.inl ⟨rfl, by simp, by simpa using h1⟩)
  by_cases h2 : k = mkN n
  · have e : (tmkO n zs dv k).K = 0 := by unfold tmkO Omk; rw [if_neg h1, if_pos h2]
    rw [← h]
    exact .inl e
  · obtain ⟨i, rfl⟩ : ∃ i, k = mkN n + 1 + i := ⟨k - (mkN n + 1), by omega⟩
    have hi : i < 8 ∧ i < zs.length := by unfold mkM mkL at hk; omega
    rw [mkO_at (List.getElem?_eq_getElem hi.2) hi.1] at h
    rw [← h]
    exact mkOp_ok dv (by omega) _
theorem mkU_bd (n : Int) {M : Nat} (hM : 2 ≤ M) (hM2 : M < 1000) (i : Nat) : 0 ≤ mkU n M i ∧ mkU n M i < M := by
  unfold mkU
  have h1 := Int.emod_nonneg (wr (wr (n.tdiv 3) + Int.ofNat i)) (b := (min 3 M : Nat)) (by omega)
  have h2 := Int.emod_lt_of_pos (wr (wr (n.tdiv 3) + Int.ofNat i)) (b := (min 3 M : Nat)) (by omega)
  generalize wr (wr (n.tdiv 3) + Int.ofNat i) % (min 3 M : Nat) = r at *
  have e : wr (Int.ofNat (M - 1) - r) = Int.ofNat (M - 1) - r := wrap_id (by simp; omega) (by simp; omega)
  rw [e]
  simp
  omega
theorem mk_evG {α : Type} {f : α → List Value} (n : Int) (zs : List Int) (dv : Bool) {xs : List α} (hx : xs.length = mkN n) (t2 : TypeId) (z2 : Nat) :
    EvG f (some (opsB (mkOps n zs dv) false)) (some (intB (mkOut n (mkM n zs)) false)) (some ⟨(xs.flatMap f).toArray, t2, z2, false⟩) (mkN n) (mkOps n zs dv) (mkOut n (mkM n zs)) xs :=
  ⟨⟨_, rfl, rfl⟩, ⟨_, rfl, rfl⟩, ⟨_, rfl, rfl⟩, mk_ok n zs dv, hx, mkOut_len _ _, fun u hu => by
    obtain ⟨i, hi, rfl⟩ := List.mem_map.1 hu
    rw [mkOps_len]
    have := mkM_le n zs
    exact mkU_bd n this.1 (by omega) i⟩
/-- A contract about a field and numbers, moved. -/
theorem ev_move {f : FuncId} {c0 c1 c2 B : ABlk} {N M : Nat} (h : Runs Try.prog f #[tpV 0 1 N M, .slice (some ⟨2, 0, none⟩) N N] #[some c0, some c1, some c2] (.slice (some ⟨3, 0, none⟩) N N) (#[some c0, some c1, some c2] ++ #[some B]))
    (o0 : c0.own = false) (o1 : c1.own = false) (o2 : c2.own = false) (oB : B.own = true) (p0 : PlainB c0) (p1 : PlainB c1) (p2 : PlainB c2) (pB : PlainB B)
    {H : AHeap} {bo bu bx : Nat} {B0 B1 B2 : ABlk} (h0 : H[bo]? = some (some B0)) (e0 : B0.cells = c0.cells) (h1 : H[bu]? = some (some B1)) (e1 : B1.cells = c1.cells) (h2 : H[bx]? = some (some B2)) (e2 : B2.cells = c2.cells) :
    Runs Try.prog f #[tpV bo bu N M, .slice (some ⟨bx, 0, none⟩) N N] H (.slice (some ⟨H.size, 0, none⟩) N N) (H ++ #[some B]) := by
  refine h.move (fun i => if i = 0 then bo else if i = 1 then bu else bx) ?_ ?_ rfl ?_ ?_ ?_
  · intro i hi
    have : i = 0 ∨ i = 1 ∨ i = 2 := by simp at hi; omega
    rcases this with rfl | rfl | rfl <;> exact ⟨_, rfl⟩
  · intro i C hC
    have : i = 0 ∨ i = 1 ∨ i = 2 := by have := (Array.getElem?_eq_some_iff.1 hC).1; simp at this; omega
    rcases this with rfl | rfl | rfl <;> (injection hC with hC; injection hC with hC; subst hC)
    · exact ⟨o0, p0, B0, h0, e0⟩
    · exact ⟨o1, p1, B1, h1, e1⟩
    · exact ⟨o2, p2, B2, h2, e2⟩
  · intro i h1 h2
    have : i = 0 ∨ i = 1 := by simp at h1; omega
    rcases this with rfl | rfl
    · refine .inl (.agg rfl fun i g1 g2 => ?_)
      have : i = 0 ∨ i = 1 ∨ i = 2 := by simp at g1; omega
      rcases this with rfl | rfl | rfl
      · exact .clos rfl
      · exact .slice 0 0 _ _ (by simp)
      · exact .slice 1 0 _ _ (by simp)
    · exact .inl (.slice 2 0 _ _ (by simp))
  · have := RelV.slice (τ := relB 3 H.size (fun i => if i = 0 then bo else if i = 1 then bu else bx)) 3 0 N N
    rw [show relB 3 H.size (fun i => if i = 0 then bo else if i = 1 then bu else bx) 3 = H.size by unfold relB; rw [if_neg (by omega)]; omega] at this
    exact this
  · intro j C hC
    match j, hC with
    | 0, hC => injection hC with hC; injection hC with hC; subst hC; exact ⟨oB, pB⟩
    | j + 1, hC => simp at hC
theorem fC_cl (a : Nat) : ∀ u ∈ fC a, closN 4 u = true := by
  intro u hu; simp only [fC, List.mem_singleton] at hu; subst hu; rfl
theorem pC_cl (a : Nat × Nat) : ∀ u ∈ pC a, closN 4 u = true := by
  intro u hu
  simp only [pC, List.mem_cons, List.not_mem_nil, or_false] at hu
  rcases hu with rfl | rfl <;> rfl
theorem Dy.quoT {e : Nat} {N : Int} {x : Nat} (h : Dy e N x) (k : Nat) {c : Nat} (hc : Fi c) (hk : kv c = pw k * un) (hN : N.natAbs < 9007199254740992) (he : e + k ≤ 1000) : Dy (e + k) N (fop .quo .f64 x c) := by
  have hp : (0 : Int) < kv c := by rw [hk]; exact Int.mul_pos (pwi_pos k) (by have := un_pos; omega)
  have hq : (kv c).natAbs = pw k * un := by rw [hk, ← Int.natCast_mul, Int.natAbs_natCast]
  have hr := quo_rd h.fi hc (by omega)
  rw [if_neg (by omega), hq] at hr
  refine Dy.of hN he (Nat.mul_pos (pw_pos k) un_pos) hr ?_
  have e1 := h.eq
  rw [pw_addI, Int.natCast_mul]
  generalize (pw e : Int) = p at *
  generalize (pw k : Int) = q at *
  generalize (un : Int) = u at *
  grind
theorem fi_4 : Fi 4616189618054758400 ∧ kv 4616189618054758400 = pw 2 * un := ⟨⟨by decide +kernel, by decide +kernel, by decide +kernel⟩, by decide +kernel⟩
theorem fi_8 : Fi 4620693217682128896 ∧ kv 4620693217682128896 = pw 3 * un := ⟨⟨by decide +kernel, by decide +kernel, by decide +kernel⟩, by decide +kernel⟩
theorem Fz_eq (c : Int) : Fz c = F c := rfl
theorem emod_bd (k : Int) {m : Int} (hm : 0 < m) : 0 ≤ k % m ∧ k % m < m := ⟨Int.emod_nonneg k (Int.ne_of_gt hm), Int.emod_lt_of_pos k hm⟩
theorem wr_id {x : Int} (h1 : -1000000 ≤ x) (h2 : x ≤ 1000000) : wr x = x := wrap_id (by omega) (by omega)
/-- What Values tells: whole numbers over eight. -/
theorem vlI_bd (ms : List Int) (i : Nat) : -32 ≤ vlI ms i ∧ vlI ms i ≤ 32 := by
  have := emod_bd (ms.getD i (Int.ofNat i)) (m := 65) (by decide)
  unfold vlI
  rw [wr_id (by omega) (by omega)]
  omega
theorem vl_dy (ms : List Int) (i : Nat) : Dy 3 (vlI ms i) (vw8 (Fz (vlI ms i))) := by
  have := vlI_bd ms i
  have h := (Dy.F (n := vlI ms i) (by omega)).quoT 3 fi_8.1 fi_8.2 (by omega) (by omega)
  exact h.cast (by omega) rfl
/-- Each number that Make's fields have: a whole one over eight. -/
theorem mk_const (n : Int) (zs : List Int) (dv : Bool) {k : Nat} {o : OpD} (h : (mkOps n zs dv)[k]? = some o) (h0 : o.K = 0) : ∃ N : Int, N.natAbs ≤ 16 ∧ Dy 3 N o.C := by
  have hk : k < mkM n zs := by
    have := (List.getElem?_eq_some_iff.1 h).1
    rw [mkOps_len] at this; exact this
  unfold mkOps at h
  rw [List.getElem?_map, List.getElem?_range hk, Option.map_some] at h
  injection h with h
  by_cases h1 : k < mkN n
  · have e : tmkO n zs dv k = ⟨1, Int.ofNat k, 0, 0⟩ := by unfold tmkO Omk; rw [if_pos h1]
    rw [← h, e] at h0; cases h0
  by_cases h2 : k = mkN n
  · have e : (tmkO n zs dv k).C = fop .quo .f64 (mkC n) 4616189618054758400 := by unfold tmkO Omk; rw [if_neg h1, if_pos h2]
    rw [← h, e]
    have hb := emod_bd n (m := 17) (by decide)
    unfold mkC
    rw [wr_id (by omega) (by omega), Fz_eq]
    have hd := ((Dy.F (n := n % 17 - 8) (by omega)).quoT 2 fi_4.1 fi_4.2 (by omega) (by omega)).up 1
    exact ⟨_, by rw [show ((pw 1 : Nat) : Int) = 2 from rfl]; omega, hd.cast (by omega) rfl⟩
  · obtain ⟨i, rfl⟩ : ∃ i, k = mkN n + 1 + i := ⟨k - (mkN n + 1), by omega⟩
    have hi : i < 8 ∧ i < zs.length := by unfold mkM mkL at hk; omega
    rw [mkO_at (List.getElem?_eq_getElem hi.2) hi.1] at h
    rw [← h] at h0 ⊢
    unfold mkOp RnK.op at h0 ⊢
    generalize zs[i] = z at *
    by_cases hc : decide (z % 11 = 0) = true
    · rw [hc]
      simp only [if_true]
      have hb := emod_bd (wr (z.tdiv 11)) (m := 33) (by decide)
      show ∃ N : Int, N.natAbs ≤ 16 ∧ Dy 3 N (fop .quo .f64 (Fz (wr (wr (z.tdiv 11) % 33 - 16))) 4620693217682128896)
      rw [wr_id (by omega) (by omega), Fz_eq]
      exact ⟨_, by omega, ((Dy.F (n := wr (z.tdiv 11) % 33 - 16) (by omega)).quoT 3 fi_8.1 fi_8.2 (by omega) (by omega)).cast (by omega) rfl⟩
    · rw [Bool.not_eq_true] at hc
      rw [hc] at h0
      have h1 := emod_bd z (m := 3) (by decide)
      have hK : (mkRn (mkN n + 1 + i) z).K = 2 + z % 3 := wrap_id (by omega) (by omega)
      simp only [Bool.false_eq_true, if_false] at h0
      split at h0
      · cases h0
      · rw [hK] at h0; omega
theorem runL_all {T : Type} {d : T} {cf : Nat → T} {op2 : Int → T → T → T} {x : Nat → T} {Q : T → Prop} (hx : ∀ i, Q (x i)) (h2 : ∀ K a b, Q (op2 K a b)) : ∀ (l : List OpD) (r : List T), (∀ o ∈ l, o.K = 0 → Q (cf o.C)) → (∀ a ∈ r, Q a) → ∀ a ∈ runL d cf op2 x l r, Q a
  | [], r, _, hr, a, ha => hr a ha
  | o :: l, r, hc, hr, a, ha => by
    refine runL_all hx h2 l _ (fun p hp => hc p (List.mem_cons_of_mem _ hp)) ?_ a ha
    intro b hb
    rcases List.mem_append.1 hb with h | h
    · exact hr b h
    · rw [List.mem_singleton] at h
      subst h
      unfold stepT
      split
      · rename_i h0; exact hc o (List.mem_cons_self ..) h0
      split
      · exact hx _
      · exact h2 _ _ _
theorem regT_all {T : Type} {d : T} {cf : Nat → T} {op2 : Int → T → T → T} {x : Nat → T} {Q : T → Prop} (hd : Q d) (hx : ∀ i, Q (x i)) (h2 : ∀ K a b, Q (op2 K a b)) {l : List OpD} (hc : ∀ o ∈ l, o.K = 0 → Q (cf o.C)) (k : Nat) : Q (regT d cf op2 x l k) := by
  unfold regT
  rw [List.getD_eq_getElem?_getD]
  cases h : (runL d cf op2 x l [])[k]? with
  | none => exact hd
  | some a => exact runL_all hx h2 l [] hc (fun a ha => by cases ha) a (List.mem_of_getElem? h)
theorem same_refl (x : Nat) : Runs Try.prog 30 #[.float .f64 x, .float .f64 x] #[] (.bool true) #[] := by
  have k1 : (askN noF fltC 12 30 #[.float .f64 x, .float .f64 x] #[] [yes true]).map (fun r => (r.1, r.2.2)) = some (.bool true, [.cmp .eql 30 (.float .f64 x) (.float .f64 x) true]) := by kernel_rfl
  have k2 : (askN noF fltC 12 30 #[.float .f64 x, .float .f64 x] #[] [yes false, yes true, yes true]).map (fun r => (r.1, r.2.2)) = some (.bool true, [.cmp .eql 30 (.float .f64 x) (.float .f64 x) false, .cmp .neq 30 (.float .f64 x) (.float .f64 x) true, .cmp .neq 30 (.float .f64 x) (.float .f64 x) true]) := by kernel_rfl
  cases h : (FloatKind.f64.format.order x x == some .eq) with
  | true =>
    obtain ⟨H', r⟩ := tells_of k1 ⟨congrArg some h, trivial⟩
    exact r.quiet rfl rfl #[]
  | false =>
    have h2 : (FloatKind.f64.format.order x x != some .eq) = true := by rw [bne, h]; rfl
    obtain ⟨H', r⟩ := tells_of k2 ⟨congrArg some h, congrArg some h2, congrArg some h2, trivial⟩
    exact r.quiet rfl rfl #[]
theorem map_ok {P : Program} (l : List Nat) (f : Nat → Obl) (h : ∀ i ∈ l, (f i).ok P) : okAll P (l.map f) := by
  induction l with
  | nil => trivial
  | cons i l ih => exact ⟨h i (List.mem_cons_self ..), ih fun i hi => h i (List.mem_cons_of_mem _ hi)⟩
theorem Handed.app {H : AHeap} {zs : List Int} {v : Value} (h : Handed H zs v) (c : AHeap) : Handed (H ++ c) zs v := by
  rcases h with h | ⟨b, B, h1, h2, h3, h4⟩
  · exact .inl h
  · exact .inr ⟨b, B, h1, h2, by rw [Array.getElem?_append_left (Array.getElem?_eq_some_iff.1 h3).1]; exact h3, h4⟩

end Go.Proofs.Ytpmdpbljgidllaa
