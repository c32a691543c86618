/- The laws' own Make of fields: its contract, in any memory; and that what it makes may be. -/
import Derived.Test.YtpmdpbljgidllaaTpO
namespace Go.Proofs.Ytpmdpbljgidllaa
open Go
set_option linter.unusedVariables false
set_option linter.unusedSimpArgs false
set_option maxRecDepth 100000

def opsB (l : List OpD) (own : Bool) : ABlk := ⟨(l.flatMap opC).toArray, 32, 4, own⟩
def intB (l : List Int) (own : Bool) : ABlk := ⟨(l.flatMap iC).toArray, 3, 1, own⟩
theorem opC_clos (a : OpD) : ∀ u ∈ opC a, closN 4 u = true := by
  intro u hu
  simp only [opC, List.mem_cons, List.not_mem_nil, or_false] at hu
  rcases hu with rfl | rfl | rfl | rfl <;> rfl
theorem iC_clos (a : Int) : ∀ u ∈ iC a, closN 4 u = true := by
  intro u hu
  simp only [iC, List.mem_cons, List.not_mem_nil, or_false] at hu
  subst hu; rfl
theorem opsB_plain (l : List OpD) (o : Bool) : PlainB (opsB l o) := plain_flat opC_clos l _ _ _
theorem intB_plain (l : List Int) (o : Bool) : PlainB (intB l o) := plain_flat iC_clos l _ _ _

section
variable (n : Int) (zs : List Int) (dv : Bool)
theorem mk_cells (N L : Nat) (O : Nat → OpD) : opsK (N + 1 + L) O = some (opsB ((List.range (N + 1 + L)).map O) true) := by
  unfold opsK opsB
  rw [List.flatMap_map]
theorem grK_last {N : Nat} (h1 : 1 ≤ N) (h2 : N ≤ 3) (f : Nat → Int) : (grK N f)[2 * N - 1]? = some (some (intB ((List.range N).map f) true)) ∧ (grK N f).length = 2 * N := by
  have : N = 1 ∨ N = 2 ∨ N = 3 := by omega
  rcases this with rfl | rfl | rfl <;> exact ⟨rfl, rfl⟩
theorem mkM_le : 2 ≤ mkM n zs ∧ mkM n zs ≤ 12 := by
  have := mkN_le n
  unfold mkM mkL
  omega

/-- The field, its blocks at a place. -/
def tpO (b : Nat) : Value := .agg #[.int .i64 (mkN n), .slice (some ⟨b, 0, none⟩) (mkM n zs) (mkM n zs), .slice (some ⟨b + 1, 0, none⟩) (mkN n) (mkN n)]
def tpBs : AHeap := #[some (opsB (mkOps n zs dv) true), some (intB (mkOut n (mkM n zs)) true)]

/-- Of all that was made, the two blocks that the field reaches. -/
theorem mk_keep {f : FuncId} {args : Array Value} {H bs0 : AHeap} (hf : AllFrozen H) {ko ku : Nat} (hne : ko ≠ ku)
    (h : Runs Try.prog f args H (.agg #[.int .i64 (mkN n), .slice (some ⟨H.size + ko, 0, none⟩) (mkM n zs) (mkM n zs), .slice (some ⟨H.size + ku, 0, none⟩) (mkN n) (mkN n)]) (H ++ bs0))
    (ho : bs0[ko]? = some (some (opsB (mkOps n zs dv) true))) (hu : bs0[ku]? = some (some (intB (mkOut n (mkM n zs)) true))) : Runs Try.prog f args H (tpO n zs H.size) (H ++ tpBs n zs dv) := by
  refine Runs.keepR (bs := tpBs n zs dv) (fun j => if j = 0 then ko else ku) hf h ?_ ?_ ?_
  · intro j hj
    have : j = 0 ∨ j = 1 := by simp [tpBs] at hj; omega
    rcases this with rfl | rfl
    · exact ⟨_, _, ho, rfl, rfl, rfl, rfl, rfl, rfl, fun i u hu => ⟨u, hu, .clos (opsB_plain _ _ i u hu)⟩⟩
    · exact ⟨_, _, hu, rfl, rfl, rfl, rfl, rfl, rfl, fun i u hu => ⟨u, hu, .clos (intB_plain _ _ i u hu)⟩⟩
  · intro i j hi hj he
    have h1 : i = 0 ∨ i = 1 := by simp [tpBs] at hi; omega
    have h2 : j = 0 ∨ j = 1 := by simp [tpBs] at hj; omega
    rcases h1 with rfl | rfl <;> rcases h2 with rfl | rfl <;> simp at he ⊢
    · exact absurd he hne
    · exact absurd he.symm hne
  · refine .agg rfl fun i h1 h2 => ?_
    have : i = 0 ∨ i = 1 ∨ i = 2 := by simp at h1; omega
    rcases this with rfl | rfl | rfl
    · exact .clos rfl
    · exact RenV.slice (n := H.size) (κ := fun j => if j = 0 then ko else ku) (m := 2) 0 0 (mkM n zs) (mkM n zs) (mkM n zs) (by decide)
    · exact RenV.slice (n := H.size) (κ := fun j => if j = 0 then ko else ku) (m := 2) 1 0 (mkN n) (mkN n) (mkN n) (by decide)

theorem heap0_frozen (zs : List Int) : AllFrozen (heap0 zs) := by
  intro b B hB
  cases zs with
  | nil => simp [heap0] at hB
  | cons z r =>
    have hi0 : b = 0 := by
      have := (Array.getElem?_eq_some_iff.1 hB).1
      simp [heap0] at this
      exact this
    subst hi0
    simp [heap0] at hB
    subst hB
    rfl

theorem cons_arr (x : Option ABlk) (l : List (Option ABlk)) : (x :: l).toArray = #[x] ++ l.toArray := by
  apply Array.ext'
  simp
theorem make_small : Runs Try.prog 14 #[.int .i64 n, arg0 zs, .bool dv] (heap0 zs) (tpO n zs (heap0 zs).size) (heap0 zs ++ tpBs n zs dv) := by
  obtain ⟨n1, n2⟩ := mkN_le n
  obtain ⟨m1, m2⟩ := mkM_le n zs
  cases zs with
  | nil =>
    have hM : mkM n [] = mkN n + 1 := by simp [mkM, mkL]
    have r := mkNil (mkN n) n1 n2 n dv (mkC n) (n % 17) (wr (n % 17 - 8)) (wr (n.tdiv 3)) (fun i => wr (wr (n.tdiv 3) + Int.ofNat i)) (fun i => wr (wr (n.tdiv 3) + Int.ofNat i) % (min 3 (mkN n + 1) : Nat)) (mkU n (mkN n + 1)) (fun k => (mkRest dv (mkN n + 1) []).getD (k - (mkN n + 1)) ⟨0, 0, 0, 0⟩)
    have w := askN_runs r (lMk_ok n (by omega) (by omega) ⟨cmp_ok (k := 0) (M := 0) (by decide), trivial⟩)
    obtain ⟨g1, g2⟩ := grK_last n1 n2 (mkU n (mkN n + 1))
    refine mk_keep n [] dv (H := heap0 []) (heap0_frozen []) (ko := 2 + jcK (mkN n) 0) (ku := 2 + jcK (mkN n) 0 + 2 * mkN n) (by omega)
      (bs0 := ([tpB (mkN n) (2 + jcK (mkN n) 0) (mkN n + 1) (.slice (some ⟨2 + jcK (mkN n) 0 + 2 * mkN n, 0, none⟩) (mkN n) (mkN n)), tpB (mkN n) (2 + jcK (mkN n) 0) (mkN n + 1) (.slice (some ⟨2 + jcK (mkN n) 0 + 2 * mkN n, 0, none⟩) (mkN n) (mkN n))] ++ (List.range (jcK (mkN n) 0)).map (g0K (mkN n) (mkC n) (fun k => (mkRest dv (mkN n + 1) []).getD (k - (mkN n + 1)) ⟨0, 0, 0, 0⟩)) ++ [opsK (mkN n + 1) (tmkO n [] dv)] ++ grK (mkN n) (mkU n (mkN n + 1))).toArray) ?_ ?_ ?_
    · rw [hM]
      have e : (heap0 [] : AHeap) = #[] := rfl
      rw [e, Array.empty_append]
      simp only [Array.size_empty, Nat.zero_add]
      exact w
    · rw [List.getElem?_toArray, List.getElem?_append_left (by simp <;> omega), List.getElem?_append_right (by simp <;> omega)]
      simp only [List.length_append, List.length_cons, List.length_nil, List.length_map, List.length_range]
      have := mk_cells (mkN n) 0 (tmkO n [] dv)
      rw [Nat.add_zero] at this
      rw [this]
      unfold mkOps
      rw [hM]
      simp
    · have hl : ([tpB (mkN n) (2 + jcK (mkN n) 0) (mkN n + 1) (.slice (some ⟨2 + jcK (mkN n) 0 + 2 * mkN n, 0, none⟩) (mkN n) (mkN n)), tpB (mkN n) (2 + jcK (mkN n) 0) (mkN n + 1) (.slice (some ⟨2 + jcK (mkN n) 0 + 2 * mkN n, 0, none⟩) (mkN n) (mkN n))] ++ (List.range (jcK (mkN n) 0)).map (g0K (mkN n) (mkC n) (fun k => (mkRest dv (mkN n + 1) []).getD (k - (mkN n + 1)) ⟨0, 0, 0, 0⟩)) ++ [opsK (mkN n + 1) (tmkO n [] dv)]).length = 2 + jcK (mkN n) 0 + 1 := by simp <;> omega
      rw [List.getElem?_toArray, List.getElem?_append_right (by omega), hl, show 2 + jcK (mkN n) 0 + 2 * mkN n - (2 + jcK (mkN n) 0 + 1) = 2 * mkN n - 1 by omega, g1, hM]
      rfl
  | cons z rest =>
    have hB : (⟨((z :: rest).map (Value.int .i64)).toArray, 3, 1, false⟩ : ABlk).cells = ((z :: rest).flatMap iC).toArray := by rw [iC_map]
    generalize hBd : (⟨((z :: rest).map (Value.int .i64)).toArray, 3, 1, false⟩ : ABlk) = B at hB
    have hH : heap0 (z :: rest) = #[some B] := by rw [← hBd]; rfl
    have hL : mkL (z :: rest) < 9 := by unfold mkL; omega
    generalize hzs : z :: rest = zs at *
    have ha : arg0 zs = .slice (some ⟨0, 0, none⟩) zs.length zs.length := by rw [← hzs]; rfl
    have hp := mkPre (mkN n) (mkL zs) n1 n2 hL (some B) n zs.length dv (mkC n) (n % 17) (wr (n % 17 - 8)) (wr (n.tdiv 3)) (fun i => wr (wr (n.tdiv 3) + Int.ofNat i)) (fun i => wr (wr (n.tdiv 3) + Int.ofNat i) % (min 3 (mkM n zs) : Nat)) (mkU n (mkM n zs)) (fun k => (mkRest dv (mkN n + 1) (zs.take 8)).getD (k - (mkN n + 1)) ⟨0, 0, 0, 0⟩)
    have fin := fun (g : Nat → Option ABlk) (j : Nat → Value) => mkFin (mkN n) (mkL zs) n1 n2 hL (some B) n zs.length dv (mkC n) (n % 17) (wr (n % 17 - 8)) (wr (n.tdiv 3)) (fun i => wr (wr (n.tdiv 3) + Int.ofNat i)) (fun i => wr (wr (n.tdiv 3) + Int.ofNat i) % (min 3 (mkM n zs) : Nat)) (mkU n (mkM n zs)) (fun k => (mkRest dv (mkN n + 1) (zs.take 8)).getD (k - (mkN n + 1)) ⟨0, 0, 0, 0⟩) g j
    generalize preK (some B) n zs.length dv (mkN n) (mkL zs) (mkC n) (n % 17) (wr (n % 17 - 8)) (wr (n.tdiv 3)) (fun i => wr (wr (n.tdiv 3) + Int.ofNat i)) (fun i => wr (wr (n.tdiv 3) + Int.ofNat i) % (min 3 (mkM n zs) : Nat)) (mkU n (mkM n zs)) (fun k => (mkRest dv (mkN n + 1) (zs.take 8)).getD (k - (mkN n + 1)) ⟨0, 0, 0, 0⟩) = pre at hp fin
    simp only [Prod.mk.injEq, List.cons.injEq, and_true] at hp
    obtain ⟨hl, t0, t1, t2, t6, t7, t9⟩ := hp
    obtain ⟨j0, rfl⟩ := tmK_back hl t0 t1 t2 t6 t7 t9
    obtain ⟨g, j, hr⟩ := mk_rounds (n := n) (dv := dv) hB (mkL zs) 0 (by omega) (g0K (mkN n) (mkC n) (fun k => (mkRest dv (mkN n + 1) (zs.take 8)).getD (k - (mkN n + 1)) ⟨0, 0, 0, 0⟩)) j0
    have w := askT_runs (fin g j) (lMk_ok n (c := mkM n zs) (by omega) (by omega) trivial) (fun x hx => by
      rw [List.mem_singleton] at hx
      subst hx
      exact hr)
    obtain ⟨g1, g2⟩ := grK_last n1 n2 (mkU n (mkM n zs))
    have hfz : AllFrozen (heap0 zs) := heap0_frozen zs
    rw [hH] at hfz
    rw [ha, hH]
    refine mk_keep n zs dv (H := #[some B]) hfz (ko := 2 + jcK (mkN n) (mkL zs)) (ku := 2 + jcK (mkN n) (mkL zs) + 2 * mkN n) (by omega)
      (bs0 := ([tpB (mkN n) (3 + jcK (mkN n) (mkL zs)) (mkN n + 1 + mkL zs) (.slice (some ⟨3 + jcK (mkN n) (mkL zs) + 2 * mkN n, 0, none⟩) (mkN n) (mkN n)), tpB (mkN n) (3 + jcK (mkN n) (mkL zs)) (mkN n + 1 + mkL zs) (.slice (some ⟨3 + jcK (mkN n) (mkL zs) + 2 * mkN n, 0, none⟩) (mkN n) (mkN n))] ++ (List.range (jcK (mkN n) (mkL zs))).map g ++ [opsK (mkN n + 1 + mkL zs) (tmkO n zs dv)] ++ grK (mkN n) (mkU n (mkM n zs))).toArray) ?_ ?_ ?_
    · have e1 : (#[some B] : AHeap).size + (2 + jcK (mkN n) (mkL zs)) = 3 + jcK (mkN n) (mkL zs) := by simp; omega
      have e2 : (#[some B] : AHeap).size + (2 + jcK (mkN n) (mkL zs) + 2 * mkN n) = 3 + jcK (mkN n) (mkL zs) + 2 * mkN n := by simp; omega
      rw [e1, e2]
      exact Eq.mp (congrArg (fun h => Runs Try.prog _ _ _ _ h) (cons_arr _ _)) w
    · rw [List.getElem?_toArray, List.getElem?_append_left (by simp <;> omega), List.getElem?_append_right (by simp <;> omega)]
      simp only [List.length_append, List.length_cons, List.length_nil, List.length_map, List.length_range]
      rw [mk_cells]
      simp [mkOps, mkM]
    · have hl : ([tpB (mkN n) (3 + jcK (mkN n) (mkL zs)) (mkN n + 1 + mkL zs) (.slice (some ⟨3 + jcK (mkN n) (mkL zs) + 2 * mkN n, 0, none⟩) (mkN n) (mkN n)), tpB (mkN n) (3 + jcK (mkN n) (mkL zs)) (mkN n + 1 + mkL zs) (.slice (some ⟨3 + jcK (mkN n) (mkL zs) + 2 * mkN n, 0, none⟩) (mkN n) (mkN n))] ++ (List.range (jcK (mkN n) (mkL zs))).map g ++ [opsK (mkN n + 1 + mkL zs) (tmkO n zs dv)]).length = 2 + jcK (mkN n) (mkL zs) + 1 := by simp <;> omega
      rw [List.getElem?_toArray, List.getElem?_append_right (by omega), hl, show 2 + jcK (mkN n) (mkL zs) + 2 * mkN n - (2 + jcK (mkN n) (mkL zs) + 1) = 2 * mkN n - 1 by omega, g1]
      rfl

/-- Make, in any memory. -/
theorem make_in {H : AHeap} (hf : AllFrozen H) {va : Value} (hh : Handed H zs va) : Runs Try.prog 14 #[.int .i64 n, va, .bool dv] H (tpO n zs H.size) (H ++ tpBs n zs dv) := by
  have hbs : ∀ (j : Nat) (B : ABlk), (tpBs n zs dv)[j]? = some (some B) → B.own = true ∧ PlainB B := by
    intro j B hB
    match j, hB with
    | 0, hB => injection hB with hB; injection hB with hB; subst hB; exact ⟨rfl, opsB_plain _ _⟩
    | 1, hB => injection hB with hB; injection hB with hB; subst hB; exact ⟨rfl, intB_plain _ _⟩
    | j + 2, hB => simp [tpBs] at hB
  have hv : ∀ σ : Nat → Nat, RelV (relB (heap0 zs).size H.size σ) (tpO n zs (heap0 zs).size) (tpO n zs H.size) := by
    intro σ
    refine .agg rfl fun i h1 h2 => ?_
    have : i = 0 ∨ i = 1 ∨ i = 2 := by simp at h1; omega
    have e0 : relB (heap0 zs).size H.size σ (heap0 zs).size = H.size := by unfold relB; rw [if_neg (by omega)]; omega
    have e1 : relB (heap0 zs).size H.size σ ((heap0 zs).size + 1) = H.size + 1 := by unfold relB; rw [if_neg (by omega)]; omega
    rcases this with rfl | rfl | rfl
    · exact .clos rfl
    · have := RelV.slice (τ := relB (heap0 zs).size H.size σ) (heap0 zs).size 0 (mkM n zs) (mkM n zs)
      rw [e0] at this
      exact this
    · have := RelV.slice (τ := relB (heap0 zs).size H.size σ) ((heap0 zs).size + 1) 0 (mkN n) (mkN n)
      rw [e1] at this
      exact this
  have harg : ∀ {σ : Nat → Nat} {u0 u : Value}, BackA (heap0 zs).size σ u0 u → ∀ (i : Nat) (h1 : i < (#[.int .i64 n, u0, .bool dv] : Array Value).size) (h2 : i < (#[.int .i64 n, u, .bool dv] : Array Value).size), BackA (heap0 zs).size σ (#[.int .i64 n, u0, .bool dv] : Array Value)[i] (#[.int .i64 n, u, .bool dv] : Array Value)[i] := by
    intro σ u0 u h i h1 h2
    have : i = 0 ∨ i = 1 ∨ i = 2 := by simp at h1; omega
    rcases this with rfl | rfl | rfl
    · exact .inl (.clos rfl)
    · exact h
    · exact .inl (.clos rfl)
  rcases hh with ⟨rfl, rfl⟩ | ⟨b, B, hne, rfl, hb, hc⟩
  · exact (make_small n [] dv).move (fun _ => 0) (fun i hi => by simp [heap0] at hi) (fun i B0 h => by simp [heap0] at h) rfl (harg (.inr ⟨rfl, .inl rfl⟩)) (hv _) hbs
  · obtain ⟨z, r, rfl⟩ : ∃ z r, zs = z :: r := by cases zs with | nil => exact absurd rfl hne | cons z r => exact ⟨z, r, rfl⟩
    refine (make_small n (z :: r) dv).move (fun _ => b) (fun i hi => ?_) (fun i B0 h => ?_) rfl (harg (.inl (.slice 0 0 _ _ (by simp [heap0])))) (hv _) hbs
    · have : i = 0 := by simp [heap0] at hi; exact hi
      subst this
      exact ⟨_, rfl⟩
    · have hi0 : i = 0 := by
        have := (Array.getElem?_eq_some_iff.1 h).1
        simp [heap0] at this
        exact this
      subst hi0
      simp [heap0] at h
      subst h
      refine ⟨rfl, ?_, B, hb, hc⟩
      intro i u hu
      have : u ∈ (z :: r).map (Value.int .i64) := List.mem_of_getElem? (by simpa using hu)
      obtain ⟨a, _, rfl⟩ := List.mem_map.1 this
      rfl
end

end Go.Proofs.Ytpmdpbljgidllaa
