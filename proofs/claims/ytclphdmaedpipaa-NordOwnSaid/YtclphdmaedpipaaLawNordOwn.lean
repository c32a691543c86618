/- The law NordOwn returns true, whatever the numbers. -/
import Derived.Test.YtclphdmaedpipaaNordScaleQ
import Derived.Test.YtclphdmaedpipaaNordMakeQ1
import Derived.Test.YtclphdmaedpipaaNordOwn1
import Derived.Test.YtclphdmaedpipaaNordMakeQ2
import Derived.Test.YtclphdmaedpipaaNordOwn2
import Derived.Test.YtclphdmaedpipaaNordMakeQ3
import Derived.Test.YtclphdmaedpipaaNordOwn3
import Derived.Test.YtclphdmaedpipaaNordMakeQ4
import Derived.Test.YtclphdmaedpipaaNordOwn4
import Derived.Test.YtclphdmaedpipaaNordMakeQ5
import Derived.Test.YtclphdmaedpipaaNordOwn5
namespace Go.Proofs.Ytclphdmaedpipaa
open Go
set_option linter.unusedVariables false
set_option linter.unusedSimpArgs false
set_option maxRecDepth 100000

theorem cvN_ok (c : Int) : (cvN c (floatOfInt .f64 c)).ok Try.prog := by
  show convV Try.prog 3 28 (.int .i64 c) = some (.float .f64 (floatOfInt .f64 c))
  kernel_rfl
theorem repN_ok {P : Program} {o : Obl} (h : o.ok P) : ∀ n, okAll P (List.replicate n o)
  | 0 => trivial
  | n + 1 => ⟨h, repN_ok h n⟩
theorem tbO_ok {k : Nat} {X Y : Nat → Nat → Nat} (h : ∀ j i, Runs Try.prog 31 #[fW (X j i), fW (Y j i)] #[] (.bool true) #[]) : ∀ m j : Nat, okAll Try.prog (tbO k X Y m j)
  | 0, _ => trivial
  | m + 1, j => by
    have ih := tbO_ok (k := k) h m (j + 1)
    unfold tbO
    generalize List.range k = l
    induction l with
    | nil => exact ih
    | cons i l ihl => exact ⟨h j i, ihl⟩
theorem handG {o : Option ABlk} {zs : List Int} {v : Value} (h : Handed #[o] zs v) (L : List (Option ABlk)) : Handed (froze (G #[o] L)) zs v := by
  rcases h with h | ⟨b, B, h1, h2, h3, h4⟩
  · exact .inl h
  · refine .inr ⟨b, { B with own := false }, h1, h2, ?_, h4⟩
    have hb : b = 0 := by
      have := (Array.getElem?_eq_some_iff.1 h3).1
      simp at this
      exact this
    subst hb
    have ho : o = some B := by simpa using h3
    subst ho
    rfl
theorem own_at {q k : Nat} (hq : q ≤ 5) (hk : 0 < k) (hK : Kept q k) (hZ : ZRows q k) {zs : List Int} (hm : MakeOK q k zs) {o : Option ABlk} {va : Value} (hv : Handed #[o] zs va) (hr : OwnRunN q k)
    (order n by_ : Int) (ho : order % Int.ofNat (4 + 1) = Int.ofNat (q - 1)) (hn : n % Int.ofNat (2 + 1) = Int.ofNat (k - 1)) :
    Tells 8 #[.int .i64 order, .int .i64 n, va, .int .i64 by_] #[o] (.bool true) := by
  obtain ⟨rs, la, ba, runA⟩ := make_keptA hk hK hm n hn
  have hz : ∀ e, zBs2 e q k rs = rowsX q k e (xT q k fun i => rs.getD i 0) := fun e => by
    have := hZ e (fun i => rs.getD i 0)
    rw [tab_eq la] at this
    exact this
  have bf : ∀ i, 0 ≤ rs.getD i 0 ∧ rs.getD i 0 ≤ 200 := by
    intro i
    rw [List.getD_eq_getElem?_getD]
    cases hg : rs[i]? with
    | none => exact ⟨by decide, by decide⟩
    | some r => exact ba r (List.mem_of_getElem? hg)
  generalize hX : xT q k (fun i => rs.getD i 0) = X at hz
  have hS : ∀ j i, Sc (nT q k (fun i => rs.getD i 0) j i) 0 (X j i) := fun j i => by rw [← hX]; exact (xT_sc bf j i).1
  have hB : ∀ j i, (nT q k (fun i => rs.getD i 0) j i).natAbs ≤ 100 := fun j i => (xT_sc bf j i).2
  have h0 : ∀ j i, q < j → nT q k (fun i => rs.getD i 0) j i = 0 := fun j i h => if_neg (by omega)
  obtain ⟨Y, Y1, _⟩ := resc_sc hq (a := fun _ => 0) hS hB h0 0 (fun j _ => by omega) (by omega)
  have h := hr o order n by_ va X Y (floatOfInt .f64 by_)
  have ho5 := within8 order 4 (by decide)
  rw [ho] at ho5
  have m1 : (mkO q k 1 n va #[o] X).ok Try.prog := by
    have := runA (froze #[o]) va (froze_all _) hv.froze
    rw [froze_size, hz] at this
    exact this
  have m2 : (mkO q k (3 + q) n va (G #[o] (rowsX q k 1 X)) X).ok Try.prog := by
    have hv2 : Handed (froze (G #[o] (rowsX q k 1 X))) zs va := handG hv (rowsX q k 1 X)
    have := runA (froze (G #[o] (rowsX q k 1 X))) va (froze_all _) hv2
    have e : (froze (G #[o] (rowsX q k 1 X))).size = 3 + q := by
      rw [fg_size, rowsX_len]
      show 1 + (q + 2) = _
      omega
    rw [e, hz] at this
    exact this
  exact tells_of h (okAll_append (okAll_append (okAll_append ⟨nord_known, ho5, m1, m2, trivial⟩ (rsO_ok Y1 _ _)) (repN_ok (cvN_ok by_) _)) (tbO_ok (fun j i => same_sc (hS j i) (hS j i) (.inr rfl)) _ _))
theorem nordOwn_pad {o : Option ABlk} {va : Value} {zs : List Int} (hp : PlO o) (hv : Handed #[o] zs va) (order n by_ : Int) : Tells 8 #[.int .i64 order, .int .i64 n, va, .int .i64 by_] #[o] (.bool true) := by
  have h1 := Int.emod_nonneg order (b := 5) (by decide)
  have h2 := Int.emod_lt_of_pos order (b := 5) (by decide)
  have h3 := Int.emod_nonneg n (b := 3) (by decide)
  have h4 := Int.emod_lt_of_pos n (b := 3) (by decide)
  have e5 : Int.ofNat (4 + 1) = 5 := rfl
  have e3 : Int.ofNat (2 + 1) = 3 := rfl
  have ho : order % Int.ofNat (4 + 1) = Int.ofNat (1 - 1) ∨ order % Int.ofNat (4 + 1) = Int.ofNat (2 - 1) ∨ order % Int.ofNat (4 + 1) = Int.ofNat (3 - 1) ∨ order % Int.ofNat (4 + 1) = Int.ofNat (4 - 1) ∨ order % Int.ofNat (4 + 1) = Int.ofNat (5 - 1) := by
    rw [e5]; simp; omega
  have hn : n % Int.ofNat (2 + 1) = Int.ofNat (1 - 1) ∨ n % Int.ofNat (2 + 1) = Int.ofNat (2 - 1) ∨ n % Int.ofNat (2 + 1) = Int.ofNat (3 - 1) := by
    rw [e3]; simp; omega
  rcases ho with ho | ho | ho | ho | ho <;> rcases hn with hn | hn | hn
  · exact own_at (q := 1) (k := 1) (by decide) (by decide) kept_1_1 zrows_1_1 (make_1_1 zs) hv ownN_1_1 order n by_ ho hn
  · exact own_at (q := 1) (k := 2) (by decide) (by decide) kept_1_2 zrows_1_2 (make_1_2 zs) hv ownN_1_2 order n by_ ho hn
  · exact own_at (q := 1) (k := 3) (by decide) (by decide) kept_1_3 zrows_1_3 (make_1_3 zs) hv ownN_1_3 order n by_ ho hn
  · exact own_at (q := 2) (k := 1) (by decide) (by decide) kept_2_1 zrows_2_1 (make_2_1 zs) hv ownN_2_1 order n by_ ho hn
  · exact own_at (q := 2) (k := 2) (by decide) (by decide) kept_2_2 zrows_2_2 (make_2_2 zs) hv ownN_2_2 order n by_ ho hn
  · exact own_at (q := 2) (k := 3) (by decide) (by decide) kept_2_3 zrows_2_3 (make_2_3 zs) hv ownN_2_3 order n by_ ho hn
  · exact own_at (q := 3) (k := 1) (by decide) (by decide) kept_3_1 zrows_3_1 (make_3_1 zs) hv ownN_3_1 order n by_ ho hn
  · exact own_at (q := 3) (k := 2) (by decide) (by decide) kept_3_2 zrows_3_2 (make_3_2 zs) hv ownN_3_2 order n by_ ho hn
  · exact own_at (q := 3) (k := 3) (by decide) (by decide) kept_3_3 zrows_3_3 (make_3_3 zs) hv ownN_3_3 order n by_ ho hn
  · exact own_at (q := 4) (k := 1) (by decide) (by decide) kept_4_1 zrows_4_1 (make_4_1 zs) hv ownN_4_1 order n by_ ho hn
  · exact own_at (q := 4) (k := 2) (by decide) (by decide) kept_4_2 zrows_4_2 (make_4_2 zs) hv ownN_4_2 order n by_ ho hn
  · exact own_at (q := 4) (k := 3) (by decide) (by decide) kept_4_3 zrows_4_3 (make_4_3 zs) hv ownN_4_3 order n by_ ho hn
  · exact own_at (q := 5) (k := 1) (by decide) (by decide) kept_5_1 zrows_5_1 (make_5_1 zs) hv ownN_5_1 order n by_ ho hn
  · exact own_at (q := 5) (k := 2) (by decide) (by decide) kept_5_2 zrows_5_2 (make_5_2 zs) hv ownN_5_2 order n by_ ho hn
  · exact own_at (q := 5) (k := 3) (by decide) (by decide) kept_5_3 zrows_5_3 (make_5_3 zs) hv ownN_5_3 order n by_ ho hn

end Go.Proofs.Ytclphdmaedpipaa
