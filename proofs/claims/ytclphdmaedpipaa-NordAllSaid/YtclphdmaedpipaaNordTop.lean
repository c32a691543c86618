/- The law NordTop at one shape: what it asks for holds. -/
import Derived.Test.YtclphdmaedpipaaNordPred
namespace Go.Proofs.Ytclphdmaedpipaa
open Go
set_option linter.unusedVariables false
set_option maxRecDepth 100000

def sumL (a : Nat) : List Nat → Nat
  | [] => a
  | x :: r => sumL (fop .add .f64 a x) r
def topF (q k : Nat) (rs : List Int) (i : Nat) : Nat := flN (rs.getD (q * k + i) 0)
def headF (q k : Nat) (rs : List Int) (i : Nat) : Nat := (predL q (colF q k rs i)).headD 0

def logT (q k : Nat) (order n : Int) (zs rs : List Int) : List Obl :=
  kObl :: wObl order 5 (Int.ofNat (q - 1)) :: mObl q k n zs rs ::
    (sames (topF q k rs) (topF q k rs) (List.range k) ++
    (sames (headF q k rs) (fun i => sumL 0 (colF q k rs i)) (List.range k) ++
    sames (headF q k rs) (headF q k rs) (List.range k)))

noncomputable def topRun (q k : Nat) (order n : Int) (zs rs : List Int) : Option (Value × List Obl) :=
  (askN askL noC 12 5 #[.int .i64 order, .int .i64 n, arg0 zs] (heap0 zs)
    (yes true :: isI (Int.ofNat (q - 1)) :: mAns (heap0 zs).size q k rs :: yeses (3 * k))).map (fun r => (r.1, r.2.2))
/-- The walk at one shape, whatever the numbers. -/
def TopRun (q k : Nat) (zs : List Int) : Prop := ∀ (order n : Int) (g : Nat → Int),
  topRun q k order n zs (tab ((q + 1) * k) g) = some (.bool true, logT q k order n zs (tab ((q + 1) * k) g))

theorem sumL_isZ {B : Nat} : ∀ {l : List Nat} {L : List Int} {a : Nat} {n : Int}, ColZ B l L → IsZ a n → n.natAbs + B * l.length < 9007199254740992 → IsZ (sumL a l) (n + atZ 1 L)
  | _, _, a, n, .nil, ha, _ => by simpa [sumL, atZ] using ha
  | _, _, a, n, .cons (x := x) (n := m) (l := l) (L := L) h hb t, ha, hlt => by
    have e : B * (x :: l).length = B + B * l.length := by simp [Nat.mul_add]; omega
    have ih := sumL_isZ t (ha.add h (by omega)) (by omega)
    rw [show atZ 1 (m :: L) = atZ 1 L * 1 + m from rfl]
    rw [show n + (atZ 1 L * 1 + m) = n + m + atZ 1 L by omega]
    exact ih

theorem head_isZ {q k i : Nat} {rs : List Int} (hq : q ≤ 5) (h : ∀ r ∈ rs, 0 ≤ r ∧ r ≤ 200) : IsZ (headF q k rs i) (atZ 1 (colI q k rs i)) := by
  have hp := pow6 hq
  have hc := predL_col q (col_ok h q k i) (by rw [colF_len]; omega) (by omega)
  have hl := predL_length q (colF q k rs i)
  rw [colF_len] at hl
  have he := atZ_pred 0 q (colI q k rs i) (by rw [colI_len]; omega)
  unfold headF
  generalize predL q (colF q k rs i) = l at hc hl
  generalize predZ q (colI q k rs i) = L at hc he
  cases hc with
  | nil => simp at hl
  | @cons x m l L g gb t =>
    have : m = atZ 1 (colI q k rs i) := by
      have e2 : atZ 0 (m :: L) = atZ 0 L * 0 + m := rfl
      rw [e2] at he
      simpa using he
    rw [← this]
    exact g

theorem top_isZ {q k i : Nat} {rs : List Int} (h : ∀ r ∈ rs, 0 ≤ r ∧ r ≤ 200) : ∃ n, IsZ (topF q k rs i) n := by
  have hr : 0 ≤ rs.getD (q * k + i) 0 ∧ rs.getD (q * k + i) 0 ≤ 200 := by
    rw [List.getD_eq_getElem?_getD]
    cases hg : rs[q * k + i]? with
    | none => exact ⟨by decide, by decide⟩
    | some r => exact h r (List.mem_of_getElem? hg)
  exact ⟨_, fl_isZ hr⟩

theorem top_at {q k : Nat} (hq : q ≤ 5) {zs : List Int} (hm : MakeOK q k zs) (hr : TopRun q k zs) (order n : Int) (ho : order % Int.ofNat (4 + 1) = Int.ofNat (q - 1)) (hn : n % Int.ofNat (2 + 1) = Int.ofNat (k - 1)) :
    Tells 5 #[.int .i64 order, .int .i64 n, arg0 zs] (heap0 zs) (.bool true) := by
  obtain ⟨rs, hlen, hb, hrun⟩ := hm n hn
  have h := hr order n (fun i => rs.getD i 0)
  rw [tab_eq hlen] at h
  refine tells_of h ⟨nord_known, ?_, hrun, okAll_append (sames_ok fun i _ => ?_) (okAll_append (sames_ok fun i _ => ⟨_, head_isZ hq hb, ?_⟩) (sames_ok fun i _ => ⟨_, head_isZ hq hb, head_isZ hq hb⟩))⟩
  · have := within8 order 4 (by decide)
    rw [ho] at this
    exact this
  · obtain ⟨m, hm⟩ := top_isZ (q := q) (k := k) (i := i) hb
    exact ⟨m, hm, hm⟩
  · have := sumL_isZ (col_ok hb q k i) isZ_0 (by rw [colF_len]; simp; omega)
    simpa using this

end Go.Proofs.Ytclphdmaedpipaa
