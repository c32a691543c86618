/- The law NordPredicts at one shape: what it asks for holds. -/
import Derived.Test.YtclphdmaedpipaaNordLaw
namespace Go.Proofs.Ytclphdmaedpipaa
open Go
set_option linter.unusedVariables false
set_option maxRecDepth 100000

def tab (c : Nat) (g : Nat → Int) : List Int := (List.range c).map g
theorem tab_eq {rs : List Int} {c : Nat} (h : rs.length = c) : tab c (fun i => rs.getD i 0) = rs := by
  unfold tab
  apply List.ext_getElem
  · simp [h]
  · intro i h1 h2
    simp [List.getD_eq_getElem?_getD, h2]

def pX (s : Int) : Nat := FloatKind.f64.nearest (IntKind.i64.wrap (s % 9 - 4))
def logP (q k : Nat) (order n s : Int) (zs rs : List Int) : List Obl :=
  kObl :: wObl order 5 (Int.ofNat (q - 1)) :: mObl q k n zs rs :: wObl s 9 (s % 9) ::
    (sames (fun i => atL (pX s) (predL q (colF q k rs i))) (fun i => atL (fop .add .f64 (pX s) 4607182418800017408) (colF q k rs i)) (List.range k) ++
    (sames (fun i => atL 0 (predL q (colF q k rs i))) (fun i => atL 4607182418800017408 (colF q k rs i)) (List.range k) ++
    sames (fun i => atL 13830554455654793216 (predL q (colF q k rs i))) (fun i => atL 0 (colF q k rs i)) (List.range k)))

noncomputable def predRun (q k : Nat) (order n s : Int) (zs rs : List Int) : Option (Value × List Obl) :=
  (askN askL noC 12 3 #[.int .i64 order, .int .i64 n, arg0 zs, .int .i64 s] (heap0 zs)
    (yes true :: isI (Int.ofNat (q - 1)) :: mAns (heap0 zs).size q k rs :: isI (s % 9) :: yeses (3 * k))).map (fun r => (r.1, r.2.2))
/-- The walk at one shape, whatever the numbers. -/
def PredRun (q k : Nat) (zs : List Int) : Prop := ∀ (order n s : Int) (g : Nat → Int),
  predRun q k order n s zs (tab ((q + 1) * k) g) = some (.bool true, logP q k order n s zs (tab ((q + 1) * k) g))

theorem pX_isZ (s : Int) : IsZ (pX s) (s % 9 - 4) := by
  have h1 := Int.emod_nonneg s (b := 9) (by decide)
  have h2 := Int.emod_lt_of_pos s (b := 9) (by decide)
  unfold pX
  rw [wrap_id (by omega) (by omega)]
  exact IsZ.ofInt (n := s % 9 - 4) (by omega)

theorem predicts_at {q k : Nat} (hq : q ≤ 5) {zs : List Int} (hm : MakeOK q k zs) (hr : PredRun q k zs) (order n s : Int) (ho : order % Int.ofNat (4 + 1) = Int.ofNat (q - 1)) (hn : n % Int.ofNat (2 + 1) = Int.ofNat (k - 1)) :
    Tells 3 #[.int .i64 order, .int .i64 n, arg0 zs, .int .i64 s] (heap0 zs) (.bool true) := by
  obtain ⟨rs, hlen, hb, hrun⟩ := hm n hn
  have h := hr order n s (fun i => rs.getD i 0)
  rw [tab_eq hlen] at h
  have h1 := Int.emod_nonneg s (b := 9) (by decide)
  have h2 := Int.emod_lt_of_pos s (b := 9) (by decide)
  have hx := pX_isZ s
  have hx1 : IsZ (fop .add .f64 (pX s) 4607182418800017408) (s % 9 - 4 + 1) := hx.add isZ_1 (by omega)
  refine tells_of h ⟨nord_known, ?_, hrun, within8 s 8 (by decide), okAll_append (sames_ok fun i _ => ⟨_, at_pred_isZ hq hb hx (by omega), at_isZ hq hb hx1 (by omega)⟩)
    (okAll_append (sames_ok fun i _ => ⟨_, at_pred_isZ hq hb isZ_0 (by decide), at_isZ hq hb isZ_1 (by decide)⟩) (sames_ok fun i _ => ⟨_, at_pred_isZ hq hb isZ_m1 (by decide), at_isZ hq hb isZ_0 (by decide)⟩))⟩
  have := within8 order 4 (by decide)
  rw [ho] at this
  exact this

end Go.Proofs.Ytclphdmaedpipaa
