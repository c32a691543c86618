/- The law NordNothing at one shape: what it asks for holds. -/
import Derived.Test.YtclphdmaedpipaaNordTop
namespace Go.Proofs.Ytclphdmaedpipaa
open Go
set_option linter.unusedVariables false
set_option maxRecDepth 100000

def zeros (n : Nat) : List Nat := List.replicate n 0
/-- All places of a table, row by row. -/
def places (q k : Nat) : List Nat := List.range ((q + 1) * k)
def corF (k : Nat) (rs : List Int) (c : Nat) : Nat := fop .add .f64 (flN (rs.getD c 0)) (fop .mul .f64 4607182418800017408 0)
def celF (rs : List Int) (c : Nat) : Nat := flN (rs.getD c 0)
def finObl (s : Nat) (b : Bool) : Obl := .run 26 #[.float .f64 s] #[] (.bool b) #[]

noncomputable def askZ (f : FuncId) : Nat := if f == 26 then 1 else askL f

def logZ (q k : Nat) (order n : Int) (s : Nat) (b : Bool) (zs rs : List Int) : List Obl :=
  kObl :: wObl order 5 (Int.ofNat (q - 1)) :: mObl q k n zs rs ::
    (sames (fun _ => 0) (fun _ => 0) (places q k) ++
    (sames (fun _ => 0) (fun _ => 0) (places q k) ++
    (sames (corF k rs) (celF rs) (places q k) ++
    (finObl s b :: ((bif b then sames (fun _ => atL s (zeros (q + 1))) (fun _ => 0) (List.range k) else []) ++
    sames (fun i => atL 0 (colF q k rs i)) (fun i => flN (rs.getD (0 * k + i) 0)) (List.range k))))))

noncomputable def zeroRun (q k : Nat) (order n : Int) (s : Nat) (b : Bool) (zs rs : List Int) : Option (Value × List Obl) :=
  (askN askZ noC 12 10 #[.int .i64 order, .int .i64 n, arg0 zs, .float .f64 s] (heap0 zs)
    (yes true :: isI (Int.ofNat (q - 1)) :: mAns (heap0 zs).size q k rs :: (yeses (3 * ((q + 1) * k)) ++ (yes b :: yeses (2 * k))))).map (fun r => (r.1, r.2.2))
/-- The walk at one shape, whatever the numbers. -/
def ZeroRun (q k : Nat) (zs : List Int) : Prop := ∀ (order n : Int) (s : Nat) (g : Nat → Int) (b : Bool),
  zeroRun q k order n s b zs (tab ((q + 1) * k) g) = some (.bool true, logZ q k order n s b zs (tab ((q + 1) * k) g))

theorem zero_mul {x s : Nat} (hx : IsZ x 0) {t : Bool} {m : Nat} {e : Int} (hs : Ieee.double.read s = .number t m e) : IsZ (fop .mul .f64 x s) 0 := by
  obtain ⟨u, k, d, h1, h2, _⟩ := hx
  have hk : k = 0 := by simpa using h2
  subst hk
  have e1 : floatBits .mul .f64 x s = some (Ieee.double.write (.number (u ^^ t) (0 * m) (-(d : Int) + e))) := by
    show ((Ieee.double.read x).product (Ieee.double.read s)).map Ieee.double.write = _
    rw [h1, hs]
    rfl
  unfold fop
  rw [e1]
  simp only [Option.getD_some]
  have hz : ∀ d : Nat, 0 = (0 : Int).natAbs * 2 ^ d := fun d => by simp
  refine ⟨u ^^ t, 0, 1074, ?_, hz 1074, fun h => absurd rfl h⟩
  have : Ieee.double.write (.number (u ^^ t) (0 * m) (-(d : Int) + e)) = Ieee.double.word (u ^^ t) 0 := by
    unfold Ieee.Format.write Ieee.Format.nearest
    simp
  rw [this, read_zero]
  rfl

theorem at_zeros {s : Nat} {t : Bool} {m : Nat} {e : Int} (hs : Ieee.double.read s = .number t m e) : ∀ n : Nat, IsZ (atL s (zeros (n + 1))) 0
  | 0 => isZ_0
  | n + 1 => by
    have ih := at_zeros hs n
    have h := (zero_mul ih hs).add isZ_0 (by decide)
    exact h

/-- A number less itself is 0 just where it is finite. -/
theorem finite_of {s : Nat} (h : fcmp .eql .f64 (fop .sub .f64 s s) 0 = some true) : ∃ t m e, Ieee.double.read s = .number t m e := by
  cases hs : Ieee.double.read s with
  | number t m e => exact ⟨t, m, e, rfl⟩
  | infinity t =>
    exfalso
    have e1 : floatBits .sub .f64 s s = none := by
      show ((Ieee.double.read s).sum (Ieee.double.read s).opposite).map Ieee.double.write = none
      rw [hs]
      cases t <;> rfl
    have e2 : fop .sub .f64 s s = nanW .f64 := by unfold fop; rw [e1]; rfl
    rw [e2] at h
    revert h
    decide +kernel
  | nan t m =>
    exfalso
    have e1 : floatBits .sub .f64 s s = none := by
      show ((Ieee.double.read s).sum (Ieee.double.read s).opposite).map Ieee.double.write = none
      rw [hs]
      rfl
    have e2 : fop .sub .f64 s s = nanW .f64 := by unfold fop; rw [e1]; rfl
    rw [e2] at h
    revert h
    decide +kernel

theorem fin_runs (s : Nat) (b : Bool) (h : fcmp .eql .f64 (fop .sub .f64 s s) 0 = some b) : Runs Try.prog 26 #[.float .f64 s] #[] (.bool b) #[] :=
  askN_runs (ask := noF) (askC := fltC) (d := 0) (s := [yes b]) (l := [.cmp .eql 28 (.float .f64 (fop .sub .f64 s s)) (.float .f64 0) b]) (by kernel_rfl) ⟨h, trivial⟩

theorem cel_isZ {rs : List Int} (h : ∀ r ∈ rs, 0 ≤ r ∧ r ≤ 200) (c : Nat) : IsZ (flN (rs.getD c 0)) (rs.getD c 0 - 100) ∧ (rs.getD c 0 - 100).natAbs ≤ 100 := by
  have hr : 0 ≤ rs.getD c 0 ∧ rs.getD c 0 ≤ 200 := by
    rw [List.getD_eq_getElem?_getD]
    cases hg : rs[c]? with
    | none => exact ⟨by decide, by decide⟩
    | some r => exact h r (List.mem_of_getElem? hg)
  exact ⟨fl_isZ hr, by omega⟩

theorem at_0 {q k i : Nat} {rs : List Int} (hq : q ≤ 5) (h : ∀ r ∈ rs, 0 ≤ r ∧ r ≤ 200) : IsZ (atL 0 (colF q k rs i)) (rs.getD (0 * k + i) 0 - 100) := by
  have := at_isZ (q := q) (k := k) (i := i) hq h isZ_0 (by decide)
  have e : atZ 0 (colI q k rs i) = rs.getD (0 * k + i) 0 - 100 := by
    unfold colI
    rw [List.range_succ_eq_map]
    simp only [List.map_cons]
    rw [show ∀ (x : Int) (l : List Int), atZ 0 (x :: l) = atZ 0 l * 0 + x from fun _ _ => rfl]
    simp
  rw [e] at this
  exact this

theorem one_zero : IsZ (fop .mul .f64 4607182418800017408 0) 0 := isZ_1.mul isZ_0 (by decide)

theorem zero_at {q k : Nat} (hq : q ≤ 5) {zs : List Int} (hm : MakeOK q k zs) (hr : ZeroRun q k zs) (order n : Int) (s : Nat) (ho : order % Int.ofNat (4 + 1) = Int.ofNat (q - 1)) (hn : n % Int.ofNat (2 + 1) = Int.ofNat (k - 1)) :
    Tells 10 #[.int .i64 order, .int .i64 n, arg0 zs, .float .f64 s] (heap0 zs) (.bool true) := by
  obtain ⟨rs, hlen, hb, hrun⟩ := hm n hn
  have hf : ∃ b, fcmp .eql .f64 (fop .sub .f64 s s) 0 = some b := ⟨_, rfl⟩
  obtain ⟨b, hf⟩ := hf
  have h := hr order n s (fun i => rs.getD i 0) b
  rw [tab_eq hlen] at h
  refine tells_of h ⟨nord_known, ?_, hrun, okAll_append (sames_ok fun i _ => ⟨0, isZ_0, isZ_0⟩) (okAll_append (sames_ok fun i _ => ⟨0, isZ_0, isZ_0⟩) (okAll_append (sames_ok fun c _ => ?_) ⟨fin_runs s b hf, okAll_append ?_ (sames_ok fun i _ => ⟨_, at_0 hq hb, (cel_isZ hb _).1⟩)⟩))⟩
  · have := within8 order 4 (by decide)
    rw [ho] at this
    exact this
  · obtain ⟨h1, h2⟩ := cel_isZ hb c
    refine ⟨_, ?_, h1⟩
    have := h1.add one_zero (by omega)
    rw [Int.add_zero] at this
    exact this
  · cases b with
    | false => exact trivial
    | true =>
      obtain ⟨t, m, e, hs⟩ := finite_of hf
      exact sames_ok fun i _ => ⟨0, at_zeros hs q, isZ_0⟩

end Go.Proofs.Ytclphdmaedpipaa
