/- The columns of rows of whole numbers; and what the laws of rows ask for, all told. -/
import Derived.Test.YtclphdmaedpipaaNordMake
namespace Go.Proofs.Ytclphdmaedpipaa
open Go
set_option linter.unusedVariables false
set_option maxRecDepth 100000

theorem okAll_append {P : Program} : ∀ {a b : List Obl}, okAll P a → okAll P b → okAll P (a ++ b)
  | [], _, _, hb => hb
  | _ :: _, _, ha, hb => ⟨ha.1, okAll_append ha.2 hb⟩

def colF (q k : Nat) (rs : List Int) (i : Nat) : List Nat := (List.range (q + 1)).map fun j => flN (rs.getD (j * k + i) 0)
def colI (q k : Nat) (rs : List Int) (i : Nat) : List Int := (List.range (q + 1)).map fun j => rs.getD (j * k + i) 0 - 100

theorem col_of {rs : List Int} (h : ∀ r ∈ rs, 0 ≤ r ∧ r ≤ 200) (k i : Nat) : ∀ js : List Nat, ColZ 100 (js.map fun j => flN (rs.getD (j * k + i) 0)) (js.map fun j => rs.getD (j * k + i) 0 - 100)
  | [] => .nil
  | j :: js => by
    have hr : 0 ≤ rs.getD (j * k + i) 0 ∧ rs.getD (j * k + i) 0 ≤ 200 := by
      rw [List.getD_eq_getElem?_getD]
      cases hg : rs[j * k + i]? with
      | none => exact ⟨by decide, by decide⟩
      | some r => exact h r (List.mem_of_getElem? hg)
    exact .cons (fl_isZ hr) (show (rs.getD (j * k + i) 0 - 100).natAbs ≤ 100 by omega) (col_of h k i js)

theorem col_ok {rs : List Int} (h : ∀ r ∈ rs, 0 ≤ r ∧ r ≤ 200) (q k i : Nat) : ColZ 100 (colF q k rs i) (colI q k rs i) := col_of h k i _

def sameObl (x y : Nat) : Obl := .run 31 #[.float .f64 x, .float .f64 y] #[] (.bool true) #[]
/-- That two rows are the same, number by number. -/
def sames (f g : Nat → Nat) : List Nat → List Obl
  | [] => []
  | i :: is => sameObl (f i) (g i) :: sames f g is

theorem sames_ok {f g : Nat → Nat} : ∀ {is : List Nat}, (∀ i ∈ is, ∃ n, IsZ (f i) n ∧ IsZ (g i) n) → okAll Try.prog (sames f g is)
  | [], _ => trivial
  | i :: is, h => by
    obtain ⟨n, h1, h2⟩ := h i (by simp)
    exact ⟨same_eq (h1.eql h2), sames_ok fun j hj => h j (by simp [hj])⟩

theorem nord_known : Runs Try.prog 13 #[] #[] (.bool true) #[] := by
  have h : (askN noF noC 12 13 #[] #[] []).map (fun r => (r.1, r.2.2)) = some (.bool true, []) := by kernel_rfl
  obtain ⟨H', h⟩ := tells_of h trivial
  exact h.quiet rfl rfl #[]

noncomputable def askL (f : FuncId) : Nat :=
  if f == 13 || f == 15 || f == 14 || f == 31 then 1
  else if f == 17 || f == 25 then 2 else 0

def kObl : Obl := .run 13 #[] #[] (.bool true) #[]
def wObl (a : Int) (n : Nat) (r : Int) : Obl := .run 15 #[.int .i64 a, .int .i64 (Int.ofNat n)] #[] (.int .i64 r) #[]
def mObl (q k : Nat) (n : Int) (zs : List Int) (rs : List Int) : Obl :=
  .run 14 #[.int .i64 (Int.ofNat q), .int .i64 n, arg0 zs] (froze (heap0 zs)) (zV (heap0 zs).size q k) (froze (heap0 zs) ++ (zBs (heap0 zs).size q k rs).toArray)
def mAns (b q k : Nat) (rs : List Int) : Ans := ⟨fun _ => zV b q k, zBs b q k rs⟩
def yeses : Nat → List Ans
  | 0 => []
  | n + 1 => yes true :: yeses n

theorem isZ_1 : IsZ 4607182418800017408 1 := ⟨false, 4503599627370496, 52, by decide +kernel, by decide +kernel, by decide⟩
theorem isZ_0 : IsZ 0 0 := by
  have hz : ∀ d : Nat, 0 = (0 : Int).natAbs * 2 ^ d := fun d => by simp
  exact ⟨false, 0, 1074, by decide +kernel, hz 1074, by simp⟩
theorem isZ_m1 : IsZ 13830554455654793216 (-1) := ⟨true, 4503599627370496, 52, by decide +kernel, by decide +kernel, by decide⟩

theorem predL_length : ∀ (n : Nat) (l : List Nat), (predL n l).length = l.length
  | 0, l => rfl
  | n + 1, l => by
    have hl := sufL_length l
    simp only [predL]
    generalize sufL l = s at hl
    cases s with
    | nil => simpa using hl
    | cons h t =>
      simp at hl ⊢
      rw [predL_length n t]
      exact hl

theorem colF_len (q k i : Nat) (rs : List Int) : (colF q k rs i).length = q + 1 := by simp [colF]
theorem colI_len (q k i : Nat) (rs : List Int) : (colI q k rs i).length = q + 1 := by simp [colI]

theorem pow6 {q : Nat} (hq : q ≤ 5) : 6 ^ q ≤ 7776 := by
  have : q = 0 ∨ q = 1 ∨ q = 2 ∨ q = 3 ∨ q = 4 ∨ q = 5 := by omega
  rcases this with rfl | rfl | rfl | rfl | rfl | rfl <;> decide
theorem pow6' {q : Nat} (hq : q ≤ 5) : 6 ^ (q + 1) ≤ 46656 := by
  have := pow6 hq
  rw [Nat.pow_succ]
  omega

/-- A column at a whole number is a whole number. -/
theorem at_isZ {q k i : Nat} {rs : List Int} (hq : q ≤ 5) (h : ∀ r ∈ rs, 0 ≤ r ∧ r ≤ 200) {s : Nat} {x : Int} (hs : IsZ s x) (hx : x.natAbs ≤ 5) : IsZ (atL s (colF q k rs i)) (atZ x (colI q k rs i)) := by
  have hp := pow6' hq
  refine (atL_isZ hs hx (col_ok h q k i) (fun he => ?_) ?_).1
  · have := colF_len q k i rs
    rw [he] at this
    simp at this
  · rw [colF_len]; omega

/-- A column, predicted, at a whole number: the column one further on. -/
theorem at_pred_isZ {q k i : Nat} {rs : List Int} (hq : q ≤ 5) (h : ∀ r ∈ rs, 0 ≤ r ∧ r ≤ 200) {s : Nat} {x : Int} (hs : IsZ s x) (hx : x.natAbs ≤ 5) : IsZ (atL s (predL q (colF q k rs i))) (atZ (x + 1) (colI q k rs i)) := by
  have hp := pow6 hq
  have hp' := pow6' hq
  have hl := colF_len q k i rs
  have hc := predL_col q (col_ok h q k i) (by omega) (by omega)
  have hB : 100 * 6 ^ q ≤ 777600 := by omega
  have hne : predL q (colF q k rs i) ≠ [] := fun he => by
    have := predL_length q (colF q k rs i)
    rw [he, hl] at this
    simp at this
  have := (atL_isZ hs hx (hc.mono hB) hne (by rw [predL_length, hl]; omega)).1
  rw [atZ_pred x q _ (by rw [colI_len]; omega)] at this
  exact this

end Go.Proofs.Ytclphdmaedpipaa
