/- The modes of this program's functions: 1 pure, 2 makes new memory and writes none that was there, 3 reads; and that the regions of those that are listed may be taken in the text's order. -/
import Derived.Test.YthajhpilfbijdaaBase
namespace Go.Proofs.Ythajhpilfbijdaa
open Go
set_option linter.unusedVariables false
set_option maxRecDepth 100000

noncomputable def modes : List (FuncId × Nat) := [(0, 0)
  , (49, 1)
  , (39, 1)
  , (30, 2)
  , (57, 1)
  , (12, 2)
  , (9, 2)
  , (4, 2)
  , (3, 2)
  , (14, 2)
  , (7, 2)
  , (8, 2)
  , (6, 2)
  , (5, 2)
  , (11, 2)
  , (15, 2)
  , (13, 2)
  , (10, 2)
  , (34, 1)
  , (27, 1)
  , (16, 1)
  , (17, 1)
  , (66, 1)
  , (62, 1)
  , (59, 1)
  , (58, 1)
  , (63, 1)
  , (42, 1)
  , (45, 1)
  , (38, 1)
  , (65, 1)
  , (40, 1)
  , (46, 1)
  , (47, 1)
  , (37, 1)
  , (44, 1)
  , (60, 1)
  , (28, 1)
  , (36, 1)
  , (43, 1)
  , (48, 1)
  , (41, 1)
  , (64, 1)
  , (67, 1)
  , (68, 1)
  , (72, 1)
  , (19, 1)
  , (22, 1)
  , (24, 1)
  , (18, 1)
  , (32, 1)
  , (33, 1)
  , (31, 1)
  , (21, 1)
  , (29, 1)
  , (20, 1)
  , (35, 1)
  , (55, 1)
  , (50, 3)
  , (51, 1)
  , (52, 1)
  , (25, 1)
  , (75, 1)
  , (56, 1)
  , (53, 1)
  , (23, 1)
  , (73, 1)
  , (54, 1)
  , (61, 1)
  , (26, 1)
  , (71, 1)
  , (69, 1)
  , (70, 1)
  , (74, 1)
  ]
def lookM : List (FuncId × Nat) → FuncId → Nat
  | [], _ => 0
  | (g, k) :: l, f => if f = g then k else lookM l f
noncomputable def q1 (f : FuncId) : Nat := lookM modes f

/-- One that may be walked. -/
noncomputable def fnOk (f : FuncId) : Bool :=
  match Try.prog.funcs[f]? with
  | some fn => match fn.body with
    | some c => codeOk q1 c && fn.name != "runtime.NumGoroutine"
    | none => false
  | none => false

noncomputable def fsL : List FuncId := [0
  , 49
  , 39
  , 30
  , 57
  , 12
  , 9
  , 4
  , 3
  , 14
  , 7
  , 8
  , 6
  , 5
  , 11
  , 15
  , 13
  , 10
  , 34
  , 27
  , 16
  , 17
  , 66
  , 62
  , 59
  , 58
  , 63
  , 42
  , 45
  , 38
  , 65
  , 40
  , 46
  , 47
  , 37
  , 44
  , 60
  , 28
  , 36
  , 43
  , 48
  , 41
  , 64
  , 67
  , 68
  , 72
  , 19
  , 22
  , 24
  , 18
  , 32
  , 33
  , 31
  , 21
  , 29
  , 20
  , 35
  , 55
  , 50
  , 51
  , 52
  , 25
  , 75
  , 23
  , 73
  , 54
  , 61
  , 26
  , 71
  , 70
  , 74
  ]
def elemF : List FuncId → FuncId → Bool
  | [], _ => false
  | g :: l, f => (f == g) || elemF l f
noncomputable def fs1 (f : FuncId) : Bool := elemF fsL.tail f
theorem elemF_all {p : FuncId → Bool} {f : FuncId} : ∀ l : List FuncId, l.all p = true → elemF l f = true → p f = true
  | [], _, h => by cases h
  | g :: l, h, h2 => by
    simp only [List.all_cons, Bool.and_eq_true] at h
    simp only [elemF, Bool.or_eq_true, beq_iff_eq] at h2
    rcases h2 with h2 | h2
    · subst h2; exact h.1
    · exact elemF_all l h.2 h2
theorem fsL_ok : fsL.tail.all fnOk = true := by kernel_rfl

theorem fn_of {f : FuncId} (h : fnOk f = true) : ∃ fn c, Try.prog.funcs[f]? = some fn ∧ fn.body = some c ∧ codeOk q1 c = true ∧ fn.name ≠ "runtime.NumGoroutine" := by
  unfold fnOk at h
  split at h
  · rename_i fn hf
    split at h
    · rename_i c hc
      simp only [Bool.and_eq_true, bne_iff_ne, ne_eq] at h
      exact ⟨fn, c, hf, hc, h.1, h.2⟩
    · cases h
  · cases h
theorem fs1_ok : FsOK Try.prog q1 fs1 := fun f h => fn_of (elemF_all _ fsL_ok h)

end Go.Proofs.Ythajhpilfbijdaa
