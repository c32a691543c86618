/- The modes of this program's functions: 1 pure, 2 makes new memory and writes none that was there, 3 reads; and that the regions of those that are listed may be taken in the text's order. -/
import Derived.Test.YtclphdmaedpipaaBase
namespace Go.Proofs.Ytclphdmaedpipaa
open Go
set_option linter.unusedVariables false
set_option maxRecDepth 100000

noncomputable def modes : List (FuncId × Nat) := [(0, 0)
  , (41, 2)
  , (37, 2)
  , (57, 2)
  , (27, 2)
  , (28, 2)
  , (46, 1)
  , (14, 2)
  , (12, 2)
  , (6, 2)
  , (9, 2)
  , (10, 2)
  , (8, 2)
  , (3, 2)
  , (7, 2)
  , (11, 2)
  , (4, 2)
  , (5, 2)
  , (13, 1)
  , (15, 1)
  , (23, 1)
  , (26, 1)
  , (17, 2)
  , (31, 1)
  , (49, 1)
  , (25, 2)
  , (30, 2)
  , (48, 1)
  , (20, 2)
  , (21, 2)
  , (39, 2)
  , (40, 2)
  , (58, 1)
  , (52, 1)
  , (51, 2)
  , (34, 2)
  , (32, 2)
  , (50, 1)
  , (19, 2)
  , (33, 2)
  , (35, 2)
  , (36, 2)
  , (38, 2)
  , (45, 1)
  , (18, 2)
  , (22, 2)
  , (42, 3)
  , (16, 2)
  , (24, 2)
  , (44, 3)
  , (29, 2)
  , (47, 2)
  , (56, 1)
  , (61, 3)
  , (62, 3)
  , (63, 3)
  , (64, 3)
  , (65, 3)
  , (43, 1)
  , (69, 1)
  , (54, 1)
  , (53, 1)
  , (70, 1)
  , (66, 1)
  , (67, 1)
  , (55, 1)
  , (59, 1)
  , (60, 1)
  , (68, 1)
  ]
def lookM : List (FuncId × Nat) → FuncId → Nat
  | [], _ => 0
  | (g, k) :: l, f => if f = g then k else lookM l f
noncomputable def q1 (f : FuncId) : Nat := lookM modes f

/-- One that may be walked. -/
noncomputable def fnOk (f : FuncId) : Bool :=
  match Try.prog.funcs[f]? with
  | some fn => match fn.body with
    | some c => codeOk q1 c && fn.name != "runtime.NumGoroutine"
    | none => false
  | none => false

noncomputable def fsL : List FuncId := [0
  , 41
  , 37
  , 57
  , 27
  , 28
  , 46
  , 14
  , 12
  , 6
  , 9
  , 10
  , 8
  , 3
  , 7
  , 11
  , 4
  , 5
  , 13
  , 15
  , 23
  , 26
  , 17
  , 31
  , 49
  , 25
  , 30
  , 48
  , 20
  , 21
  , 39
  , 40
  , 58
  , 52
  , 51
  , 34
  , 32
  , 50
  , 19
  , 33
  , 35
  , 36
  , 38
  , 45
  , 18
  , 22
  , 42
  , 16
  , 24
  , 44
  , 29
  , 47
  , 56
  , 61
  , 62
  , 63
  , 64
  , 65
  , 43
  , 69
  , 70
  , 66
  , 67
  , 55
  , 60
  , 68
  ]
def elemF : List FuncId → FuncId → Bool
  | [], _ => false
  | g :: l, f => (f == g) || elemF l f
noncomputable def fs1 (f : FuncId) : Bool := elemF fsL.tail f
theorem elemF_all {p : FuncId → Bool} {f : FuncId} : ∀ l : List FuncId, l.all p = true → elemF l f = true → p f = true
  | [], _, h => by cases h
  | g :: l, h, h2 => by
    simp only [List.all_cons, Bool.and_eq_true] at h
    simp only [elemF, Bool.or_eq_true, beq_iff_eq] at h2
    rcases h2 with h2 | h2
    · subst h2; exact h.1
    · exact elemF_all l h.2 h2
theorem fsL_ok : fsL.tail.all fnOk = true := by kernel_rfl

theorem fn_of {f : FuncId} (h : fnOk f = true) : ∃ fn c, Try.prog.funcs[f]? = some fn ∧ fn.body = some c ∧ codeOk q1 c = true ∧ fn.name ≠ "runtime.NumGoroutine" := by
  unfold fnOk at h
  split at h
  · rename_i fn hf
    split at h
    · rename_i c hc
      simp only [Bool.and_eq_true, bne_iff_ne, ne_eq] at h
      exact ⟨fn, c, hf, hc, h.1, h.2⟩
    · cases h
  · cases h
theorem fs1_ok : FsOK Try.prog q1 fs1 := fun f h => fn_of (elemF_all _ fsL_ok h)

end Go.Proofs.Ytclphdmaedpipaa
