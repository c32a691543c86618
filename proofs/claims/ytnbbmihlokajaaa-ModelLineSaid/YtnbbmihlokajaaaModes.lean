/- The modes of this program's functions: 1 pure, 2 makes new memory and writes none that was there, 3 reads; and that the regions of those that are listed may be taken in the text's order. -/
import Derived.Test.YtnbbmihlokajaaaBase
namespace Go.Proofs.Ytnbbmihlokajaaa
open Go
set_option linter.unusedVariables false
set_option maxRecDepth 100000

noncomputable def modes : List (FuncId × Nat) := [(0, 0)
  , (50, 3)
  , (60, 3)
  , (77, 1)
  , (44, 2)
  , (41, 2)
  , (71, 1)
  , (16, 2)
  , (9, 2)
  , (10, 2)
  , (13, 2)
  , (6, 2)
  , (12, 2)
  , (5, 2)
  , (4, 2)
  , (14, 2)
  , (3, 2)
  , (8, 2)
  , (7, 2)
  , (11, 2)
  , (29, 2)
  , (22, 2)
  , (30, 2)
  , (15, 1)
  , (33, 1)
  , (23, 2)
  , (17, 1)
  , (56, 1)
  , (82, 1)
  , (43, 1)
  , (87, 1)
  , (70, 1)
  , (83, 1)
  , (57, 1)
  , (69, 1)
  , (67, 1)
  , (20, 1)
  , (28, 1)
  , (81, 1)
  , (58, 1)
  , (53, 1)
  , (19, 1)
  , (39, 1)
  , (61, 1)
  , (68, 1)
  , (21, 1)
  , (84, 1)
  , (34, 1)
  , (38, 1)
  , (47, 2)
  , (36, 1)
  , (26, 2)
  , (40, 1)
  , (45, 2)
  , (25, 1)
  , (35, 1)
  , (63, 1)
  , (62, 1)
  , (73, 1)
  , (91, 1)
  , (92, 1)
  , (97, 1)
  , (50, 1)
  , (66, 1)
  , (64, 1)
  , (85, 1)
  , (54, 1)
  , (94, 1)
  , (60, 1)
  , (78, 3)
  , (80, 1)
  , (86, 1)
  , (31, 1)
  , (37, 1)
  , (46, 2)
  , (27, 1)
  , (24, 2)
  , (18, 1)
  , (32, 1)
  , (59, 1)
  , (65, 1)
  , (52, 1)
  , (51, 1)
  , (55, 1)
  , (79, 1)
  , (49, 1)
  , (96, 1)
  , (76, 1)
  , (72, 1)
  , (48, 1)
  , (42, 1)
  , (89, 1)
  , (88, 1)
  , (90, 1)
  , (98, 1)
  , (93, 1)
  , (95, 1)
  , (74, 1)
  , (99, 1)
  , (75, 1)
  , (100, 1)
  ]
def lookM : List (FuncId × Nat) → FuncId → Nat
  | [], _ => 0
  | (g, k) :: l, f => if f = g then k else lookM l f
noncomputable def q1 (f : FuncId) : Nat := lookM modes f

/-- One that may be walked. -/
noncomputable def fnOk (f : FuncId) : Bool :=
  match Try.prog.funcs[f]? with
  | some fn => match fn.body with
    | some c => codeOk q1 c && fn.name != "runtime.NumGoroutine"
    | none => false
  | none => false

noncomputable def fsL : List FuncId := [0
  , 77
  , 44
  , 41
  , 71
  , 16
  , 9
  , 10
  , 13
  , 6
  , 12
  , 4
  , 14
  , 3
  , 8
  , 7
  , 11
  , 29
  , 22
  , 30
  , 15
  , 33
  , 23
  , 17
  , 56
  , 82
  , 43
  , 87
  , 70
  , 83
  , 57
  , 69
  , 67
  , 20
  , 28
  , 81
  , 58
  , 53
  , 19
  , 39
  , 61
  , 68
  , 21
  , 84
  , 34
  , 38
  , 47
  , 36
  , 26
  , 40
  , 45
  , 25
  , 35
  , 63
  , 62
  , 73
  , 5
  , 91
  , 92
  , 97
  , 50
  , 66
  , 64
  , 85
  , 54
  , 94
  , 60
  , 78
  , 80
  , 86
  , 31
  , 37
  , 46
  , 27
  , 24
  , 18
  , 32
  , 59
  , 65
  , 52
  , 51
  , 55
  , 79
  , 49
  , 96
  , 48
  , 42
  , 89
  , 88
  , 90
  , 98
  , 93
  , 95
  , 75
  , 100
  ]
def elemF : List FuncId → FuncId → Bool
  | [], _ => false
  | g :: l, f => (f == g) || elemF l f
noncomputable def fs1 (f : FuncId) : Bool := elemF fsL.tail f
theorem elemF_all {p : FuncId → Bool} {f : FuncId} : ∀ l : List FuncId, l.all p = true → elemF l f = true → p f = true
  | [], _, h => by cases h
  | g :: l, h, h2 => by
    simp only [List.all_cons, Bool.and_eq_true] at h
    simp only [elemF, Bool.or_eq_true, beq_iff_eq] at h2
    rcases h2 with h2 | h2
    · subst h2; exact h.1
    · exact elemF_all l h.2 h2
theorem fsL_ok : fsL.tail.all fnOk = true := by kernel_rfl

theorem fn_of {f : FuncId} (h : fnOk f = true) : ∃ fn c, Try.prog.funcs[f]? = some fn ∧ fn.body = some c ∧ codeOk q1 c = true ∧ fn.name ≠ "runtime.NumGoroutine" := by
  unfold fnOk at h
  split at h
  · rename_i fn hf
    split at h
    · rename_i c hc
      simp only [Bool.and_eq_true, bne_iff_ne, ne_eq] at h
      exact ⟨fn, c, hf, hc, h.1, h.2⟩
    · cases h
  · cases h
theorem fs1_ok : FsOK Try.prog q1 fs1 := fun f h => fn_of (elemF_all _ fsL_ok h)

end Go.Proofs.Ytnbbmihlokajaaa
