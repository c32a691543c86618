/- The modes of this program's functions: 1 pure, 2 makes new memory and writes none that was there, 3 reads; and that the regions of those that are listed may be taken in the text's order. -/
import Derived.Test.YtdlinjijccnaeaaBase
namespace Go.Proofs.Ytdlinjijccnaeaa
open Go
set_option linter.unusedVariables false
set_option maxRecDepth 100000

noncomputable def modes : List (FuncId × Nat) := [(0, 0)
  , (72, 3)
  , (73, 3)
  , (74, 3)
  , (75, 3)
  , (89, 1)
  , (42, 2)
  , (77, 2)
  , (76, 2)
  , (39, 2)
  , (70, 2)
  , (69, 2)
  , (58, 1)
  , (30, 2)
  , (57, 1)
  , (31, 1)
  , (59, 1)
  , (17, 2)
  , (18, 2)
  , (40, 1)
  , (10, 2)
  , (9, 2)
  , (4, 2)
  , (6, 2)
  , (3, 2)
  , (11, 2)
  , (8, 2)
  , (5, 2)
  , (7, 2)
  , (12, 1)
  , (23, 1)
  , (13, 1)
  , (43, 1)
  , (82, 1)
  , (44, 1)
  , (26, 2)
  , (19, 1)
  , (15, 2)
  , (45, 1)
  , (51, 1)
  , (54, 1)
  , (84, 1)
  , (21, 1)
  , (22, 1)
  , (81, 1)
  , (53, 1)
  , (49, 1)
  , (61, 2)
  , (88, 1)
  , (52, 1)
  , (85, 1)
  , (83, 1)
  , (28, 2)
  , (50, 1)
  , (25, 2)
  , (29, 2)
  , (24, 2)
  , (32, 2)
  , (46, 1)
  , (55, 1)
  , (99, 1)
  , (34, 1)
  , (62, 1)
  , (72, 1)
  , (75, 1)
  , (92, 1)
  , (35, 1)
  , (98, 1)
  , (74, 1)
  , (103, 1)
  , (73, 1)
  , (90, 3)
  , (91, 1)
  , (93, 1)
  , (16, 2)
  , (20, 2)
  , (14, 2)
  , (33, 3)
  , (38, 1)
  , (64, 3)
  , (65, 3)
  , (66, 3)
  , (67, 3)
  , (68, 3)
  , (41, 1)
  , (71, 3)
  , (60, 1)
  , (94, 1)
  , (87, 1)
  , (63, 1)
  , (27, 1)
  , (36, 1)
  , (79, 1)
  , (37, 1)
  , (86, 1)
  , (80, 1)
  , (56, 1)
  , (78, 1)
  , (95, 1)
  , (47, 1)
  , (96, 1)
  , (100, 1)
  , (48, 1)
  , (97, 1)
  , (102, 1)
  , (101, 1)
  ]
def lookM : List (FuncId × Nat) → FuncId → Nat
  | [], _ => 0
  | (g, k) :: l, f => if f = g then k else lookM l f
noncomputable def q1 (f : FuncId) : Nat := lookM modes f

/-- One that may be walked. -/
noncomputable def fnOk (f : FuncId) : Bool :=
  match Try.prog.funcs[f]? with
  | some fn => match fn.body with
    | some c => codeOk q1 c && fn.name != "runtime.NumGoroutine"
    | none => false
  | none => false

noncomputable def fsL : List FuncId := [0
  , 89
  , 42
  , 77
  , 76
  , 39
  , 70
  , 69
  , 58
  , 30
  , 57
  , 31
  , 59
  , 17
  , 18
  , 40
  , 10
  , 9
  , 4
  , 6
  , 3
  , 11
  , 8
  , 7
  , 12
  , 23
  , 13
  , 43
  , 82
  , 44
  , 26
  , 19
  , 15
  , 45
  , 51
  , 54
  , 84
  , 21
  , 22
  , 81
  , 53
  , 49
  , 61
  , 88
  , 52
  , 85
  , 83
  , 28
  , 50
  , 25
  , 29
  , 24
  , 32
  , 46
  , 55
  , 5
  , 99
  , 34
  , 62
  , 72
  , 75
  , 92
  , 35
  , 98
  , 74
  , 103
  , 73
  , 90
  , 91
  , 93
  , 16
  , 20
  , 14
  , 33
  , 38
  , 64
  , 65
  , 66
  , 67
  , 68
  , 41
  , 71
  , 60
  , 94
  , 27
  , 36
  , 79
  , 37
  , 86
  , 80
  , 56
  , 78
  , 95
  , 48
  , 97
  , 102
  , 101
  ]
def elemF : List FuncId → FuncId → Bool
  | [], _ => false
  | g :: l, f => (f == g) || elemF l f
noncomputable def fs1 (f : FuncId) : Bool := elemF fsL.tail f
theorem elemF_all {p : FuncId → Bool} {f : FuncId} : ∀ l : List FuncId, l.all p = true → elemF l f = true → p f = true
  | [], _, h => by cases h
  | g :: l, h, h2 => by
    simp only [List.all_cons, Bool.and_eq_true] at h
    simp only [elemF, Bool.or_eq_true, beq_iff_eq] at h2
    rcases h2 with h2 | h2
    · subst h2; exact h.1
    · exact elemF_all l h.2 h2
theorem fsL_ok : fsL.tail.all fnOk = true := by kernel_rfl

theorem fn_of {f : FuncId} (h : fnOk f = true) : ∃ fn c, Try.prog.funcs[f]? = some fn ∧ fn.body = some c ∧ codeOk q1 c = true ∧ fn.name ≠ "runtime.NumGoroutine" := by
  unfold fnOk at h
  split at h
  · rename_i fn hf
    split at h
    · rename_i c hc
      simp only [Bool.and_eq_true, bne_iff_ne, ne_eq] at h
      exact ⟨fn, c, hf, hc, h.1, h.2⟩
    · cases h
  · cases h
theorem fs1_ok : FsOK Try.prog q1 fs1 := fun f h => fn_of (elemF_all _ fsL_ok h)

end Go.Proofs.Ytdlinjijccnaeaa
