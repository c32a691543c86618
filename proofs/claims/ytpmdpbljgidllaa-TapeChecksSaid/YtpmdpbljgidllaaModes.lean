/- The modes of this program's functions: 1 pure, 2 makes new memory and writes none that was there, 3 reads; and that the regions of those that are listed may be taken in the text's order. -/
import Derived.Test.YtpmdpbljgidllaaBase
namespace Go.Proofs.Ytpmdpbljgidllaa
open Go
set_option linter.unusedVariables false
set_option maxRecDepth 100000

noncomputable def modes : List (FuncId × Nat) := [(0, 0)
  , (60, 3)
  , (61, 3)
  , (62, 3)
  , (63, 3)
  , (77, 1)
  , (45, 2)
  , (48, 2)
  , (54, 1)
  , (18, 2)
  , (43, 1)
  , (36, 1)
  , (55, 1)
  , (13, 2)
  , (14, 2)
  , (3, 2)
  , (11, 2)
  , (10, 2)
  , (5, 2)
  , (7, 2)
  , (8, 2)
  , (6, 2)
  , (9, 2)
  , (4, 2)
  , (19, 2)
  , (34, 2)
  , (12, 1)
  , (17, 1)
  , (49, 1)
  , (87, 1)
  , (27, 1)
  , (99, 1)
  , (24, 2)
  , (30, 1)
  , (88, 1)
  , (73, 1)
  , (76, 1)
  , (90, 1)
  , (29, 1)
  , (28, 1)
  , (86, 1)
  , (75, 1)
  , (26, 1)
  , (21, 1)
  , (37, 2)
  , (56, 1)
  , (74, 1)
  , (91, 1)
  , (22, 1)
  , (89, 1)
  , (16, 2)
  , (35, 2)
  , (38, 2)
  , (31, 2)
  , (57, 1)
  , (53, 1)
  , (41, 1)
  , (93, 1)
  , (58, 1)
  , (94, 1)
  , (101, 1)
  , (60, 1)
  , (63, 1)
  , (80, 1)
  , (92, 1)
  , (62, 1)
  , (100, 1)
  , (61, 1)
  , (78, 3)
  , (79, 1)
  , (81, 1)
  , (15, 2)
  , (25, 2)
  , (20, 2)
  , (47, 1)
  , (64, 3)
  , (65, 3)
  , (66, 3)
  , (67, 3)
  , (68, 3)
  , (39, 1)
  , (44, 1)
  , (59, 3)
  , (40, 1)
  , (33, 1)
  , (83, 1)
  , (52, 1)
  , (46, 1)
  , (32, 1)
  , (23, 1)
  , (70, 1)
  , (69, 1)
  , (72, 1)
  , (71, 1)
  , (42, 1)
  , (98, 1)
  , (82, 1)
  , (50, 1)
  , (84, 1)
  , (95, 1)
  , (51, 1)
  , (85, 1)
  , (97, 1)
  , (96, 1)
  ]
def lookM : List (FuncId × Nat) → FuncId → Nat
  | [], _ => 0
  | (g, k) :: l, f => if f = g then k else lookM l f
noncomputable def q1 (f : FuncId) : Nat := lookM modes f

/-- One that may be walked. -/
noncomputable def fnOk (f : FuncId) : Bool :=
  match Try.prog.funcs[f]? with
  | some fn => match fn.body with
    | some c => codeOk q1 c && fn.name != "runtime.NumGoroutine"
    | none => false
  | none => false

noncomputable def fsL : List FuncId := [0
  , 77
  , 45
  , 48
  , 54
  , 18
  , 43
  , 36
  , 55
  , 13
  , 14
  , 3
  , 11
  , 10
  , 5
  , 7
  , 8
  , 6
  , 9
  , 4
  , 19
  , 34
  , 12
  , 17
  , 49
  , 87
  , 27
  , 99
  , 24
  , 30
  , 88
  , 73
  , 76
  , 90
  , 29
  , 28
  , 86
  , 75
  , 26
  , 21
  , 37
  , 56
  , 74
  , 91
  , 22
  , 89
  , 16
  , 35
  , 38
  , 31
  , 57
  , 53
  , 41
  , 93
  , 58
  , 94
  , 101
  , 60
  , 63
  , 80
  , 92
  , 62
  , 100
  , 61
  , 78
  , 79
  , 81
  , 15
  , 25
  , 20
  , 47
  , 64
  , 65
  , 66
  , 67
  , 68
  , 39
  , 44
  , 59
  , 40
  , 33
  , 83
  , 32
  , 23
  , 70
  , 69
  , 72
  , 71
  , 42
  , 98
  , 82
  , 51
  , 85
  , 97
  , 96
  ]
def elemF : List FuncId → FuncId → Bool
  | [], _ => false
  | g :: l, f => (f == g) || elemF l f
noncomputable def fs1 (f : FuncId) : Bool := elemF fsL.tail f
theorem elemF_all {p : FuncId → Bool} {f : FuncId} : ∀ l : List FuncId, l.all p = true → elemF l f = true → p f = true
  | [], _, h => by cases h
  | g :: l, h, h2 => by
    simp only [List.all_cons, Bool.and_eq_true] at h
    simp only [elemF, Bool.or_eq_true, beq_iff_eq] at h2
    rcases h2 with h2 | h2
    · subst h2; exact h.1
    · exact elemF_all l h.2 h2
theorem fsL_ok : fsL.tail.all fnOk = true := by kernel_rfl

theorem fn_of {f : FuncId} (h : fnOk f = true) : ∃ fn c, Try.prog.funcs[f]? = some fn ∧ fn.body = some c ∧ codeOk q1 c = true ∧ fn.name ≠ "runtime.NumGoroutine" := by
  unfold fnOk at h
  split at h
  · rename_i fn hf
    split at h
    · rename_i c hc
      simp only [Bool.and_eq_true, bne_iff_ne, ne_eq] at h
      exact ⟨fn, c, hf, hc, h.1, h.2⟩
    · cases h
  · cases h
theorem fs1_ok : FsOK Try.prog q1 fs1 := fun f h => fn_of (elemF_all _ fsL_ok h)

end Go.Proofs.Ytpmdpbljgidllaa
