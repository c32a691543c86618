/- The modes of this program's functions: 1 pure, 2 makes new memory and writes none that was there, 3 reads; and that the regions of those that are listed may be taken in the text's order. -/
import Derived.Test.YtameamgamdaibaaDoorBase
namespace Go.Proofs.YtameamgamdaibaaDoor
open Go
set_option linter.unusedVariables false
set_option maxRecDepth 100000

noncomputable def modes : List (FuncId × Nat) := [(0, 0)
  , (3, 1)
  , (4, 1)
  , (5, 1)
  , (6, 1)
  , (7, 1)
  , (8, 2)
  , (9, 1)
  , (10, 1)
  , (11, 1)
  , (12, 2)
  , (13, 1)
  , (14, 1)
  , (16, 3)
  , (19, 2)
  , (20, 1)
  , (21, 1)
  , (22, 2)
  , (23, 1)
  , (24, 1)
  , (25, 2)
  , (26, 2)
  , (27, 3)
  , (28, 1)
  , (29, 2)
  , (30, 2)
  , (31, 3)
  , (32, 3)
  , (33, 3)
  , (34, 3)
  , (35, 3)
  , (36, 3)
  , (37, 3)
  , (38, 3)
  , (39, 1)
  , (40, 1)
  , (41, 1)
  , (42, 1)
  , (43, 1)
  , (44, 1)
  , (45, 1)
  , (46, 2)
  , (47, 1)
  , (48, 1)
  , (49, 2)
  , (50, 2)
  , (51, 1)
  , (52, 1)
  , (53, 3)
  , (54, 1)
  , (55, 1)
  , (56, 1)
  , (57, 1)
  , (58, 1)
  , (59, 1)
  , (60, 3)
  , (61, 1)
  , (62, 1)
  , (63, 1)
  , (64, 1)
  , (65, 1)
  , (66, 1)
  , (67, 1)
  , (68, 1)
  , (69, 1)
  , (70, 1)
  , (71, 1)
  , (72, 1)
  , (73, 1)
  , (74, 1)
  , (75, 1)
  , (76, 1)
  , (77, 1)
  , (78, 1)
  , (79, 1)
  , (80, 1)
  , (81, 1)
  , (82, 1)
  , (83, 1)
  , (84, 1)
  , (85, 1)
  , (86, 1)
  , (87, 1)
  , (88, 1)
  , (89, 1)
  , (90, 1)
  , (91, 1)
  , (92, 1)
  , (93, 1)
  , (94, 1)
  , (95, 1)
  , (96, 1)
  , (97, 1)
  , (98, 1)
  , (99, 1)
  , (100, 1)
  ]
def lookM : List (FuncId × Nat) → FuncId → Nat
  | [], _ => 0
  | (g, k) :: l, f => if f = g then k else lookM l f
noncomputable def q1 (f : FuncId) : Nat := lookM modes f

/-- One that may be walked. -/
noncomputable def fnOk (f : FuncId) : Bool :=
  match Tryd.prog.funcs[f]? with
  | some fn => match fn.body with
    | some c => codeOk q1 c && fn.name != "runtime.NumGoroutine"
    | none => false
  | none => false

noncomputable def fsL : List FuncId := [0
  , 3
  , 4
  , 5
  , 6
  , 7
  , 8
  , 9
  , 10
  , 11
  , 12
  , 13
  , 14
  , 15
  , 16
  , 17
  , 18
  , 19
  , 20
  , 21
  , 22
  , 23
  , 24
  , 25
  , 26
  , 27
  , 28
  , 29
  , 30
  , 31
  , 32
  , 33
  , 34
  , 35
  , 36
  , 37
  , 38
  , 39
  , 40
  , 41
  , 43
  , 44
  , 46
  , 47
  , 48
  , 49
  , 50
  , 51
  , 52
  , 53
  , 54
  , 55
  , 56
  , 57
  , 58
  , 59
  , 60
  , 61
  , 62
  , 63
  , 65
  , 66
  , 67
  , 68
  , 69
  , 70
  , 71
  , 73
  , 74
  , 75
  , 76
  , 77
  , 78
  , 79
  , 80
  , 81
  , 83
  , 84
  , 85
  , 86
  , 87
  , 88
  , 89
  , 90
  , 91
  , 92
  , 93
  , 94
  , 95
  , 96
  , 97
  , 98
  , 99
  , 100
  ]
def elemF : List FuncId → FuncId → Bool
  | [], _ => false
  | g :: l, f => (f == g) || elemF l f
noncomputable def fs1 (f : FuncId) : Bool := elemF fsL.tail f
theorem elemF_all {p : FuncId → Bool} {f : FuncId} : ∀ l : List FuncId, l.all p = true → elemF l f = true → p f = true
  | [], _, h => by cases h
  | g :: l, h, h2 => by
    simp only [List.all_cons, Bool.and_eq_true] at h
    simp only [elemF, Bool.or_eq_true, beq_iff_eq] at h2
    rcases h2 with h2 | h2
    · subst h2; exact h.1
    · exact elemF_all l h.2 h2
theorem fsL_ok : fsL.tail.all fnOk = true := by kernel_rfl

theorem fn_of {f : FuncId} (h : fnOk f = true) : ∃ fn c, Tryd.prog.funcs[f]? = some fn ∧ fn.body = some c ∧ codeOk q1 c = true ∧ fn.name ≠ "runtime.NumGoroutine" := by
  unfold fnOk at h
  split at h
  · rename_i fn hf
    split at h
    · rename_i c hc
      simp only [Bool.and_eq_true, bne_iff_ne, ne_eq] at h
      exact ⟨fn, c, hf, hc, h.1, h.2⟩
    · cases h
  · cases h
theorem fs1_ok : FsOK Tryd.prog q1 fs1 := fun f h => fn_of (elemF_all _ fsL_ok h)

end Go.Proofs.YtameamgamdaibaaDoor
