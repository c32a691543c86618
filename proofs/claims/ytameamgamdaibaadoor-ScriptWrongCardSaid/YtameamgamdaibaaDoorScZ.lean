/- What Parse tells of any text, up to the problem's own check. -/
import Derived.Test.YtameamgamdaibaaDoorScM
namespace Go.Proofs.YtameamgamdaibaaDoor
open Go
set_option linter.unusedVariables false
set_option linter.unusedSimpArgs false
set_option maxRecDepth 100000

/-- A problem as data. -/
structure ProbD where
  N : Int
  ops : List OpD
  out : List Int
  box : List (Nat × Nat)
  y : List Nat
  e : Int
  f : Int
  l : Int
  a : Nat
  b : Nat
  c : Nat
  m : Int
  z : List Int
def linesP (s : List UInt8) : List (List UInt8) := (splitC 1 10 s).filterMap lineP
def cntP (L : List (List UInt8)) (k : Nat) (f : List UInt8) (m : Int) : Option (List Int) := match takeP L k f m with
  | some ws => allP digP ws
  | none => none
noncomputable def fltsP (L : List (List UInt8)) (k : Nat) (f : List UInt8) (m : Int) : Option (List Nat) := match takeP L k f m with
  | some ws => allP fltP ws
  | none => none
/-- Behind the last line that is taken: are there more, is the last one ended? -/
def lastP (s : List UInt8) (n k : Nat) (d : ProbD) : Nat ⊕ ProbD := if k < n then .inl (k + 1) else if endsC 10 s then .inr d else .inl (k + 1)
/-- A text as a problem, or the line at which it cannot go on. -/
noncomputable def preP (s : List UInt8) : Nat ⊕ ProbD :=
  if 20000 < s.length then .inl 0 else
  match cntP (linesP s) 0 wVars 1 with
  | none => .inl 1
  | some N => match opsP (linesP s) ((linesP s).length + 1) 1 [] with
    | (false, _, k) => .inl (k + 1)
    | (true, ops, k) => match cntP (linesP s) k wOut (-1) with
      | none => .inl (k + 1)
      | some R => match boxP (linesP s) ((linesP s).length + 1) (k + 1) [] with
        | (false, _, q) => .inl (q + 1)
        | (true, bs, q) => match fltsP (linesP s) q wStart (-1) with
          | none => .inl (q + 1)
          | some Y => match cntP (linesP s) (q + 1) wSteps 4 with
            | none => .inl (q + 2)
            | some S => match fltsP (linesP s) (q + 2) wTol 3 with
              | none => .inl (q + 3)
              | some T => if q + 3 < (linesP s).length then
                  (match cntP (linesP s) (q + 3) wAt (-1) with
                  | none => .inl (q + 4)
                  | some Z => lastP s (linesP s).length (q + 4) ⟨N.getD 0 0, ops, R, bs, Y, S.getD 0 0, S.getD 1 0, S.getD 2 0, T.getD 0 0, T.getD 1 0, T.getD 2 0, S.getD 3 0, Z⟩)
                else lastP s (linesP s).length (q + 3) ⟨N.getD 0 0, ops, R, bs, Y, S.getD 0 0, S.getD 1 0, S.getD 2 0, T.getD 0 0, T.getD 1 0, T.getD 2 0, S.getD 3 0, []⟩

/-! ### bounds -/
theorem splitC_count (sv c : Nat) (s : List UInt8) : (splitC sv c s).length ≤ s.length + 1 := splitC_len sv c s
theorem splitC_mem1 (c : Nat) : ∀ (x : List UInt8) (p : List UInt8), p ∈ splitC 1 c x → p.length ≤ x.length := splitC_mem 1 c
theorem lines_len (s : List UInt8) : (linesP s).length ≤ s.length + 1 := Nat.le_trans (List.length_filterMap_le _ _) (splitC_len 1 10 s)
theorem lines_mem (s : List UInt8) : ∀ x ∈ linesP s, x.length ≤ s.length := by
  intro x hx
  obtain ⟨p, hp, hl⟩ := List.mem_filterMap.1 hx
  have := splitC_mem 1 10 s p hp
  unfold lineP at hl
  split at hl
  · injection hl with hl
    subst hl
    unfold trimC
    split
    · rw [List.length_dropLast]; omega
    · exact this
  · cases hl

/-! ### the first loop, told anew -/
section
variable {s : List UInt8}
theorem loop0_nil (h : s.length ≤ 20000) (hA : linesP s = []) : ∃ tm2 H2, EntOK 0 k0.1 k0.2 (sl0 s (splitC 1 10 s)) tm2 H2 ∧ CodeB Tryd.prog 0 (.loop bodyL0) tm2 H2 (.exit 0, tmA 206 (L1 s), #[outB 0 nlS nlS nlS, psB nlS 0 true]) := by
  have hs := splitC_len 1 10 s
  have rds := l0_rds s (splitC 1 10 s) (fun x hx => by have := splitC_mem 1 10 s x hx; omega) (by omega) (splitC 1 10 s) [] 0 rfl (Nat.zero_le _) (Nat.le_refl _)
  have e : [] ++ (splitC 1 10 s).filterMap lineP = ([] : List (List UInt8)) := hA
  rw [e] at rds
  refine ⟨_, _, entN s (splitC 1 10 s) _ 0, rds.loop.ren (relS_of (L := L1 s) (R := [0, 2]) (H2 := [outB 0 nlS nlS nlS, psB nlS 0 true]) rfl (by simp) (by simp) ?_ ?_)⟩
  · exact .cons (.clos rfl) (.cons (.ptr 0 0 0 none (show (0 : Nat) < 2 by decide) rfl) (.cons (.ptr 1 2 0 none (show (1 : Nat) < 2 by decide) rfl) .nil))
  · exact .some (.plain prob_clos) (.some (.plain psn_clos) .nil)
theorem loop0 (h : s.length ≤ 20000) {a : List UInt8} {A : List (List UInt8)} (hA : linesP s = a :: A) : ∃ tm2 H2, EntOK 0 k0.1 k0.2 (sl0 s (splitC 1 10 s)) tm2 H2 ∧ CodeB Tryd.prog 0 (.loop bodyL0) tm2 H2 (.exit 0, tmA 206 (L1 s), (M0 (linesP s).length (stB (linesP s) true)).toArray) := by
  have hs := splitC_len 1 10 s
  have rds := l0_rds s (splitC 1 10 s) (fun x hx => by have := splitC_mem 1 10 s x hx; omega) (by omega) (splitC 1 10 s) [] 0 rfl (Nat.zero_le _) (Nat.le_refl _)
  have e : [] ++ (splitC 1 10 s).filterMap lineP = a :: A := hA
  rw [e] at rds
  rw [hA]
  refine ⟨_, _, entN s (splitC 1 10 s) _ 0, rds.loop.ren (relS_of (L := L1 s) (R := [0, 2, 3]) (H2 := M0 (a :: A).length (stB (a :: A) true)) rfl (by simp) (by simp) ?_ ?_)⟩
  · exact .cons (.clos rfl) (.cons (.ptr 0 0 0 none (show (0 : Nat) < 3 by decide) rfl) (.cons (.ptr 1 2 0 none (show (1 : Nat) < 3 by decide) rfl) .nil))
  · refine .some (.plain prob_clos) (.some ?_ (.some (.plain (st_clos _)) .nil))
    exact RelK.list (l2 := [oS 2 (a :: A).length, .int .i64 0]) (l1 := [oS 3 (a :: A).length, .int .i64 0]) (.cons (.slice 2 3 0 none _ _ _ (show (2 : Nat) < 3 by decide) rfl) (.cons (.clos rfl) .nil))
/-- Ahead of the second, of the third loop. -/
theorem ent1 (N : Int) (L : List (List UInt8)) (k : Nat) : EntOK 0 [0, 2, 6] [0, 1, 2, 5] (sl1P s N L.length (k : Nat) (stB L true)) (tmA 206 (L1 s)) (memO N [] L k).toArray := by
  unfold memO H1 sl1P
  refine entOK rfl (by simp) (by simp) (L1_rel (show (1 : Nat) < 4 by decide) rfl rfl s) ?_
  exact outB_rel (.clos rfl) (.clos rfl) (.clos rfl) (psK_rel (show (2 : Nat) < 4 by decide) rfl (.some (.plain (st_clos L)) (.none _ .nil)))
theorem ent2 (N : Int) (ops : List OpD) (R : List Int) (L : List (List UInt8)) (k : Nat) (x : Option (Option ABlk)) : EntOK 0 [0, 2, 6] [0, 1, 2, 3, 5, 6] (sl2P s N (opsV ops) R.length L.length (k : Nat) (stB L true) (opsB ops) (oB_I R) x) (tmA 206 (L1 s)) (memB N ops R [] L k).toArray := by
  unfold memB H2 sl2P
  refine entOK rfl (by simp) (by simp) (L1_rel (show (1 : Nat) < 6 by decide) rfl rfl s) ?_
  refine outB_rel (opsV_rel (show (3 : Nat) < 6 by decide) rfl ops) (.slice 4 5 0 none _ _ _ (show (4 : Nat) < 6 by decide) rfl) (.clos rfl) (psK_rel (show (2 : Nat) < 6 by decide) rfl (.some (.plain (st_clos L)) (opsB_rel ops ?_)))
  exact .some (.plain (closI R)) (.none _ .nil)
end

end Go.Proofs.YtameamgamdaibaaDoor
