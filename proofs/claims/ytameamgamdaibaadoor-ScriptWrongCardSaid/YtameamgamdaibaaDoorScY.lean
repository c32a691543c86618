/- What Parse tells of any text, the problem's own check aside. -/
import Derived.Test.YtameamgamdaibaaDoorScZ
namespace Go.Proofs.YtameamgamdaibaaDoor
open Go
set_option linter.unusedVariables false
set_option linter.unusedSimpArgs false
set_option maxRecDepth 100000

theorem cmpGt (x y : Int) : cmpV Tryd.prog .gtr 3 (.int .i64 x) (.int .i64 y) = some (decide (x > y)) := by kernel_rfl
theorem cmpLt (x y : Int) : cmpV Tryd.prog .lss 3 (.int .i64 x) (.int .i64 y) = some (decide (x < y)) := by kernel_rfl
/-- All of a row behind nothing, cells by the bunch. -/
theorem app_many {P : Program} {t e : TypeId} {w : Nat} (hg : growOk P t e w = true) {H : AHeap} {b c n : Nat} {B : ABlk} (hB : H[b]? = some (some B)) (hn : B.cells.size = n * w) (h1 : B.cells.toList.all oneC = true) (hpos : 1 ≤ n) (hlim : n ≤ 16777216) :
    appendV P H t t (.slice none 0 0) (.slice (some ⟨b, 0, none⟩) n c) = some (.slice (some ⟨H.size, 0, none⟩) n n, H.push (some ⟨B.cells, e, w, true⟩)) := by
  obtain ⟨hu, i, z, hi, g1, g2, g3, hz, g4⟩ := growOk_ex hg
  have hcut : cut B.cells 0 (n * w) = B.cells := by
    unfold cut
    rw [List.drop_zero, List.take_of_length_le (by simp [hn])]
  have hnews : newsV H i.size (.slice (some ⟨b, 0, none⟩) n c) = some (n, B.cells) := by
    unfold newsV
    simp only [hB, g1, hcut]
    rw [if_pos]
    rw [Bool.and_eq_true]
    exact ⟨decide_eq_true (by omega), h1⟩
  unfold appendV
  simp only [hu, hi, hz]
  rw [if_pos]
  · simp only [hnews]
    rw [if_neg (by omega), if_pos hlim, g1]
  · simp only [beq_self_eq_true, Bool.true_and, Bool.and_eq_true, beq_iff_eq, decide_eq_true_eq]
    exact ⟨⟨by omega, by omega⟩, g3⟩
theorem spl_runs (l : List UInt8) (hs : l.length < 4294967281) : (obSp l (splitC 1 10 l)).ok Tryd.prog := by
  have h := gens1 ⟨l.toArray⟩ 10 hs #[probB false]
  have e : (piecesV 1 (10 : UInt8).toNat (bsL ⟨l.toArray⟩)).toArray = ((splitC 1 10 l).flatMap stC).toArray := by
    unfold piecesV
    rw [List.map_eq_flatMap]
    rfl
  rw [e] at h
  have e2 : (splitC 1 (10 : UInt8).toNat (bsL ⟨l.toArray⟩)).length = (splitC 1 10 l).length := rfl
  rw [e2] at h
  show Runs _ _ _ _ (oS 1 (splitC 1 10 l).length) #[probB false, some ⟨((splitC 1 10 l).flatMap stC).toArray, 9, 1, true⟩]
  generalize (splitC 1 10 l).length = n at h ⊢
  generalize ((splitC 1 10 l).flatMap stC).toArray = cs at h ⊢
  exact askN_runs (ask := fun g => if g == 22 then 1 else 0) (askC := noC) (d := 1) (s := [⟨fun k => .slice (some ⟨k, 0, none⟩) n n, [some ⟨cs, 9, 1, true⟩]⟩])
      (l := [.run 22 #[stL l, s1 10, .int .i64 1, .int .i64 (-1)] #[probB false] (.slice (some ⟨1, 0, none⟩) n n) #[probB false, some ⟨cs, 9, 1, true⟩]]) (by kernel_rfl) ⟨h, trivial⟩
theorem takeNil : (Obl.run 25 #[pt 1, stL wVars, .int .i64 1] (froze #[outB 0 nlS nlS nlS, psB nlS 0 true]) nilF (froze #[outB 0 nlS nlS nlS, psB nlS 0 true] ++ #[])).ok Tryd.prog :=
  askN_runs (ask := fun _ => 0) (askC := noC) (d := 1) (s := []) (l := []) (by kernel_rfl) trivial

/-- A problem as it lies in a memory of its own. -/
def oW (b : Nat) : Nat → Value
  | 0 => nlS
  | n + 1 => oS b (n + 1)
def prV0 (d : ProbD) : Value := .agg (pbC d.N (oW 0 d.ops.length) (oS 1 d.out.length) (oW 2 d.box.length) (oS 3 d.y.length) d.e d.f d.l d.a d.b d.c d.m (oW 4 d.z.length))
def okV (d : ProbD) : Value := .tuple #[prV0 d, .int .i64 0, .int .i64 0]
def zB : List Int → Option ABlk
  | [] => none
  | a :: l => oB_I (a :: l)
def okL (d : ProbD) : List (Option ABlk) := [opsB d.ops, oB_I d.out, boxB d.box, oB_F d.y, zB d.z]
def okM (d : ProbD) : AHeap := (okL d).toArray
/-- Its check, wherever it lies. -/
def ChkOk (d : ProbD) (c : Bool) : Prop := Runs Tryd.prog 19 #[prV0 d] (froze (okM d)) (.bool c) (froze (okM d))
def SaysP (s : List UInt8) : Nat ⊕ ProbD → Prop
  | .inl k => Tells P0 #[stL s] #[] (badP (k : Nat))
  | .inr d => (ChkOk d false → Tells P0 #[stL s] #[] (badP 0)) ∧ (ChkOk d true → d.ops ≠ [] → d.box ≠ [] → Runs Tryd.prog P0 #[stL s] #[] (okV d) (okM d))

/-! ### seen from another memory -/
theorem RelAs.agg {z : Nat} {ρ : Nat → Nat} {l2 l1 : List Value} (h : RelAs z ρ l2 l1) : RelA z ρ (.agg l2.toArray) (.agg l1.toArray) := by
  have key : ∀ {l2 l1 : List Value}, RelAs z ρ l2 l1 → l2.length = l1.length ∧ ∀ (i : Nat) (v2 v1 : Value), l2[i]? = some v2 → l1[i]? = some v1 → RelA z ρ v2 v1 := by
    intro l2 l1 h
    induction h with
    | nil => exact ⟨rfl, fun i v2 v1 h => by simp at h⟩
    | cons h t ih =>
      refine ⟨by simp [ih.1], fun i v2 v1 e2 e1 => ?_⟩
      cases i with
      | zero =>
        simp only [List.getElem?_cons_zero, Option.some.injEq] at e2 e1
        subst e2 e1
        exact h
      | succ i => exact ih.2 i v2 v1 (by simpa using e2) (by simpa using e1)
  obtain ⟨h1, h2⟩ := key h
  exact .agg (by simpa using h1) fun i g1 g2 => h2 i _ _ (by simp at g1; simp [g1]) (by simp at g2; simp [g2])
theorem oW_rel {z : Nat} {ρ : Nat → Nat} {b b' : Nat} (hb : b < z) (e : ρ b = b') (n : Nat) : RelA z ρ (oW b n) (oW b' n) := by
  cases n with
  | zero => exact .clos rfl
  | succ n => exact .slice b b' 0 none _ _ _ hb e
theorem opsV_oW (l : List OpD) : opsV l = oW 3 l.length := by cases l <;> rfl
theorem boxV_oW (l : List (Nat × Nat)) : boxV l = oW 5 l.length := by cases l <;> rfl
theorem oS_oW {n : Nat} (h : n ≠ 0) (b : Nat) : oS b n = oW b n := by cases n with
  | zero => exact absurd rfl h
  | succ n => rfl
theorem frozeX {H : List (Option ABlk)} {b : Nat} {x : Option ABlk} (h : H[b]? = some x) : (froze H.toArray)[b]? = some (fz x) := by
  unfold froze
  simp [h]
def clB (x : Option ABlk) : Prop := ∀ B, x = some B → ∀ (i : Nat) (v : Value), B.cells[i]? = some v → closN 4 v = true
theorem bs_same {z : Nat} {ρ : Nat → Nat} {x : Option ABlk} (hx : clB x) {l l'} (t : RelBs z ρ l l') : RelBs z ρ (x :: l) (some x :: l') := by
  cases x with
  | none => exact .none _ t
  | some B => exact .some (.plain (hx B rfl)) t
theorem clB.fz {x : Option ABlk} (h : clB x) : clB (fz x) := by
  cases x with
  | none => intro B e; cases e
  | some B => intro B' e; injection e with e; subst e; exact h B rfl
theorem cl_ops (l : List OpD) : clB (opsB l) := by
  intro B e
  cases l with
  | nil => cases e
  | cons a l => injection e with e; subst e; exact opC_clos _
theorem cl_box (l : List (Nat × Nat)) : clB (boxB l) := by
  intro B e
  cases l with
  | nil => cases e
  | cons a l => injection e with e; subst e; exact bxC_clos _
theorem cl_I (l : List Int) : clB (oB_I l) := by
  intro B e
  injection e with e; subst e; exact closI l
theorem cl_F (l : List Nat) : clB (oB_F l) := by
  intro B e
  injection e with e; subst e; exact closF l
theorem pb_rel {z : Nat} {ρ : Nat → Nat} {d : ProbD} {ov rv bv yv av ov' rv' bv' yv' av' : Value} (h1 : RelA z ρ ov ov') (h2 : RelA z ρ rv rv') (h3 : RelA z ρ bv bv') (h4 : RelA z ρ yv yv') (h5 : RelA z ρ av av') :
    RelA z ρ (.agg (pbC d.N ov rv bv yv d.e d.f d.l d.a d.b d.c d.m av)) (.agg (pbC d.N ov' rv' bv' yv' d.e d.f d.l d.a d.b d.c d.m av')) :=
  RelAs.agg (l2 := [.int .i64 d.N, ov, rv, bv, yv, .int .i64 d.e, .int .i64 d.f, .int .i64 d.l, .float .f64 d.a, .float .f64 d.b, .float .f64 d.c, .int .i64 d.m, av])
    (l1 := [.int .i64 d.N, ov', rv', bv', yv', .int .i64 d.e, .int .i64 d.f, .int .i64 d.l, .float .f64 d.a, .float .f64 d.b, .float .f64 d.c, .int .i64 d.m, av'])
    (.cons (.clos rfl) (.cons h1 (.cons h2 (.cons h3 (.cons h4 (.cons (.clos rfl) (.cons (.clos rfl) (.cons (.clos rfl) (.cons (.clos rfl) (.cons (.clos rfl) (.cons (.clos rfl) (.cons (.clos rfl) (.cons h5 .nil)))))))))))))
theorem ckQ {d : ProbD} {c : Bool} (h : ChkOk d c) {H : List (Option ABlk)} {av : Value} (hr : d.out.length ≠ 0) (hy : d.y.length ≠ 0)
    (h3 : H[3]? = some (opsB d.ops)) (h4 : H[4]? = some (oB_I d.out)) (h5 : H[5]? = some (boxB d.box)) (h7 : H[7]? = some (oB_F d.y)) (hz : av = oW 13 d.z.length ∧ (d.z = [] ∨ H[13]? = some (oB_I d.z))) :
    (obCk (.agg (pbC d.N (opsV d.ops) (oS 4 d.out.length) (boxV d.box) (oS 7 d.y.length) d.e d.f d.l d.a d.b d.c d.m av)) H c).ok Tryd.prog := by
  show Runs _ _ _ _ _ (_ ++ #[])
  rw [Array.append_empty]
  refine Runs.view (ρ := fun b => [3, 4, 5, 7, 13].getD b 0) h (froze_all _) rfl ?_
  obtain ⟨rfl, hz⟩ := hz
  have hs : slG [0] [3, 4, 5, 7, 13] [.agg (pbC d.N (opsV d.ops) (oS 4 d.out.length) (boxV d.box) (oS 7 d.y.length) d.e d.f d.l d.a d.b d.c d.m (oW 13 d.z.length))] (froze H.toArray) =
      (1, [.agg (pbC d.N (opsV d.ops) (oS 4 d.out.length) (boxV d.box) (oS 7 d.y.length) d.e d.f d.l d.a d.b d.c d.m (oW 13 d.z.length))], [some (fz (opsB d.ops)), some (fz (oB_I d.out)), some (fz (boxB d.box)), some (fz (oB_F d.y)), (froze H.toArray)[13]?]) := by
    unfold slG
    simp only [List.map, frozeX h3, frozeX h4, frozeX h5, frozeX h7]
    rfl
  refine relS_of (L := [(0, prV0 d)]) (H2 := [fz (opsB d.ops), fz (oB_I d.out), fz (boxB d.box), fz (oB_F d.y), fz (zB d.z)]) hs (by simp) (by decide) ?_ ?_
  · refine .cons (pb_rel ?_ ?_ ?_ ?_ ?_) .nil
    · rw [opsV_oW]; exact oW_rel (by simp) rfl _
    · exact .slice 1 4 0 none _ _ _ (by simp) rfl
    · rw [boxV_oW]; exact oW_rel (by simp) rfl _
    · exact .slice 3 7 0 none _ _ _ (by simp) rfl
    · exact oW_rel (by simp) rfl _
  · refine bs_same (cl_ops _).fz (bs_same (cl_I _).fz (bs_same (cl_box _).fz (bs_same (cl_F _).fz ?_)))
    rcases hz with hz | hz
    · rw [hz]; exact .none _ .nil
    · rw [frozeX hz]
      cases hd : d.z with
      | nil => exact .none _ .nil
      | cons a l => exact bs_same (cl_I _).fz .nil
/-- Told in a memory of its own. -/
theorem okQ {d : ProbD} {args : Array Value} {H : List (Option ABlk)} {o b zi : Nat} {av : Value} (ho : d.ops ≠ []) (hb : d.box ≠ []) {R : List Nat} (hR : R = [o, 4, b, 7, zi]) (hn : R.Nodup)
    (h3 : H[o]? = some (opsB d.ops)) (h4 : H[4]? = some (oB_I d.out)) (h5 : H[b]? = some (boxB d.box)) (h7 : H[7]? = some (oB_F d.y)) (hz : av = oW zi d.z.length ∧ (d.z = [] ∨ H[zi]? = some (oB_I d.z)))
    (h : Runs Tryd.prog P0 args #[] (.tuple #[.agg (pbC d.N (oS o d.ops.length) (oS 4 d.out.length) (oS b d.box.length) (oS 7 d.y.length) d.e d.f d.l d.a d.b d.c d.m av), .int .i64 0, .int .i64 0]) H.toArray) : Runs Tryd.prog P0 args #[] (okV d) (okM d) := by
  subst hR
  refine h.ren (ρ := fun i => [o, 4, b, 7, zi].getD i 0) ?_
  obtain ⟨rfl, hz⟩ := hz
  generalize hv : Value.tuple #[.agg (pbC d.N (oS o d.ops.length) (oS 4 d.out.length) (oS b d.box.length) (oS 7 d.y.length) d.e d.f d.l d.a d.b d.c d.m (oW zi d.z.length)), .int .i64 0, .int .i64 0] = v1
  have hs : slG [0] [o, 4, b, 7, zi] [v1] H.toArray = (1, [v1], [some (opsB d.ops), some (oB_I d.out), some (boxB d.box), some (oB_F d.y), H.toArray[zi]?]) := by
    unfold slG
    simp only [List.map, List.getElem?_toArray, h3, h4, h5, h7]
    rfl
  refine relS_of (L := [(0, okV d)]) (H2 := okL d) hs (by simp) hn ?_ ?_
  · refine .cons ?_ .nil
    subst hv
    have l1 : d.ops.length ≠ 0 := by simpa using ho
    have l2 : d.box.length ≠ 0 := by simpa using hb
    rw [oS_oW l1, oS_oW l2]
    refine .tuple rfl fun i g1 g2 => ?_
    match i, g1, g2 with
    | 0, _, _ => exact pb_rel (oW_rel (show (0 : Nat) < 5 by decide) rfl _) (.slice 1 4 0 none _ _ _ (show (1 : Nat) < 5 by decide) rfl) (oW_rel (show (2 : Nat) < 5 by decide) rfl _) (.slice 3 7 0 none _ _ _ (show (3 : Nat) < 5 by decide) rfl) (oW_rel (show (4 : Nat) < 5 by decide) rfl _)
    | 1, _, _ => exact .clos rfl
    | 2, _, _ => exact .clos rfl
  · refine bs_same (cl_ops _) (bs_same (cl_I _) (bs_same (cl_box _) (bs_same (cl_F _) ?_)))
    rcases hz with hz | hz
    · rw [hz]; exact .none _ .nil
    · rw [List.getElem?_toArray, hz]
      cases hd : d.z with
      | nil => exact .none _ .nil
      | cons a l => exact bs_same (cl_I _) .nil

section
variable {s : List UInt8} {L : List (List UInt8)}
def Lp0 (s : List UInt8) (L : List (List UInt8)) : Prop := ∃ tm2 H2, EntOK 0 k0.1 k0.2 (sl0 s (splitC 1 10 s)) tm2 H2 ∧ CodeB Tryd.prog 0 (.loop bodyL0) tm2 H2 (.exit 0, tmA 206 (L1 s), (M0 L.length (stB L true)).toArray)
theorem inc0 : inc 0 = ((1 : Nat) : Int) := by decide
theorem one_of {α : Type} {l : List α} (h : l.length = 1) : ∃ a, l = [a] := by
  match l, h with
  | [a], _ => exact ⟨a, rfl⟩
theorem three_of {α : Type} {l : List α} (h : l.length = 3) : ∃ a b c, l = [a, b, c] := by
  match l, h with
  | [a, b, c], _ => exact ⟨a, b, c, rfl⟩
theorem four_of {α : Type} {l : List α} (h : l.length = 4) : ∃ a b c d, l = [a, b, c, d] := by
  match l, h with
  | [a, b, c, d], _ => exact ⟨a, b, c, d, rfl⟩
/-- What is left of a text behind its lines. -/
noncomputable def restP (s : List UInt8) (L : List (List UInt8)) : Nat ⊕ ProbD := match cntP L 0 wVars 1 with
  | none => .inl 1
  | some N => match opsP L (L.length + 1) 1 [] with
    | (false, _, k) => .inl (k + 1)
    | (true, ops, k) => match cntP L k wOut (-1) with
      | none => .inl (k + 1)
      | some R => match boxP L (L.length + 1) (k + 1) [] with
        | (false, _, q) => .inl (q + 1)
        | (true, bs, q) => match fltsP L q wStart (-1) with
          | none => .inl (q + 1)
          | some Y => match cntP L (q + 1) wSteps 4 with
            | none => .inl (q + 2)
            | some S => match fltsP L (q + 2) wTol 3 with
              | none => .inl (q + 3)
              | some T => if q + 3 < L.length then
                  (match cntP L (q + 3) wAt (-1) with
                  | none => .inl (q + 4)
                  | some Z => lastP s L.length (q + 4) ⟨N.getD 0 0, ops, R, bs, Y, S.getD 0 0, S.getD 1 0, S.getD 2 0, T.getD 0 0, T.getD 1 0, T.getD 2 0, S.getD 3 0, Z⟩)
                else lastP s L.length (q + 3) ⟨N.getD 0 0, ops, R, bs, Y, S.getD 0 0, S.getD 1 0, S.getD 2 0, T.getD 0 0, T.getD 1 0, T.getD 2 0, S.getD 3 0, []⟩
theorem preP_eq (s : List UInt8) : preP s = if 20000 < s.length then .inl 0 else restP s (linesP s) := rfl

theorem takeP_lt {k : Nat} {f : List UInt8} {m : Int} {ws : List (List UInt8)} (h : takeP L k f m = some ws) : k < L.length := by
  rcases Nat.lt_or_ge k L.length with h' | h'
  · exact h'
  · exfalso
    unfold takeP at h
    rw [List.getElem?_eq_none h'] at h
    cases h
theorem opsP_le : ∀ (d k : Nat) (acc : List OpD), (opsP L d k acc).2.2 ≤ k + d
  | 0, k, acc => Nat.le_refl _
  | d + 1, k, acc => by
    rw [opsP]
    cases beginP L k wOut with
    | true => simp
    | false =>
      simp only [Bool.false_eq_true, if_false]
      cases opP L k with
      | none => simp
      | some o => have := opsP_le d (k + 1) (acc ++ [o]); simp only; omega
theorem boxP_le : ∀ (d k : Nat) (acc : List (Nat × Nat)), (boxP L d k acc).2.2 ≤ k + d
  | 0, k, acc => Nat.le_refl _
  | d + 1, k, acc => by
    rw [boxP]
    cases beginP L k wStart with
    | true => simp
    | false =>
      simp only [Bool.false_eq_true, if_false]
      cases boxAt L k with
      | none => simp
      | some o => have := boxP_le d (k + 1) (acc ++ [o]); simp only; omega
theorem takeP_cnt {k : Nat} {f : List UInt8} {m : Int} {ws : List (List UInt8)} (h : takeP L k f m = some ws) (hL : ∀ x ∈ L, x.length ≤ 20000) : ws.length ≤ 20000 := by
  unfold takeP at h
  split at h
  · cases h
  · rename_i x hx
    have hxl := hL x (List.mem_of_getElem? hx)
    split at h
    · rename_i w0 ws2 hs
      split at h
      · injection h with h
        subst h
        have := splitC_len 0 32 x
        rw [hs] at this
        simp at this
        omega
      · cases h
    · cases h
theorem opsP_len : ∀ (d k : Nat) (acc : List OpD), (opsP L d k acc).2.1.length ≤ acc.length + d
  | 0, k, acc => Nat.le_refl _
  | d + 1, k, acc => by
    rw [opsP]
    cases beginP L k wOut with
    | true => simp
    | false =>
      simp only [Bool.false_eq_true, if_false]
      cases opP L k with
      | none => simp
      | some o => have := opsP_len d (k + 1) (acc ++ [o]); simp at this; simp only; omega
theorem boxP_len : ∀ (d k : Nat) (acc : List (Nat × Nat)), (boxP L d k acc).2.1.length ≤ acc.length + d
  | 0, k, acc => Nat.le_refl _
  | d + 1, k, acc => by
    rw [boxP]
    cases beginP L k wStart with
    | true => simp
    | false =>
      simp only [Bool.false_eq_true, if_false]
      cases boxAt L k with
      | none => simp
      | some o => have := boxP_len d (k + 1) (acc ++ [o]); simp at this; simp only; omega
theorem flat_len2 {α : Type} {f : α → List Value} {w : Nat} (hf : ∀ a, (f a).length = w) : ∀ l : List α, (l.flatMap f).length = l.length * w
  | [] => by simp
  | a :: l => by rw [List.flatMap_cons, List.length_append, hf, flat_len2 hf l, List.length_cons, Nat.succ_mul]; omega
theorem flat_one {α : Type} {f : α → List Value} (hf : ∀ a, (f a).all oneC = true) (l : List α) : (l.flatMap f).all oneC = true := by
  rw [List.all_eq_true]
  intro v hv
  obtain ⟨z, _, hz⟩ := List.mem_flatMap.1 hv
  exact List.all_eq_true.1 (hf z) v hz
theorem manyO {H : List (Option ABlk)} {ops : List OpD} (h3 : H[3]? = some (opsB ops)) (hne : ops ≠ []) (hlim : ops.length ≤ 16777216) {n : Nat} (hn : H.length = n) : (obAp 26 H nlS (oS 3 ops.length) (oS n ops.length) (H ++ [opsB ops])).ok Tryd.prog := by
  subst hn
  cases ops with
  | nil => exact absurd rfl hne
  | cons a l =>
    have := app_many (P := Tryd.prog) growO (H := H.toArray) (b := 3) (c := (a :: l).length) (n := (a :: l).length) (B := ⟨((a :: l).flatMap opC).toArray, 41, 4, true⟩) (by simpa [opsB] using h3) (by rw [List.size_toArray]; exact flat_len2 (f := opC) (w := 4) (fun _ => rfl) (a :: l)) (flat_one (f := opC) (fun _ => rfl) (a :: l)) (by simp) hlim
    simp only [List.push_toArray, List.size_toArray] at this
    exact this
theorem manyB {H : List (Option ABlk)} {bs : List (Nat × Nat)} (h3 : H[5]? = some (boxB bs)) (hne : bs ≠ []) (hlim : bs.length ≤ 16777216) {n : Nat} (hn : H.length = n) : (obAp 29 H nlS (oS 5 bs.length) (oS n bs.length) (H ++ [boxB bs])).ok Tryd.prog := by
  subst hn
  cases bs with
  | nil => exact absurd rfl hne
  | cons a l =>
    have := app_many (P := Tryd.prog) growB (H := H.toArray) (b := 5) (c := (a :: l).length) (n := (a :: l).length) (B := ⟨((a :: l).flatMap bxC).toArray, 59, 2, true⟩) (by simpa [boxB] using h3) (by rw [List.size_toArray]; exact flat_len2 (f := bxC) (w := 2) (fun _ => rfl) (a :: l)) (flat_one (f := bxC) (fun _ => rfl) (a :: l)) (by simp) hlim
    simp only [List.push_toArray, List.size_toArray] at this
    exact this
theorem ltQ {a b : Nat} {c : Bool} (h : decide (a < b) = c) : (Obl.cmp .lss 3 (.int .i64 (a : Nat)) (.int .i64 (b : Nat)) c).ok Tryd.prog := by
  refine (cmpLt _ _).trans ?_
  rw [← h]
  simp
theorem hsQ {s : List UInt8} (hs : s.length ≤ 20000) {c : Bool} (h : endsC 10 s = c) : (obHs s c).ok Tryd.prog := by
  subst h
  exact ends1 ⟨s.toArray⟩ 10 (show s.length < _ by omega) #[]
theorem rest_q (hs : s.length ≤ 20000) (hLs : ∀ x ∈ L, x.length ≤ 20000) (hn : L.length < 16777000) (lp : Lp0 s L) (L0 : 0 < L.length) : SaysP s (restP s L) := by
  have hL : ∀ x ∈ L, x.length < 4294967280 := fun x hx => by have := hLs x hx; omega
  have hs' := hs
  have og : (obGt s false).ok Tryd.prog := (cmpGt _ _).trans (by simp; omega)
  have os : (obSp s (splitC 1 10 s)).ok Tryd.prog := spl_runs s (by omega)
  unfold restP
  -- vars
  cases ht : takeP L 0 wVars 1 with
  | none =>
    have e : cntP L 0 wVars 1 = none := by unfold cntP; rw [ht]
    rw [e]
    have pr := pr_v_t s (splitC 1 10 s) L.length (stB L true)
    rw [inc0] at pr
    exact askT_tells pr ⟨og, os, tkQN (k := 0) hL (by omega) rfl rfl ht, trivial⟩ ⟨lp, trivial⟩
  | some wv =>
  obtain ⟨v1, v2⟩ := takeP_mem ht hL
  have vl : wv.length = 1 := by have := takeP_len ht (by decide); omega
  have ov := tkQS (b := 3) (k := 0) (H := M0 L.length (stB L true)) hL (by omega) rfl rfl ht rfl vl
  cases ha : allP digP wv with
  | none =>
    have e : cntP L 0 wVars 1 = none := by unfold cntP; rw [ht]; exact ha
    rw [e]
    have pr := pr_v_n s (splitC 1 10 s) L.length (stB L true) wv
    rw [inc0] at pr
    exact askT_tells pr ⟨og, os, ov, nmIN (w0 := wVars) rfl v2 (by omega) v1 vl ha, trivial⟩ ⟨lp, trivial⟩
  | some N' =>
  have ll := allP_len ha
  rw [vl] at ll
  obtain ⟨N, rfl⟩ := one_of ll
  have e : cntP L 0 wVars 1 = some [N] := by unfold cntP; rw [ht]; exact ha
  rw [e]
  have ovn := nmIS (H := M0 L.length (stB L true) ++ [stB (wVars :: wv) true]) (b := 3) (c := 4) (w0 := wVars) rfl v2 (by omega) v1 vl rfl ha
  clear e ll
  -- operations
  have rds := ops_rds (s := s) (N := N) hL hn (L.length + 1) 1 [] (by omega) (by omega) (by simp)
  simp only
  generalize ho : opsP L (L.length + 1) 1 [] = r at rds ⊢
  have hk := opsP_le (L := L) (L.length + 1) 1 []
  have hol := opsP_len (L := L) (L.length + 1) 1 []
  rw [ho] at hk hol
  obtain ⟨ob, ops, k⟩ := r
  have ent1' := ent1 (s := s) N L 1
  cases ob with
  | false =>
    have pr := pr_ops s (splitC 1 10 s) L.length (stB L true) wv N k
    rw [inc0, inc_nat (k := k) (by simp only at hk; omega)] at pr
    exact askT_tells pr ⟨og, os, ov, ovn, trivial⟩ ⟨lp, ⟨_, _, ent1', rds.loop⟩, trivial⟩
  | true =>
  simp only at hk rds ⊢
  have lp1 := rds.loop
  have hol' : ops.length ≤ 16777216 := by simp at hol; omega
  clear rds
  have eo : memO N ops L k = H1 N (opsV ops) L.length (k : Nat) (stB L true) (opsB ops) := rfl
  rw [eo] at lp1
  clear eo
  have ek := inc_nat (k := k) (by omega)
  -- outputs
  cases ht' : takeP L k wOut (-1) with
  | none =>
    have e : cntP L k wOut (-1) = none := by unfold cntP; rw [ht']
    rw [e]
    have pr := pr_o_t s (splitC 1 10 s) L.length (stB L true) wv N (opsV ops) (k : Nat) (opsB ops)
    rw [inc0, ek] at pr
    exact askT_tells pr ⟨og, os, ov, ovn, tkQN (k := k) hL (by omega) rfl rfl ht', trivial⟩ ⟨lp, ⟨_, _, ent1', lp1⟩, trivial⟩
  | some wo =>
  obtain ⟨o1, o2⟩ := takeP_mem ht' hL
  have kl := takeP_lt ht'
  have oo := tkQS (b := 4) (k := k) (H := H1 N (opsV ops) L.length (k : Nat) (stB L true) (opsB ops)) hL (by omega) rfl rfl ht' rfl rfl
  have wol : wo.length < 16777216 := by have := takeP_cnt ht' hLs; omega
  cases ha' : allP digP wo with
  | none =>
    have e : cntP L k wOut (-1) = none := by unfold cntP; rw [ht']; exact ha'
    rw [e]
    have pr := pr_o_n s (splitC 1 10 s) L.length (stB L true) wv N (opsV ops) (k : Nat) (opsB ops) wo wo.length
    rw [inc0, ek] at pr
    exact askT_tells pr ⟨og, os, ov, ovn, oo, nmIN (w0 := wOut) rfl o2 wol o1 rfl ha', trivial⟩ ⟨lp, ⟨_, _, ent1', lp1⟩, trivial⟩
  | some R =>
  have rl := allP_len ha'
  have e : cntP L k wOut (-1) = some R := by unfold cntP; rw [ht']; exact ha'
  rw [e]
  have oon := nmIS (H := H1 N (opsV ops) L.length (k : Nat) (stB L true) (opsB ops) ++ [stB (wOut :: wo) true]) (b := 4) (c := 5) (w0 := wOut) rfl o2 wol o1 rfl rfl ha'
  clear e
  rw [← rl] at oo oon
  -- boxes
  have rds := box_rds (s := s) (N := N) (ops := ops) (R := R) hL hn (L.length + 1) (k + 1) [] (by omega) (by omega) (by simp)
  simp only
  generalize hb : boxP L (L.length + 1) (k + 1) [] = r at rds ⊢
  have hq := boxP_le (L := L) (L.length + 1) (k + 1) []
  have hbl := boxP_len (L := L) (L.length + 1) (k + 1) []
  rw [hb] at hq hbl
  obtain ⟨ob, bs, q⟩ := r
  have ent2' := ent2 (s := s) N ops R L (k + 1) none
  cases ob with
  | false =>
    have pr := pr_box s (splitC 1 10 s) L.length (stB L true) wv N (opsV ops) (k : Nat) (opsB ops) wo R.length R q
    rw [inc0, ek, inc_nat (k := q) (by simp only at hq; omega)] at pr
    exact askT_tells pr ⟨og, os, ov, ovn, oo, oon, trivial⟩ ⟨lp, ⟨_, _, ent1', lp1⟩, ⟨_, _, ent2', rds.loop⟩, trivial⟩
  | true =>
  simp only at hq rds ⊢
  have lp2 := rds.loop
  have hbl' : bs.length ≤ 16777216 := by simp at hbl; omega
  clear rds
  have eo : memB N ops R bs L q = H2 N (opsV ops) (oS 4 R.length) (boxV bs) L.length (q : Nat) (stB L true) (opsB ops) (oB_I R) (boxB bs) := rfl
  rw [eo] at lp2
  clear eo
  have eq1 := inc_nat (k := q) (by omega)
  have eq2 := inc_nat (k := q + 1) (by omega)
  have eq3 := inc_nat (k := q + 2) (by omega)
  have eq4 := inc_nat (k := q + 3) (by omega)
  clear hs ht ha
  -- start
  cases ht2 : takeP L q wStart (-1) with
  | none =>
    have e : fltsP L q wStart (-1) = none := by unfold fltsP; rw [ht2]
    rw [e]
    have pr := pr_s_t s (splitC 1 10 s) L.length (stB L true) wv N (opsV ops) (k : Nat) (opsB ops) wo R.length R (oS 4 R.length) (boxV bs) (q : Nat) (oB_I R) (boxB bs)
    rw [inc0, ek, eq1] at pr
    exact askT_tells pr ⟨og, os, ov, ovn, oo, oon, tkQN (k := q) hL (by omega) rfl rfl ht2, trivial⟩ ⟨lp, ⟨_, _, ent1', lp1⟩, ⟨_, _, ent2', lp2⟩, trivial⟩
  | some ws =>
  obtain ⟨s1', s2'⟩ := takeP_mem ht2 hL
  have ql := takeP_lt ht2
  have wsl : ws.length < 16777216 := by have := takeP_cnt ht2 hLs; omega
  have so := tkQS (b := 6) (k := q) (H := H2 N (opsV ops) (oS 4 R.length) (boxV bs) L.length (q : Nat) (stB L true) (opsB ops) (oB_I R) (boxB bs)) hL (by omega) rfl rfl ht2 rfl rfl
  cases ha2 : allP fltP ws with
  | none =>
    have e : fltsP L q wStart (-1) = none := by unfold fltsP; rw [ht2]; exact ha2
    rw [e]
    have pr := pr_s_n s (splitC 1 10 s) L.length (stB L true) wv N (opsV ops) (k : Nat) (opsB ops) wo R.length R (oS 4 R.length) (boxV bs) (q : Nat) (oB_I R) (boxB bs) ws ws.length
    rw [inc0, ek, eq1] at pr
    exact askT_tells pr ⟨og, os, ov, ovn, oo, oon, so, nmFN (w0 := wStart) rfl s2' wsl s1' rfl ha2, trivial⟩ ⟨lp, ⟨_, _, ent1', lp1⟩, ⟨_, _, ent2', lp2⟩, trivial⟩
  | some Y =>
  have yl := allP_len ha2
  have e : fltsP L q wStart (-1) = some Y := by unfold fltsP; rw [ht2]; exact ha2
  rw [e]
  have son := nmFS (H := H2 N (opsV ops) (oS 4 R.length) (boxV bs) L.length (q : Nat) (stB L true) (opsB ops) (oB_I R) (boxB bs) ++ [stB (wStart :: ws) true]) (b := 6) (c := 7) (w0 := wStart) rfl s2' wsl s1' rfl rfl ha2
  clear e
  rw [← yl] at so son
  simp only
  -- steps
  cases ht3 : takeP L (q + 1) wSteps 4 with
  | none =>
    have e : cntP L (q + 1) wSteps 4 = none := by unfold cntP; rw [ht3]
    rw [e]
    have pr := pr_p_t s (splitC 1 10 s) L.length (stB L true) wv N (opsV ops) (k : Nat) (opsB ops) wo R.length R (oS 4 R.length) (boxV bs) (q : Nat) (oB_I R) (boxB bs) ws Y.length Y
    rw [inc0, ek, eq1, eq2] at pr
    exact askT_tells pr ⟨og, os, ov, ovn, oo, oon, so, son, tkQN (k := q + 1) hL (by omega) rfl rfl ht3, trivial⟩ ⟨lp, ⟨_, _, ent1', lp1⟩, ⟨_, _, ent2', lp2⟩, trivial⟩
  | some wp =>
  obtain ⟨p1, p2⟩ := takeP_mem ht3 hL
  have pl : wp.length = 4 := by have := takeP_len ht3 (by decide); omega
  have po := tkQS (b := 8) (k := q + 1) (H := [pbB N (opsV ops) (oS 4 R.length) (boxV bs) (oS 7 Y.length) 0 0 0 0 0 0 0 nlS, psK L.length ((q + 1 : Nat) : Int), stB L true, opsB ops, oB_I R, boxB bs, stB (wStart :: ws) true, oB_F Y]) hL (by omega) rfl rfl ht3 rfl pl
  cases ha3 : allP digP wp with
  | none =>
    have e : cntP L (q + 1) wSteps 4 = none := by unfold cntP; rw [ht3]; exact ha3
    rw [e]
    have pr := pr_p_n s (splitC 1 10 s) L.length (stB L true) wv N (opsV ops) (k : Nat) (opsB ops) wo R.length R (oS 4 R.length) (boxV bs) (q : Nat) (oB_I R) (boxB bs) ws Y.length Y wp
    rw [inc0, ek, eq1, eq2] at pr
    exact askT_tells pr ⟨og, os, ov, ovn, oo, oon, so, son, po, nmIN (w0 := wSteps) rfl p2 (by omega) p1 pl ha3, trivial⟩ ⟨lp, ⟨_, _, ent1', lp1⟩, ⟨_, _, ent2', lp2⟩, trivial⟩
  | some S =>
  have sl := allP_len ha3
  rw [pl] at sl
  obtain ⟨ee, f, l, m, rfl⟩ := four_of sl
  have e : cntP L (q + 1) wSteps 4 = some [ee, f, l, m] := by unfold cntP; rw [ht3]; exact ha3
  rw [e]
  have pon := nmIS (H := [pbB N (opsV ops) (oS 4 R.length) (boxV bs) (oS 7 Y.length) 0 0 0 0 0 0 0 nlS, psK L.length ((q + 1 : Nat) : Int), stB L true, opsB ops, oB_I R, boxB bs, stB (wStart :: ws) true, oB_F Y] ++ [stB (wSteps :: wp) true]) (b := 8) (c := 9) (w0 := wSteps) rfl p2 (by omega) p1 pl rfl ha3
  clear e
  simp only
  -- tolerances
  cases ht4 : takeP L (q + 2) wTol 3 with
  | none =>
    have e : fltsP L (q + 2) wTol 3 = none := by unfold fltsP; rw [ht4]
    rw [e]
    have pr := pr_t_t s (splitC 1 10 s) L.length (stB L true) wv N (opsV ops) (k : Nat) (opsB ops) wo R.length R (oS 4 R.length) (boxV bs) (q : Nat) (oB_I R) (boxB bs) ws Y.length Y wp ee f l m
    rw [inc0, ek, eq1, eq2, eq3] at pr
    exact askT_tells pr ⟨og, os, ov, ovn, oo, oon, so, son, po, pon, tkQN (k := q + 2) hL (by omega) rfl rfl ht4, trivial⟩ ⟨lp, ⟨_, _, ent1', lp1⟩, ⟨_, _, ent2', lp2⟩, trivial⟩
  | some wt =>
  obtain ⟨t1, t2⟩ := takeP_mem ht4 hL
  have tl : wt.length = 3 := by have := takeP_len ht4 (by decide); omega
  have to := tkQS (b := 10) (k := q + 2) (H := [pbB N (opsV ops) (oS 4 R.length) (boxV bs) (oS 7 Y.length) ee f l 0 0 0 m nlS, psK L.length ((q + 2 : Nat) : Int), stB L true, opsB ops, oB_I R, boxB bs, stB (wStart :: ws) true, oB_F Y, stB (wSteps :: wp) true, oB_I [ee, f, l, m]]) hL (by omega) rfl rfl ht4 rfl tl
  cases ha4 : allP fltP wt with
  | none =>
    have e : fltsP L (q + 2) wTol 3 = none := by unfold fltsP; rw [ht4]; exact ha4
    rw [e]
    have pr := pr_t_n s (splitC 1 10 s) L.length (stB L true) wv N (opsV ops) (k : Nat) (opsB ops) wo R.length R (oS 4 R.length) (boxV bs) (q : Nat) (oB_I R) (boxB bs) ws Y.length Y wp ee f l m wt
    rw [inc0, ek, eq1, eq2, eq3] at pr
    exact askT_tells pr ⟨og, os, ov, ovn, oo, oon, so, son, po, pon, to, nmFN (w0 := wTol) rfl t2 (by omega) t1 tl ha4, trivial⟩ ⟨lp, ⟨_, _, ent1', lp1⟩, ⟨_, _, ent2', lp2⟩, trivial⟩
  | some T =>
  have tl3 := allP_len ha4
  rw [tl] at tl3
  obtain ⟨a, b, c, rfl⟩ := three_of tl3
  have e : fltsP L (q + 2) wTol 3 = some [a, b, c] := by unfold fltsP; rw [ht4]; exact ha4
  rw [e]
  have ton := nmFS (H := [pbB N (opsV ops) (oS 4 R.length) (boxV bs) (oS 7 Y.length) ee f l 0 0 0 m nlS, psK L.length ((q + 2 : Nat) : Int), stB L true, opsB ops, oB_I R, boxB bs, stB (wStart :: ws) true, oB_F Y, stB (wSteps :: wp) true, oB_I [ee, f, l, m]] ++ [stB (wTol :: wt) true]) (b := 10) (c := 11) (w0 := wTol) rfl t2 (by omega) t1 tl rfl ha4
  clear e
  simp only [List.getD_cons_zero, List.getD_cons_succ]
  have hRl : R.length ≠ 0 := by omega
  have hYl : Y.length ≠ 0 := by omega
  rcases Nat.lt_or_ge (q + 3) L.length with hq3 | hq3
  · rw [if_pos hq3]
    have eq5 := inc_nat (k := q + 4) (by omega)
    cases ht5 : takeP L (q + 3) wAt (-1) with
    | none =>
      have e : cntP L (q + 3) wAt (-1) = none := by unfold cntP; rw [ht5]
      rw [e]
      have pr := pr_z_t s (splitC 1 10 s) L.length (stB L true) wv N (opsV ops) (k : Nat) (opsB ops) wo R.length R (oS 4 R.length) (boxV bs) (q : Nat) (oB_I R) (boxB bs) ws Y.length Y wp ee f l m wt a b c
      rw [inc0, ek, eq1, eq2, eq3, eq4] at pr
      exact askT_tells pr ⟨og, os, ov, ovn, oo, oon, so, son, po, pon, to, ton, ltQ (by simp; omega), tkQN (k := q + 3) hL (by omega) rfl rfl ht5, trivial⟩ ⟨lp, ⟨_, _, ent1', lp1⟩, ⟨_, _, ent2', lp2⟩, trivial⟩
    | some wz =>
    obtain ⟨z1, z2⟩ := takeP_mem ht5 hL
    have wzl : wz.length < 16777216 := by have := takeP_cnt ht5 hLs; omega
    have zo := tkQS (b := 12) (k := q + 3) (H := [pbB N (opsV ops) (oS 4 R.length) (boxV bs) (oS 7 Y.length) ee f l a b c m nlS, psK L.length ((q + 3 : Nat) : Int), stB L true, opsB ops, oB_I R, boxB bs, stB (wStart :: ws) true, oB_F Y, stB (wSteps :: wp) true, oB_I [ee, f, l, m], stB (wTol :: wt) true, oB_F [a, b, c]]) hL (by omega) rfl rfl ht5 rfl rfl
    cases ha5 : allP digP wz with
    | none =>
      have e : cntP L (q + 3) wAt (-1) = none := by unfold cntP; rw [ht5]; exact ha5
      rw [e]
      have pr := pr_z_n s (splitC 1 10 s) L.length (stB L true) wv N (opsV ops) (k : Nat) (opsB ops) wo R.length R (oS 4 R.length) (boxV bs) (q : Nat) (oB_I R) (boxB bs) ws Y.length Y wp ee f l m wt a b c wz wz.length
      rw [inc0, ek, eq1, eq2, eq3, eq4] at pr
      exact askT_tells pr ⟨og, os, ov, ovn, oo, oon, so, son, po, pon, to, ton, ltQ (by simp; omega), zo, nmIN (w0 := wAt) rfl z2 wzl z1 rfl ha5, trivial⟩ ⟨lp, ⟨_, _, ent1', lp1⟩, ⟨_, _, ent2', lp2⟩, trivial⟩
    | some Z =>
    have zl := allP_len ha5
    have e : cntP L (q + 3) wAt (-1) = some Z := by unfold cntP; rw [ht5]; exact ha5
    rw [e]
    have zon := nmIS (H := [pbB N (opsV ops) (oS 4 R.length) (boxV bs) (oS 7 Y.length) ee f l a b c m nlS, psK L.length ((q + 3 : Nat) : Int), stB L true, opsB ops, oB_I R, boxB bs, stB (wStart :: ws) true, oB_F Y, stB (wSteps :: wp) true, oB_I [ee, f, l, m], stB (wTol :: wt) true, oB_F [a, b, c]] ++ [stB (wAt :: wz) true]) (b := 12) (c := 13) (w0 := wAt) rfl z2 wzl z1 rfl rfl ha5
    clear e
    rw [← zl] at zo zon
    have hZl : Z.length ≠ 0 := by omega
    simp only
    rcases Nat.lt_or_ge (q + 4) L.length with hq4 | hq4
    · unfold lastP
      rw [if_pos hq4]
      have pr := pr_b_r s (splitC 1 10 s) L.length (stB L true) wv N (opsV ops) (k : Nat) (opsB ops) wo R.length R (oS 4 R.length) (boxV bs) (q : Nat) (oB_I R) (boxB bs) ws Y.length Y wp ee f l m wt a b c wz Z.length Z
      rw [inc0, ek, eq1, eq2, eq3, eq4, eq5] at pr
      exact askT_tells pr ⟨og, os, ov, ovn, oo, oon, so, son, po, pon, to, ton, ltQ (by simp; omega), zo, zon, ltQ (by simp; omega), trivial⟩ ⟨lp, ⟨_, _, ent1', lp1⟩, ⟨_, _, ent2', lp2⟩, trivial⟩
    · -- the end
      have hc : endsC 10 s = true ∨ endsC 10 s = false := by cases endsC 10 s <;> simp
      unfold lastP
      rw [if_neg (by omega)]
      rcases hc with hc | hc
      · rw [hc]
        simp only [if_true]
        refine ⟨fun ck => ?_, fun ck ho hb => ?_⟩
        · have pr := pr_b_c s (splitC 1 10 s) L.length (stB L true) wv N (opsV ops) (k : Nat) (opsB ops) wo R.length R (oS 4 R.length) (boxV bs) (q : Nat) (oB_I R) (boxB bs) ws Y.length Y wp ee f l m wt a b c wz Z.length Z
          rw [inc0, ek, eq1, eq2, eq3, eq4] at pr
          have oc := ckQ ck (H := [pbB N (opsV ops) (oS 4 R.length) (boxV bs) (oS 7 Y.length) ee f l a b c m (oS 13 Z.length), psK L.length ((q + 4 : Nat) : Int), stB L true, opsB ops, oB_I R, boxB bs, stB (wStart :: ws) true, oB_F Y, stB (wSteps :: wp) true, oB_I [ee, f, l, m], stB (wTol :: wt) true, oB_F [a, b, c], stB (wAt :: wz) true, oB_I Z]) (av := oS 13 Z.length) hRl hYl rfl rfl rfl rfl ⟨oS_oW hZl 13, .inr rfl⟩
          exact askT_tells pr ⟨og, os, ov, ovn, oo, oon, so, son, po, pon, to, ton, ltQ (by simp; omega), zo, zon, ltQ (by simp; omega), hsQ hs' hc, oc, trivial⟩ ⟨lp, ⟨_, _, ent1', lp1⟩, ⟨_, _, ent2', lp2⟩, trivial⟩
        · simp only at ho hb
          have oc := ckQ ck (H := [pbB N (opsV ops) (oS 4 R.length) (boxV bs) (oS 7 Y.length) ee f l a b c m (oS 13 Z.length), psK L.length ((q + 4 : Nat) : Int), stB L true, opsB ops, oB_I R, boxB bs, stB (wStart :: ws) true, oB_F Y, stB (wSteps :: wp) true, oB_I [ee, f, l, m], stB (wTol :: wt) true, oB_F [a, b, c], stB (wAt :: wz) true, oB_I Z]) (av := oS 13 Z.length) hRl hYl rfl rfl rfl rfl ⟨oS_oW hZl 13, .inr rfl⟩
          have a1 := manyO (ops := ops) (H := [pbB N (opsV ops) (oS 4 R.length) (boxV bs) (oS 7 Y.length) ee f l a b c m (oS 13 Z.length), psK L.length ((q + 4 : Nat) : Int), stB L true, opsB ops, oB_I R, boxB bs, stB (wStart :: ws) true, oB_F Y, stB (wSteps :: wp) true, oB_I [ee, f, l, m], stB (wTol :: wt) true, oB_F [a, b, c], stB (wAt :: wz) true, oB_I Z] ++ [none, none]) (n := 16) rfl ho hol' rfl
          have a2 := manyB (bs := bs) (H := [pbB N (opsV ops) (oS 4 R.length) (boxV bs) (oS 7 Y.length) ee f l a b c m (oS 13 Z.length), psK L.length ((q + 4 : Nat) : Int), stB L true, opsB ops, oB_I R, boxB bs, stB (wStart :: ws) true, oB_F Y, stB (wSteps :: wp) true, oB_I [ee, f, l, m], stB (wTol :: wt) true, oB_F [a, b, c], stB (wAt :: wz) true, oB_I Z] ++ [opsB ops, none]) (n := 16) rfl hb hbl' rfl
          cases ops with
          | nil => exact absurd rfl ho
          | cons o ops =>
          cases bs with
          | nil => exact absurd rfl hb
          | cons bx bs =>
          have pr := pr_b s (splitC 1 10 s) L.length (stB L true) wv N (k : Nat) (opsB (o :: ops)) wo R.length R (q : Nat) (oB_I R) (boxB (bx :: bs)) ws Y.length Y wp ee f l m wt a b c wz Z.length Z (o :: ops).length (bx :: bs).length (opsB (o :: ops)) (boxB (bx :: bs))
          rw [inc0, ek, eq1, eq2, eq3, eq4] at pr
          obtain ⟨H', e, h⟩ := askT_to (g := fun H => H) pr ⟨og, os, ov, ovn, oo, oon, so, son, po, pon, to, ton, ltQ (by simp; omega), zo, zon, ltQ (by simp; omega), hsQ hs' hc, oc, a1, a2, trivial⟩ ⟨lp, ⟨_, _, ent1', lp1⟩, ⟨_, _, ent2', lp2⟩, trivial⟩
          subst e
          exact okQ (zi := 13) ho hb rfl (by decide) rfl rfl rfl rfl ⟨oS_oW hZl 13, .inr rfl⟩ h
      · rw [hc]
        simp only [Bool.false_eq_true, if_false]
        have pr := pr_b_l s (splitC 1 10 s) L.length (stB L true) wv N (opsV ops) (k : Nat) (opsB ops) wo R.length R (oS 4 R.length) (boxV bs) (q : Nat) (oB_I R) (boxB bs) ws Y.length Y wp ee f l m wt a b c wz Z.length Z
        rw [inc0, ek, eq1, eq2, eq3, eq4, eq5] at pr
        exact askT_tells pr ⟨og, os, ov, ovn, oo, oon, so, son, po, pon, to, ton, ltQ (by simp; omega), zo, zon, ltQ (by simp; omega), hsQ hs' hc, trivial⟩ ⟨lp, ⟨_, _, ent1', lp1⟩, ⟨_, _, ent2', lp2⟩, trivial⟩

  · rw [if_neg (by omega)]
    have hc : endsC 10 s = true ∨ endsC 10 s = false := by cases endsC 10 s <;> simp
    unfold lastP
    rw [if_neg (by omega)]
    rcases hc with hc | hc
    · rw [hc]
      simp only [if_true]
      refine ⟨fun ck => ?_, fun ck ho hb => ?_⟩
      · have pr := pr_a_c s (splitC 1 10 s) L.length (stB L true) wv N (opsV ops) (k : Nat) (opsB ops) wo R.length R (oS 4 R.length) (boxV bs) (q : Nat) (oB_I R) (boxB bs) ws Y.length Y wp ee f l m wt a b c
        rw [inc0, ek, eq1, eq2, eq3] at pr
        have oc := ckQ ck (H := [pbB N (opsV ops) (oS 4 R.length) (boxV bs) (oS 7 Y.length) ee f l a b c m nlS, psK L.length ((q + 3 : Nat) : Int), stB L true, opsB ops, oB_I R, boxB bs, stB (wStart :: ws) true, oB_F Y, stB (wSteps :: wp) true, oB_I [ee, f, l, m], stB (wTol :: wt) true, oB_F [a, b, c]]) (av := nlS) hRl hYl rfl rfl rfl rfl ⟨rfl, .inl rfl⟩
        exact askT_tells pr ⟨og, os, ov, ovn, oo, oon, so, son, po, pon, to, ton, ltQ (by simp; omega), ltQ (by simp; omega), hsQ hs' hc, oc, trivial⟩ ⟨lp, ⟨_, _, ent1', lp1⟩, ⟨_, _, ent2', lp2⟩, trivial⟩
      · simp only at ho hb
        have oc := ckQ ck (H := [pbB N (opsV ops) (oS 4 R.length) (boxV bs) (oS 7 Y.length) ee f l a b c m nlS, psK L.length ((q + 3 : Nat) : Int), stB L true, opsB ops, oB_I R, boxB bs, stB (wStart :: ws) true, oB_F Y, stB (wSteps :: wp) true, oB_I [ee, f, l, m], stB (wTol :: wt) true, oB_F [a, b, c]]) (av := nlS) hRl hYl rfl rfl rfl rfl ⟨rfl, .inl rfl⟩
        have a1 := manyO (ops := ops) (H := [pbB N (opsV ops) (oS 4 R.length) (boxV bs) (oS 7 Y.length) ee f l a b c m nlS, psK L.length ((q + 3 : Nat) : Int), stB L true, opsB ops, oB_I R, boxB bs, stB (wStart :: ws) true, oB_F Y, stB (wSteps :: wp) true, oB_I [ee, f, l, m], stB (wTol :: wt) true, oB_F [a, b, c]] ++ [none, none]) (n := 14) rfl ho hol' rfl
        have a2 := manyB (bs := bs) (H := [pbB N (opsV ops) (oS 4 R.length) (boxV bs) (oS 7 Y.length) ee f l a b c m nlS, psK L.length ((q + 3 : Nat) : Int), stB L true, opsB ops, oB_I R, boxB bs, stB (wStart :: ws) true, oB_F Y, stB (wSteps :: wp) true, oB_I [ee, f, l, m], stB (wTol :: wt) true, oB_F [a, b, c]] ++ [opsB ops, none]) (n := 14) rfl hb hbl' rfl
        cases ops with
        | nil => exact absurd rfl ho
        | cons o ops =>
        cases bs with
        | nil => exact absurd rfl hb
        | cons bx bs =>
        have pr := pr_a s (splitC 1 10 s) L.length (stB L true) wv N (k : Nat) (opsB (o :: ops)) wo R.length R (q : Nat) (oB_I R) (boxB (bx :: bs)) ws Y.length Y wp ee f l m wt a b c (o :: ops).length (bx :: bs).length (opsB (o :: ops)) (boxB (bx :: bs))
        rw [inc0, ek, eq1, eq2, eq3] at pr
        obtain ⟨H', e, h⟩ := askT_to (g := fun H => H) pr ⟨og, os, ov, ovn, oo, oon, so, son, po, pon, to, ton, ltQ (by simp; omega), ltQ (by simp; omega), hsQ hs' hc, oc, a1, a2, trivial⟩ ⟨lp, ⟨_, _, ent1', lp1⟩, ⟨_, _, ent2', lp2⟩, trivial⟩
        subst e
        exact okQ (zi := 20) ho hb rfl (by decide) rfl rfl rfl rfl ⟨rfl, .inl rfl⟩ h
    · rw [hc]
      simp only [Bool.false_eq_true, if_false]
      have pr := pr_a_l s (splitC 1 10 s) L.length (stB L true) wv N (opsV ops) (k : Nat) (opsB ops) wo R.length R (oS 4 R.length) (boxV bs) (q : Nat) (oB_I R) (boxB bs) ws Y.length Y wp ee f l m wt a b c
      rw [inc0, ek, eq1, eq2, eq3, eq4] at pr
      exact askT_tells pr ⟨og, os, ov, ovn, oo, oon, so, son, po, pon, to, ton, ltQ (by simp; omega), ltQ (by simp; omega), hsQ hs' hc, trivial⟩ ⟨lp, ⟨_, _, ent1', lp1⟩, ⟨_, _, ent2', lp2⟩, trivial⟩
end
theorem parse_q (s : List UInt8) : SaysP s (preP s) := by
  rw [preP_eq]
  by_cases h : 20000 < s.length
  · rw [if_pos h]
    exact askT_tells (pr_long s []) ⟨(cmpGt _ _).trans (by simp; omega), trivial⟩ trivial
  rw [if_neg h]
  have h' : s.length ≤ 20000 := by omega
  have hn := lines_len s
  have hL := lines_mem s
  have os : (obSp s (splitC 1 10 s)).ok Tryd.prog := spl_runs s (by omega)
  cases hA : linesP s with
  | nil =>
    have pr := pr_nil s (splitC 1 10 s)
    rw [inc0] at pr
    obtain ⟨tm2, H2, e, hl⟩ := loop0_nil h' hA
    exact askT_tells pr ⟨(cmpGt _ _).trans (by simp; omega), os, takeNil, trivial⟩ ⟨⟨tm2, H2, e, hl⟩, trivial⟩
  | cons a A =>
    have lp := loop0 h' hA
    rw [hA] at hn hL lp
    exact rest_q h' (fun x hx => Nat.le_trans (hL x hx) h') (by omega) lp (by simp)
theorem bad_quiet {s : List UInt8} {k : Int} (h : Tells P0 #[stL s] #[] (badP k)) (H : AHeap) : Runs Tryd.prog P0 #[stL s] H (badP k) H := by
  obtain ⟨H', h⟩ := h
  exact h.quiet (by rfl) (by rfl) H
theorem parse_bad {s : List UInt8} {k : Nat} (h : preP s = .inl k) (H : AHeap) : Runs Tryd.prog P0 #[stL s] H (badP (k : Nat)) H := by
  have := parse_q s
  rw [h] at this
  exact bad_quiet this H

end Go.Proofs.YtameamgamdaibaaDoor
