/- What the document's own functions of from-tos return. -/
import Derived.Test.YthajhpilfbijdaaStepRef
namespace Go.Proofs.Ythajhpilfbijdaa
open Go
set_option linter.unusedVariables false
set_option linter.unusedSimpArgs false
set_option maxRecDepth 100000

noncomputable def askIR (f : FuncId) : Nat := if f == 62 || f == 63 then 1 else if f == 56 || f == 53 then 0 else 2
def downOR (x d : Nat) : Obl := .run 62 #[.float .f64 x] #[] (.float .f64 d) #[]
def upOR (x d : Nat) : Obl := .run 63 #[.float .f64 x] #[] (.float .f64 d) #[]
theorem add_runsR {a b c e d u : Nat} (hd : Runs Try.prog 62 #[.float .f64 (fop .add .f64 a c)] #[] (.float .f64 d) #[]) (hu : Runs Try.prog 63 #[.float .f64 (fop .add .f64 b e)] #[] (.float .f64 u) #[])
    (hle : fcmp .leq .f64 d u = some true) : Runs Try.prog 42 #[ivV a b, ivV c e] #[] (ivV d u) #[] :=
  quiet_of (ask := askIR) (s := [isF d, isF u, yes true]) (l := [downOR (fop .add .f64 a c) d, upOR (fop .add .f64 b e) u, cmpO .leq d u true]) (by kernel_rfl) ⟨hd, hu, (fc _ rfl _ _).trans hle, trivial⟩ rfl rfl
theorem sub_runsR {a b c e d u : Nat} (hd : Runs Try.prog 62 #[.float .f64 (fop .sub .f64 a e)] #[] (.float .f64 d) #[]) (hu : Runs Try.prog 63 #[.float .f64 (fop .sub .f64 b c)] #[] (.float .f64 u) #[])
    (hle : fcmp .leq .f64 d u = some true) : Runs Try.prog 43 #[ivV a b, ivV c e] #[] (ivV d u) #[] :=
  quiet_of (ask := askIR) (s := [isF d, isF u, yes true]) (l := [downOR (fop .sub .f64 a e) d, upOR (fop .sub .f64 b c) u, cmpO .leq d u true]) (by kernel_rfl) ⟨hd, hu, (fc _ rfl _ _).trans hle, trivial⟩ rfl rfl
theorem in_runsR {x a b : Nat} (h1 : fcmp .leq .f64 a x = some true) (h2 : fcmp .leq .f64 x b = some true) : Runs Try.prog 40 #[.float .f64 x, ivV a b] #[] (.bool true) #[] :=
  quiet_of (ask := askIR) (s := [yes true, yes true]) (l := [cmpO .leq a x true, cmpO .leq x b true]) (by kernel_rfl) ⟨(fc _ rfl _ _).trans h1, (fc _ rfl _ _).trans h2, trivial⟩ rfl rfl
def spanLR (a b c d u v : Nat) (c1 d1 c2 d2 c3 d3 : Bool) : List Obl := [cmpO .neq a a false, cmpO .lss a a false, cmpO .gtr a a false, cmpO .neq b b false, cmpO .lss b a c1, cmpO .gtr b a d1, cmpO .neq c c false, cmpO .lss c (sel c1 b a) c2, cmpO .gtr c (sel d1 b a) d2, cmpO .neq d d false, cmpO .lss d (sel c2 c (sel c1 b a)) c3, cmpO .gtr d (sel d2 c (sel d1 b a)) d3,
      downOR (sel c3 d (sel c2 c (sel c1 b a))) u, upOR (sel d3 d (sel d2 c (sel d1 b a))) v, cmpO .leq u v true]
theorem span_cameR (a b c d u v : Nat) (c1 d1 c2 d2 c3 d3 : Bool) :
    (askN askIR fltC 12 64 #[.agg #[.float .f64 a, .float .f64 b, .float .f64 c, .float .f64 d]] #[] (spanS u v c1 d1 c2 d2 c3 d3)).map (fun r => (r.1, r.2.2)) = some (ivV u v, spanLR a b c d u v c1 d1 c2 d2 c3 d3) := by
  cases c1 <;> cases d1 <;> cases c2 <;> cases d2 <;> cases c3 <;> cases d3 <;> kernel_rfl
theorem span_bitsR (a b c d u v : Nat) (c1 d1 c2 d2 c3 d3 : Bool) (na : fcmp .neq .f64 a a = some false) (nb : fcmp .neq .f64 b b = some false) (nc : fcmp .neq .f64 c c = some false) (nd : fcmp .neq .f64 d d = some false)
    (l0 : fcmp .lss .f64 a a = some false) (g0 : fcmp .gtr .f64 a a = some false) (l1 : fcmp .lss .f64 b a = some c1) (g1 : fcmp .gtr .f64 b a = some d1)
    (l2 : fcmp .lss .f64 c (sel c1 b a) = some c2) (g2 : fcmp .gtr .f64 c (sel d1 b a) = some d2) (l3 : fcmp .lss .f64 d (sel c2 c (sel c1 b a)) = some c3) (g3 : fcmp .gtr .f64 d (sel d2 c (sel d1 b a)) = some d3)
    (hd : Runs Try.prog 62 #[.float .f64 (sel c3 d (sel c2 c (sel c1 b a)))] #[] (.float .f64 u) #[]) (hu : Runs Try.prog 63 #[.float .f64 (sel d3 d (sel d2 c (sel d1 b a)))] #[] (.float .f64 v) #[])
    (hle : fcmp .leq .f64 u v = some true) : Runs Try.prog 64 #[.agg #[.float .f64 a, .float .f64 b, .float .f64 c, .float .f64 d]] #[] (ivV u v) #[] :=
  quiet_of (span_cameR a b c d u v c1 d1 c2 d2 c3 d3)
    ⟨(fc _ rfl _ _).trans na, (fc _ rfl _ _).trans l0, (fc _ rfl _ _).trans g0, (fc _ rfl _ _).trans nb, (fc _ rfl _ _).trans l1, (fc _ rfl _ _).trans g1, (fc _ rfl _ _).trans nc, (fc _ rfl _ _).trans l2, (fc _ rfl _ _).trans g2, (fc _ rfl _ _).trans nd, (fc _ rfl _ _).trans l3, (fc _ rfl _ _).trans g3, hd, hu, (fc _ rfl _ _).trans hle, trivial⟩ rfl rfl
theorem span_runsR {a b c d : Nat} (ha : NN a) (hb : NN b) (hc : NN c) (hd : NN d) :
    ∃ lo hi, Ends a b c d lo hi ∧ Runs Try.prog 64 #[.agg #[.float .f64 a, .float .f64 b, .float .f64 c, .float .f64 d]] #[] (ivV (dn lo) (up hi)) #[] := by
  obtain ⟨s1, s2, s3, s4⟩ := sel_lo hb ha rfl
  obtain ⟨t1, t2, t3, t4⟩ := sel_lo hc s1 rfl
  obtain ⟨u1, u2, u3, u4⟩ := sel_lo hd t1 rfl
  obtain ⟨v1, v2, v3, v4⟩ := sel_hi hb ha rfl
  obtain ⟨w1, w2, w3, w4⟩ := sel_hi hc v1 rfl
  obtain ⟨x1, x2, x3, x4⟩ := sel_hi hd w1 rfl
  refine ⟨_, _, ⟨u1, x1, by omega, by omega, by omega, by omega, by omega, by omega, by omega, by omega, ?_, ?_⟩,
    span_bitsR a b c d _ _ _ _ _ _ _ _ (nn_self ha).1 (nn_self hb).1 (nn_self hc).1 (nn_self hd).1 (nn_self ha).2.1 (nn_self ha).2.2 (lss_ix hb ha) (gtr_ix hb ha) (lss_ix hc s1) (gtr_ix hc v1) (lss_ix hd t1) (gtr_ix hd w1) (down_runsR u1) (up_runsR x1)
      ((leq_ix (dn_ix u1).1 (up_ix x1).1).trans (congrArg some (decide_eq_true (out_le u1 x1 (by omega)))))⟩
  · rcases u4 with h | h
    · exact .inr (.inr (.inr h))
    · rw [h]; rcases t4 with h | h
      · exact .inr (.inr (.inl h))
      · rw [h]; rcases s4 with h | h
        · exact .inr (.inl h)
        · exact .inl h
  · rcases x4 with h | h
    · exact .inr (.inr (.inr h))
    · rw [h]; rcases w4 with h | h
      · exact .inr (.inr (.inl h))
      · rw [h]; rcases v4 with h | h
        · exact .inr (.inl h)
        · exact .inl h
noncomputable def askMR (f : FuncId) : Nat := if f == 64 || f == 65 then 1 else if f == 56 || f == 53 then 0 else 2
theorem mul_runsR {a b c e u v : Nat} (h : Runs Try.prog 64 #[.agg #[.float .f64 (fop .mul .f64 a c), .float .f64 (fop .mul .f64 a e), .float .f64 (fop .mul .f64 b c), .float .f64 (fop .mul .f64 b e)]] #[] (ivV u v) #[]) :
    Runs Try.prog 44 #[ivV a b, ivV c e] #[] (ivV u v) #[] :=
  quiet_of (ask := askMR) (s := [isV (ivV u v)]) (l := [.run 64 #[.agg #[.float .f64 (fop .mul .f64 a c), .float .f64 (fop .mul .f64 a e), .float .f64 (fop .mul .f64 b c), .float .f64 (fop .mul .f64 b e)]] #[] (ivV u v) #[]]) (by kernel_rfl) ⟨h, trivial⟩ rfl rfl
theorem div_runsR {a b c e u v : Nat} (hi : Runs Try.prog 65 #[ivV c e] #[] (.bool false) #[])
    (h : Runs Try.prog 64 #[.agg #[.float .f64 (fop .quo .f64 a c), .float .f64 (fop .quo .f64 a e), .float .f64 (fop .quo .f64 b c), .float .f64 (fop .quo .f64 b e)]] #[] (ivV u v) #[]) :
    Runs Try.prog 45 #[ivV a b, ivV c e] #[] (ivV u v) #[] :=
  quiet_of (ask := askMR) (s := [yes false, isV (ivV u v)]) (l := [.run 65 #[ivV c e] #[] (.bool false) #[], .run 64 #[.agg #[.float .f64 (fop .quo .f64 a c), .float .f64 (fop .quo .f64 a e), .float .f64 (fop .quo .f64 b c), .float .f64 (fop .quo .f64 b e)]] #[] (ivV u v) #[]]) (by kernel_rfl) ⟨hi, h, trivial⟩ rfl rfl
theorem div_zeroR {a b c e : Nat} (hi : Runs Try.prog 65 #[ivV c e] #[] (.bool true) #[]) : Runs Try.prog 45 #[ivV a b, ivV c e] #[] wholeV #[] :=
  quiet_of (ask := askMR) (s := [yes true]) (l := [.run 65 #[ivV c e] #[] (.bool true) #[]]) (by kernel_rfl) ⟨hi, trivial⟩ rfl rfl
theorem in_yesR {x a b : Nat} (hx : NN x) (ha : NN a) (hb : NN b) (h1 : ix a ≤ ix x) (h2 : ix x ≤ ix b) : Runs Try.prog 40 #[.float .f64 x, ivV a b] #[] (.bool true) #[] :=
  in_runsR ((leq_ix ha hx).trans (congrArg some (decide_eq_true h1))) ((leq_ix hx hb).trans (congrArg some (decide_eq_true h2)))
theorem in_noR {x a b : Nat} (hx : NN x) (ha : NN a) (hb : NN b) (h : ix x < ix a ∨ ix b < ix x) : Runs Try.prog 40 #[.float .f64 x, ivV a b] #[] (.bool false) #[] := by
  by_cases h1 : ix a ≤ ix x
  · exact quiet_of (ask := askIR) (s := [yes true, yes false]) (l := [cmpO .leq a x true, cmpO .leq x b false]) (by kernel_rfl) ⟨(fc _ rfl _ _).trans ((leq_ix ha hx).trans (congrArg some (decide_eq_true h1))), (fc _ rfl _ _).trans ((leq_ix hx hb).trans (congrArg some (decide_eq_false (by omega)))), trivial⟩ rfl rfl
  · exact quiet_of (ask := askIR) (s := [yes false]) (l := [cmpO .leq a x false]) (by kernel_rfl) ⟨(fc _ rfl _ _).trans ((leq_ix ha hx).trans (congrArg some (decide_eq_false h1))), trivial⟩ rfl rfl
/-- How two ends, one further out each, are told. -/
theorem out_anyR {x y : Nat} (hx : NaNor x) (hy : NaNor y) : ∃ u v, Runs Try.prog 62 #[.float .f64 x] #[] (.float .f64 u) #[] ∧ Runs Try.prog 63 #[.float .f64 y] #[] (.float .f64 v) #[] ∧
    ((fcmp .leq .f64 u v = some true ∧ Told x y u v) ∨ fcmp .leq .f64 u v = some false) := by
  obtain ⟨u, hu, cu⟩ := down_anyR hx
  obtain ⟨v, hv, cv⟩ := up_anyR hy
  refine ⟨u, v, hu, hv, ?_⟩
  rcases cu with ⟨nx, rfl⟩ | rfl
  · rcases cv with ⟨ny, rfl⟩ | rfl
    · have d := (dn_ix nx).1
      have e := (up_ix ny).1
      rw [leq_ix d e]
      by_cases h : ix (dn x) ≤ ix (up y)
      · exact .inl ⟨congrArg some (decide_eq_true h), d, e, h, .inl ⟨nx, ny, rfl, rfl⟩⟩
      · exact .inr (congrArg some (decide_eq_false h))
    · exact .inr (nan_leq _).2
  · exact .inr (nan_leq _).1
theorem add_allR {a b c e d u : Nat} (hd : Runs Try.prog 62 #[.float .f64 (fop .add .f64 a c)] #[] (.float .f64 d) #[]) (hu : Runs Try.prog 63 #[.float .f64 (fop .add .f64 b e)] #[] (.float .f64 u) #[])
    (hle : fcmp .leq .f64 d u = some false) : Runs Try.prog 42 #[fl2 a b, fl2 c e] #[] (fl2 ninf pinf) #[] :=
  quiet_of (ask := askIR) (s := [isF d, isF u, yes false]) (l := [downOR (fop .add .f64 a c) d, upOR (fop .add .f64 b e) u, cmpO .leq d u false]) (by kernel_rfl) ⟨hd, hu, (fc _ rfl _ _).trans hle, trivial⟩ rfl rfl
theorem sub_allR {a b c e d u : Nat} (hd : Runs Try.prog 62 #[.float .f64 (fop .sub .f64 a e)] #[] (.float .f64 d) #[]) (hu : Runs Try.prog 63 #[.float .f64 (fop .sub .f64 b c)] #[] (.float .f64 u) #[])
    (hle : fcmp .leq .f64 d u = some false) : Runs Try.prog 43 #[fl2 a b, fl2 c e] #[] (fl2 ninf pinf) #[] :=
  quiet_of (ask := askIR) (s := [isF d, isF u, yes false]) (l := [downOR (fop .sub .f64 a e) d, upOR (fop .sub .f64 b c) u, cmpO .leq d u false]) (by kernel_rfl) ⟨hd, hu, (fc _ rfl _ _).trans hle, trivial⟩ rfl rfl
theorem nan0R (a b c d : Nat) : (askN askIR fltC 12 64 #[a4 a b c d] #[] [yes true]).map (fun r => (r.1, r.2.2)) = some (fl2 ninf pinf, [cmpO .neq a a true]) := by kernel_rfl
theorem nan1R (a b c d : Nat) : (askN askIR fltC 12 64 #[a4 a b c d] #[] [yes false, yes false, yes false, yes true]).map (fun r => (r.1, r.2.2)) = some (fl2 ninf pinf, [cmpO .neq a a false, cmpO .lss a a false, cmpO .gtr a a false, cmpO .neq b b true]) := by kernel_rfl
theorem nan2R (a b c d : Nat) (c1 d1 : Bool) : (askN askIR fltC 12 64 #[a4 a b c d] #[] [yes false, yes false, yes false, yes false, yes c1, yes d1, yes true]).map (fun r => (r.1, r.2.2)) = some (fl2 ninf pinf, [cmpO .neq a a false, cmpO .lss a a false, cmpO .gtr a a false, cmpO .neq b b false, cmpO .lss b a c1, cmpO .gtr b a d1, cmpO .neq c c true]) := by
  cases c1 <;> cases d1 <;> kernel_rfl
theorem nan3R (a b c d : Nat) (c1 d1 c2 d2 : Bool) : (askN askIR fltC 12 64 #[a4 a b c d] #[] [yes false, yes false, yes false, yes false, yes c1, yes d1, yes false, yes c2, yes d2, yes true]).map (fun r => (r.1, r.2.2)) =
    some (fl2 ninf pinf, [cmpO .neq a a false, cmpO .lss a a false, cmpO .gtr a a false, cmpO .neq b b false, cmpO .lss b a c1, cmpO .gtr b a d1, cmpO .neq c c false, cmpO .lss c (sel c1 b a) c2, cmpO .gtr c (sel d1 b a) d2, cmpO .neq d d true]) := by
  cases c1 <;> cases d1 <;> cases c2 <;> cases d2 <;> kernel_rfl

end Go.Proofs.Ythajhpilfbijdaa
