/- StepRef / IvRef / IvBoth: several texts in one. -/
import Derived.Test.YtpmdpbljgidllaaIvInf
/-!  What the document's own functions for the float below and the float above return. -/
namespace Go.Proofs.Ytpmdpbljgidllaa
open Go
set_option linter.unusedVariables false
set_option maxRecDepth 100000

theorem down_posR {x : Nat} (h : Fin x) (h0 : 0 < key x) : Runs Try.prog 87 #[.float .f64 x] #[] (.float .f64 (IntKind.u64.wrap ((x : Int) - 1)).toNat) #[] := by
  have hk := nObls_ok h (by omega)
  rw [decide_eq_true h0] at hk
  exact askN_runs (ask := askX) (askC := fltC) (d := 12) (s := [yes false, yes false, yes false, yes false, yes false, yes true, isU x]) (l := nObls x true) (by kernel_rfl) hk
theorem down_negR {x : Nat} (h : Fin x) (h0 : key x < 0) : Runs Try.prog 87 #[.float .f64 x] #[] (.float .f64 (IntKind.u64.wrap ((x : Int) + 1)).toNat) #[] := by
  have hk := nObls_ok h (by omega)
  rw [decide_eq_false (by omega)] at hk
  exact askN_runs (ask := askX) (askC := fltC) (d := 12) (s := [yes false, yes false, yes false, yes false, yes false, yes false, isU x]) (l := nObls x false) (by kernel_rfl) hk
theorem up_posR {x : Nat} (h : Fin x) (h0 : 0 < key x) : Runs Try.prog 88 #[.float .f64 x] #[] (.float .f64 (IntKind.u64.wrap ((x : Int) + 1)).toNat) #[] := by
  have hk := uObls_ok h (by omega)
  rw [decide_eq_true h0] at hk
  exact askN_runs (ask := askX) (askC := fltC) (d := 12) (s := [yes false, yes false, yes false, yes false, yes true, yes true, isU x]) (l := uObls x true) (by kernel_rfl) hk
theorem up_negR {x : Nat} (h : Fin x) (h0 : key x < 0) : Runs Try.prog 88 #[.float .f64 x] #[] (.float .f64 (IntKind.u64.wrap ((x : Int) - 1)).toNat) #[] := by
  have hk := uObls_ok h (by omega)
  rw [decide_eq_false (by omega)] at hk
  exact askN_runs (ask := askX) (askC := fltC) (d := 12) (s := [yes false, yes false, yes false, yes false, yes true, yes false, isU x]) (l := uObls x false) (by kernel_rfl) hk
theorem down_zeroR {x : Nat} (h : Fin x) (h0 : key x = 0) : Runs Try.prog 87 #[.float .f64 x] #[] (.float .f64 9223372036854775809) #[] :=
  askN_runs (ask := askX) (askC := fltC) (d := 12) (s := [yes false, yes false, yes false, yes true, isU 1, isU 18442240474082181120])
    (l := [.cmp .neq 30 (.float .f64 x) (.float .f64 x) false, .cmp .neq 30 (.float .f64 18442240474082181120) (.float .f64 18442240474082181120) false, .cmp .eql 30 (.float .f64 x) (.float .f64 18442240474082181120) false, .cmp .eql 30 (.float .f64 x) (.float .f64 0) true,
      .row (orcD 12).row 52 #[.float .f64 1] (.int .u64 (Int.ofNat 1)), .row (orcD 12).row 52 #[.float .f64 18442240474082181120] (.int .u64 (Int.ofNat 18442240474082181120))]) (by kernel_rfl)
    ⟨cmp_self h, ninf_self, (fc _ rfl _ _).trans (eql_ninf h), (fc _ rfl _ _).trans (eql_zero h h0), (by kernel_rfl : (orcD 12).row 52 #[.float .f64 1] = some (.int .u64 (Int.ofNat 1))), (by kernel_rfl : (orcD 12).row 52 #[.float .f64 18442240474082181120] = some (.int .u64 (Int.ofNat 18442240474082181120))), trivial⟩
theorem up_zeroR {x : Nat} (h : Fin x) (h0 : key x = 0) : Runs Try.prog 88 #[.float .f64 x] #[] (.float .f64 1) #[] :=
  askN_runs (ask := askX) (askC := fltC) (d := 12) (s := [yes false, yes false, yes false, yes true, isU 1, isU 9218868437227405312])
    (l := [.cmp .neq 30 (.float .f64 x) (.float .f64 x) false, .cmp .neq 30 (.float .f64 9218868437227405312) (.float .f64 9218868437227405312) false, .cmp .eql 30 (.float .f64 x) (.float .f64 9218868437227405312) false, .cmp .eql 30 (.float .f64 x) (.float .f64 0) true,
      .row (orcD 12).row 52 #[.float .f64 1] (.int .u64 (Int.ofNat 1)), .row (orcD 12).row 52 #[.float .f64 9218868437227405312] (.int .u64 (Int.ofNat 9218868437227405312))]) (by kernel_rfl)
    ⟨cmp_self h, pinf_self, (fc _ rfl _ _).trans (cmps_up h).1, (fc _ rfl _ _).trans (eql_zero h h0), (by kernel_rfl : (orcD 12).row 52 #[.float .f64 1] = some (.int .u64 (Int.ofNat 1))), (by kernel_rfl : (orcD 12).row 52 #[.float .f64 9218868437227405312] = some (.int .u64 (Int.ofNat 9218868437227405312))), trivial⟩
theorem down_infR : Runs Try.prog 87 #[.float .f64 9218868437227405312] #[] (.float .f64 9218868437227405311) #[] := callD_runs (d := 12) (by kernel_rfl)
theorem down_ninfR : Runs Try.prog 87 #[.float .f64 18442240474082181120] #[] (.float .f64 18442240474082181120) #[] := callD_runs (d := 12) (by kernel_rfl)
theorem up_infR : Runs Try.prog 88 #[.float .f64 9218868437227405312] #[] (.float .f64 9218868437227405312) #[] := callD_runs (d := 12) (by kernel_rfl)
theorem up_ninfR : Runs Try.prog 88 #[.float .f64 18442240474082181120] #[] (.float .f64 18442240474082181119) #[] := callD_runs (d := 12) (by kernel_rfl)
theorem down_runsR {x : Nat} (h : NN x) : Runs Try.prog 87 #[.float .f64 x] #[] (.float .f64 (dn x)) #[] := by
  by_cases hf : Fi x
  · obtain ⟨k1, k2⟩ := fi_key hf
    obtain ⟨h1, h2, h3⟩ := hf
    unfold dn
    rw [if_neg (by omega)]
    rcases Int.lt_trichotomy (ix x) 0 with c | c | c
    · have := down_negR k1 (by rw [k2]; exact kv_neg.2 c)
      have c3 : ¬ x < 9223372036854775808 := fun h => by rw [ix_pos h] at c; omega
      rw [if_neg (by omega), if_neg c3]
      rw [ix_neg c3] at *
      rw [wrap_u64 (by omega) (by omega)] at this
      have e : ((x : Int) + 1).toNat = x + 1 := by omega
      rw [e] at this
      exact this
    · rw [if_pos c]
      exact down_zeroR k1 (by rw [k2]; unfold kv; rw [c]; rfl)
    · have := down_posR k1 (by rw [k2]; exact kv_pos.2 c)
      have c3 : x < 9223372036854775808 := by
        rcases Nat.lt_or_ge x 9223372036854775808 with h | h
        · exact h
        · rw [ix_neg (by omega)] at c; omega
      rw [if_neg (by omega), if_pos c3]
      rw [ix_pos c3] at *
      rw [wrap_u64 (by omega) (by omega)] at this
      have e : ((x : Int) - 1).toNat = x - 1 := by omega
      rw [e] at this
      exact this
  · rcases read_inf h hf with ⟨rfl, e⟩ | ⟨rfl, e⟩
    · exact down_infR
    · exact down_ninfR
theorem up_runsR {x : Nat} (h : NN x) : Runs Try.prog 88 #[.float .f64 x] #[] (.float .f64 (up x)) #[] := by
  by_cases hf : Fi x
  · obtain ⟨k1, k2⟩ := fi_key hf
    obtain ⟨h1, h2, h3⟩ := hf
    unfold up
    rw [if_neg (by omega)]
    rcases Int.lt_trichotomy (ix x) 0 with c | c | c
    · have := up_negR k1 (by rw [k2]; exact kv_neg.2 c)
      have c3 : ¬ x < 9223372036854775808 := fun h => by rw [ix_pos h] at c; omega
      rw [if_neg (by omega), if_neg c3]
      rw [ix_neg c3] at *
      rw [wrap_u64 (by omega) (by omega)] at this
      have e : ((x : Int) - 1).toNat = x - 1 := by omega
      rw [e] at this
      exact this
    · rw [if_pos c]
      exact up_zeroR k1 (by rw [k2]; unfold kv; rw [c]; rfl)
    · have := up_posR k1 (by rw [k2]; exact kv_pos.2 c)
      have c3 : x < 9223372036854775808 := by
        rcases Nat.lt_or_ge x 9223372036854775808 with h | h
        · exact h
        · rw [ix_neg (by omega)] at c; omega
      rw [if_neg (by omega), if_pos c3]
      rw [ix_pos c3] at *
      rw [wrap_u64 (by omega) (by omega)] at this
      have e : ((x : Int) + 1).toNat = x + 1 := by omega
      rw [e] at this
      exact this
  · rcases read_inf h hf with ⟨rfl, e⟩ | ⟨rfl, e⟩
    · exact up_infR
    · exact up_ninfR
theorem down_nanR : Runs Try.prog 87 #[.float .f64 (nanW .f64)] #[] (.float .f64 nanN) #[] := callD_runs (d := 12) (by kernel_rfl)
theorem up_nanR : Runs Try.prog 88 #[.float .f64 (nanW .f64)] #[] (.float .f64 nanN) #[] := callD_runs (d := 12) (by kernel_rfl)
theorem down_anyR {x : Nat} (h : NaNor x) : ∃ y, Runs Try.prog 87 #[.float .f64 x] #[] (.float .f64 y) #[] ∧ ((NN x ∧ y = dn x) ∨ (y = nanN)) := by
  rcases h with h | h
  · exact ⟨_, down_runsR h, .inl ⟨h, rfl⟩⟩
  · subst h; exact ⟨_, down_nanR, .inr rfl⟩
theorem up_anyR {x : Nat} (h : NaNor x) : ∃ y, Runs Try.prog 88 #[.float .f64 x] #[] (.float .f64 y) #[] ∧ ((NN x ∧ y = up x) ∨ (y = nanN)) := by
  rcases h with h | h
  · exact ⟨_, up_runsR h, .inl ⟨h, rfl⟩⟩
  · subst h; exact ⟨_, up_nanR, .inr rfl⟩

end Go.Proofs.Ytpmdpbljgidllaa

/-!  What the document's own functions of from-tos return. -/
namespace Go.Proofs.Ytpmdpbljgidllaa
open Go
set_option linter.unusedVariables false
set_option linter.unusedSimpArgs false
set_option maxRecDepth 100000

noncomputable def askIR (f : FuncId) : Nat := if f == 87 || f == 88 then 1 else if f == 52 || f == 46 then 0 else 2
def downOR (x d : Nat) : Obl := .run 87 #[.float .f64 x] #[] (.float .f64 d) #[]
def upOR (x d : Nat) : Obl := .run 88 #[.float .f64 x] #[] (.float .f64 d) #[]
theorem add_runsR {a b c e d u : Nat} (hd : Runs Try.prog 87 #[.float .f64 (fop .add .f64 a c)] #[] (.float .f64 d) #[]) (hu : Runs Try.prog 88 #[.float .f64 (fop .add .f64 b e)] #[] (.float .f64 u) #[])
    (hle : fcmp .leq .f64 d u = some true) : Runs Try.prog 73 #[ivV a b, ivV c e] #[] (ivV d u) #[] :=
  quiet_of (ask := askIR) (s := [isF d, isF u, yes true]) (l := [downOR (fop .add .f64 a c) d, upOR (fop .add .f64 b e) u, cmpO .leq d u true]) (by kernel_rfl) ⟨hd, hu, (fc _ rfl _ _).trans hle, trivial⟩ rfl rfl
theorem sub_runsR {a b c e d u : Nat} (hd : Runs Try.prog 87 #[.float .f64 (fop .sub .f64 a e)] #[] (.float .f64 d) #[]) (hu : Runs Try.prog 88 #[.float .f64 (fop .sub .f64 b c)] #[] (.float .f64 u) #[])
    (hle : fcmp .leq .f64 d u = some true) : Runs Try.prog 74 #[ivV a b, ivV c e] #[] (ivV d u) #[] :=
  quiet_of (ask := askIR) (s := [isF d, isF u, yes true]) (l := [downOR (fop .sub .f64 a e) d, upOR (fop .sub .f64 b c) u, cmpO .leq d u true]) (by kernel_rfl) ⟨hd, hu, (fc _ rfl _ _).trans hle, trivial⟩ rfl rfl
theorem in_runsR {x a b : Nat} (h1 : fcmp .leq .f64 a x = some true) (h2 : fcmp .leq .f64 x b = some true) : Runs Try.prog 29 #[.float .f64 x, ivV a b] #[] (.bool true) #[] :=
  quiet_of (ask := askIR) (s := [yes true, yes true]) (l := [cmpO .leq a x true, cmpO .leq x b true]) (by kernel_rfl) ⟨(fc _ rfl _ _).trans h1, (fc _ rfl _ _).trans h2, trivial⟩ rfl rfl
def spanLR (a b c d u v : Nat) (c1 d1 c2 d2 c3 d3 : Bool) : List Obl := [cmpO .neq a a false, cmpO .lss a a false, cmpO .gtr a a false, cmpO .neq b b false, cmpO .lss b a c1, cmpO .gtr b a d1, cmpO .neq c c false, cmpO .lss c (sel c1 b a) c2, cmpO .gtr c (sel d1 b a) d2, cmpO .neq d d false, cmpO .lss d (sel c2 c (sel c1 b a)) c3, cmpO .gtr d (sel d2 c (sel d1 b a)) d3,
      downOR (sel c3 d (sel c2 c (sel c1 b a))) u, upOR (sel d3 d (sel d2 c (sel d1 b a))) v, cmpO .leq u v true]
theorem span_cameR (a b c d u v : Nat) (c1 d1 c2 d2 c3 d3 : Bool) :
    (askN askIR fltC 12 89 #[.agg #[.float .f64 a, .float .f64 b, .float .f64 c, .float .f64 d]] #[] (spanS u v c1 d1 c2 d2 c3 d3)).map (fun r => (r.1, r.2.2)) = some (ivV u v, spanLR a b c d u v c1 d1 c2 d2 c3 d3) := by
  cases c1 <;> cases d1 <;> cases c2 <;> cases d2 <;> cases c3 <;> cases d3 <;> kernel_rfl
theorem span_bitsR (a b c d u v : Nat) (c1 d1 c2 d2 c3 d3 : Bool) (na : fcmp .neq .f64 a a = some false) (nb : fcmp .neq .f64 b b = some false) (nc : fcmp .neq .f64 c c = some false) (nd : fcmp .neq .f64 d d = some false)
    (l0 : fcmp .lss .f64 a a = some false) (g0 : fcmp .gtr .f64 a a = some false) (l1 : fcmp .lss .f64 b a = some c1) (g1 : fcmp .gtr .f64 b a = some d1)
    (l2 : fcmp .lss .f64 c (sel c1 b a) = some c2) (g2 : fcmp .gtr .f64 c (sel d1 b a) = some d2) (l3 : fcmp .lss .f64 d (sel c2 c (sel c1 b a)) = some c3) (g3 : fcmp .gtr .f64 d (sel d2 c (sel d1 b a)) = some d3)
    (hd : Runs Try.prog 87 #[.float .f64 (sel c3 d (sel c2 c (sel c1 b a)))] #[] (.float .f64 u) #[]) (hu : Runs Try.prog 88 #[.float .f64 (sel d3 d (sel d2 c (sel d1 b a)))] #[] (.float .f64 v) #[])
    (hle : fcmp .leq .f64 u v = some true) : Runs Try.prog 89 #[.agg #[.float .f64 a, .float .f64 b, .float .f64 c, .float .f64 d]] #[] (ivV u v) #[] :=
  quiet_of (span_cameR a b c d u v c1 d1 c2 d2 c3 d3)
    ⟨(fc _ rfl _ _).trans na, (fc _ rfl _ _).trans l0, (fc _ rfl _ _).trans g0, (fc _ rfl _ _).trans nb, (fc _ rfl _ _).trans l1, (fc _ rfl _ _).trans g1, (fc _ rfl _ _).trans nc, (fc _ rfl _ _).trans l2, (fc _ rfl _ _).trans g2, (fc _ rfl _ _).trans nd, (fc _ rfl _ _).trans l3, (fc _ rfl _ _).trans g3, hd, hu, (fc _ rfl _ _).trans hle, trivial⟩ rfl rfl
theorem span_runsR {a b c d : Nat} (ha : NN a) (hb : NN b) (hc : NN c) (hd : NN d) :
    ∃ lo hi, Ends a b c d lo hi ∧ Runs Try.prog 89 #[.agg #[.float .f64 a, .float .f64 b, .float .f64 c, .float .f64 d]] #[] (ivV (dn lo) (up hi)) #[] := by
  obtain ⟨s1, s2, s3, s4⟩ := sel_lo hb ha rfl
  obtain ⟨t1, t2, t3, t4⟩ := sel_lo hc s1 rfl
  obtain ⟨u1, u2, u3, u4⟩ := sel_lo hd t1 rfl
  obtain ⟨v1, v2, v3, v4⟩ := sel_hi hb ha rfl
  obtain ⟨w1, w2, w3, w4⟩ := sel_hi hc v1 rfl
  obtain ⟨x1, x2, x3, x4⟩ := sel_hi hd w1 rfl
  refine ⟨_, _, ⟨u1, x1, by omega, by omega, by omega, by omega, by omega, by omega, by omega, by omega, ?_, ?_⟩,
    span_bitsR a b c d _ _ _ _ _ _ _ _ (nn_self ha).1 (nn_self hb).1 (nn_self hc).1 (nn_self hd).1 (nn_self ha).2.1 (nn_self ha).2.2 (lss_ix hb ha) (gtr_ix hb ha) (lss_ix hc s1) (gtr_ix hc v1) (lss_ix hd t1) (gtr_ix hd w1) (down_runsR u1) (up_runsR x1)
      ((leq_ix (dn_ix u1).1 (up_ix x1).1).trans (congrArg some (decide_eq_true (out_le u1 x1 (by omega)))))⟩
  · rcases u4 with h | h
    · exact .inr (.inr (.inr h))
    · rw [h]; rcases t4 with h | h
      · exact .inr (.inr (.inl h))
      · rw [h]; rcases s4 with h | h
        · exact .inr (.inl h)
        · exact .inl h
  · rcases x4 with h | h
    · exact .inr (.inr (.inr h))
    · rw [h]; rcases w4 with h | h
      · exact .inr (.inr (.inl h))
      · rw [h]; rcases v4 with h | h
        · exact .inr (.inl h)
        · exact .inl h
noncomputable def askMR (f : FuncId) : Nat := if f == 89 || f == 90 then 1 else if f == 52 || f == 46 then 0 else 2
theorem mul_runsR {a b c e u v : Nat} (h : Runs Try.prog 89 #[.agg #[.float .f64 (fop .mul .f64 a c), .float .f64 (fop .mul .f64 a e), .float .f64 (fop .mul .f64 b c), .float .f64 (fop .mul .f64 b e)]] #[] (ivV u v) #[]) :
    Runs Try.prog 75 #[ivV a b, ivV c e] #[] (ivV u v) #[] :=
  quiet_of (ask := askMR) (s := [isV (ivV u v)]) (l := [.run 89 #[.agg #[.float .f64 (fop .mul .f64 a c), .float .f64 (fop .mul .f64 a e), .float .f64 (fop .mul .f64 b c), .float .f64 (fop .mul .f64 b e)]] #[] (ivV u v) #[]]) (by kernel_rfl) ⟨h, trivial⟩ rfl rfl
theorem div_runsR {a b c e u v : Nat} (hi : Runs Try.prog 90 #[ivV c e] #[] (.bool false) #[])
    (h : Runs Try.prog 89 #[.agg #[.float .f64 (fop .quo .f64 a c), .float .f64 (fop .quo .f64 a e), .float .f64 (fop .quo .f64 b c), .float .f64 (fop .quo .f64 b e)]] #[] (ivV u v) #[]) :
    Runs Try.prog 76 #[ivV a b, ivV c e] #[] (ivV u v) #[] :=
  quiet_of (ask := askMR) (s := [yes false, isV (ivV u v)]) (l := [.run 90 #[ivV c e] #[] (.bool false) #[], .run 89 #[.agg #[.float .f64 (fop .quo .f64 a c), .float .f64 (fop .quo .f64 a e), .float .f64 (fop .quo .f64 b c), .float .f64 (fop .quo .f64 b e)]] #[] (ivV u v) #[]]) (by kernel_rfl) ⟨hi, h, trivial⟩ rfl rfl
theorem div_zeroR {a b c e : Nat} (hi : Runs Try.prog 90 #[ivV c e] #[] (.bool true) #[]) : Runs Try.prog 76 #[ivV a b, ivV c e] #[] wholeV #[] :=
  quiet_of (ask := askMR) (s := [yes true]) (l := [.run 90 #[ivV c e] #[] (.bool true) #[]]) (by kernel_rfl) ⟨hi, trivial⟩ rfl rfl
theorem in_yesR {x a b : Nat} (hx : NN x) (ha : NN a) (hb : NN b) (h1 : ix a ≤ ix x) (h2 : ix x ≤ ix b) : Runs Try.prog 29 #[.float .f64 x, ivV a b] #[] (.bool true) #[] :=
  in_runsR ((leq_ix ha hx).trans (congrArg some (decide_eq_true h1))) ((leq_ix hx hb).trans (congrArg some (decide_eq_true h2)))
theorem in_noR {x a b : Nat} (hx : NN x) (ha : NN a) (hb : NN b) (h : ix x < ix a ∨ ix b < ix x) : Runs Try.prog 29 #[.float .f64 x, ivV a b] #[] (.bool false) #[] := by
  by_cases h1 : ix a ≤ ix x
  · exact quiet_of (ask := askIR) (s := [yes true, yes false]) (l := [cmpO .leq a x true, cmpO .leq x b false]) (by kernel_rfl) ⟨(fc _ rfl _ _).trans ((leq_ix ha hx).trans (congrArg some (decide_eq_true h1))), (fc _ rfl _ _).trans ((leq_ix hx hb).trans (congrArg some (decide_eq_false (by omega)))), trivial⟩ rfl rfl
  · exact quiet_of (ask := askIR) (s := [yes false]) (l := [cmpO .leq a x false]) (by kernel_rfl) ⟨(fc _ rfl _ _).trans ((leq_ix ha hx).trans (congrArg some (decide_eq_false h1))), trivial⟩ rfl rfl
/-- How two ends, one further out each, are told. -/
theorem out_anyR {x y : Nat} (hx : NaNor x) (hy : NaNor y) : ∃ u v, Runs Try.prog 87 #[.float .f64 x] #[] (.float .f64 u) #[] ∧ Runs Try.prog 88 #[.float .f64 y] #[] (.float .f64 v) #[] ∧
    ((fcmp .leq .f64 u v = some true ∧ Told x y u v) ∨ fcmp .leq .f64 u v = some false) := by
  obtain ⟨u, hu, cu⟩ := down_anyR hx
  obtain ⟨v, hv, cv⟩ := up_anyR hy
  refine ⟨u, v, hu, hv, ?_⟩
  rcases cu with ⟨nx, rfl⟩ | rfl
  · rcases cv with ⟨ny, rfl⟩ | rfl
    · have d := (dn_ix nx).1
      have e := (up_ix ny).1
      rw [leq_ix d e]
      by_cases h : ix (dn x) ≤ ix (up y)
      · exact .inl ⟨congrArg some (decide_eq_true h), d, e, h, .inl ⟨nx, ny, rfl, rfl⟩⟩
      · exact .inr (congrArg some (decide_eq_false h))
    · exact .inr (nan_leq _).2
  · exact .inr (nan_leq _).1
theorem add_allR {a b c e d u : Nat} (hd : Runs Try.prog 87 #[.float .f64 (fop .add .f64 a c)] #[] (.float .f64 d) #[]) (hu : Runs Try.prog 88 #[.float .f64 (fop .add .f64 b e)] #[] (.float .f64 u) #[])
    (hle : fcmp .leq .f64 d u = some false) : Runs Try.prog 73 #[fl2 a b, fl2 c e] #[] (fl2 ninf pinf) #[] :=
  quiet_of (ask := askIR) (s := [isF d, isF u, yes false]) (l := [downOR (fop .add .f64 a c) d, upOR (fop .add .f64 b e) u, cmpO .leq d u false]) (by kernel_rfl) ⟨hd, hu, (fc _ rfl _ _).trans hle, trivial⟩ rfl rfl
theorem sub_allR {a b c e d u : Nat} (hd : Runs Try.prog 87 #[.float .f64 (fop .sub .f64 a e)] #[] (.float .f64 d) #[]) (hu : Runs Try.prog 88 #[.float .f64 (fop .sub .f64 b c)] #[] (.float .f64 u) #[])
    (hle : fcmp .leq .f64 d u = some false) : Runs Try.prog 74 #[fl2 a b, fl2 c e] #[] (fl2 ninf pinf) #[] :=
  quiet_of (ask := askIR) (s := [isF d, isF u, yes false]) (l := [downOR (fop .sub .f64 a e) d, upOR (fop .sub .f64 b c) u, cmpO .leq d u false]) (by kernel_rfl) ⟨hd, hu, (fc _ rfl _ _).trans hle, trivial⟩ rfl rfl
theorem nan0R (a b c d : Nat) : (askN askIR fltC 12 89 #[a4 a b c d] #[] [yes true]).map (fun r => (r.1, r.2.2)) = some (fl2 ninf pinf, [cmpO .neq a a true]) := by kernel_rfl
theorem nan1R (a b c d : Nat) : (askN askIR fltC 12 89 #[a4 a b c d] #[] [yes false, yes false, yes false, yes true]).map (fun r => (r.1, r.2.2)) = some (fl2 ninf pinf, [cmpO .neq a a false, cmpO .lss a a false, cmpO .gtr a a false, cmpO .neq b b true]) := by kernel_rfl
theorem nan2R (a b c d : Nat) (c1 d1 : Bool) : (askN askIR fltC 12 89 #[a4 a b c d] #[] [yes false, yes false, yes false, yes false, yes c1, yes d1, yes true]).map (fun r => (r.1, r.2.2)) = some (fl2 ninf pinf, [cmpO .neq a a false, cmpO .lss a a false, cmpO .gtr a a false, cmpO .neq b b false, cmpO .lss b a c1, cmpO .gtr b a d1, cmpO .neq c c true]) := by
  cases c1 <;> cases d1 <;> kernel_rfl
theorem nan3R (a b c d : Nat) (c1 d1 c2 d2 : Bool) : (askN askIR fltC 12 89 #[a4 a b c d] #[] [yes false, yes false, yes false, yes false, yes c1, yes d1, yes false, yes c2, yes d2, yes true]).map (fun r => (r.1, r.2.2)) =
    some (fl2 ninf pinf, [cmpO .neq a a false, cmpO .lss a a false, cmpO .gtr a a false, cmpO .neq b b false, cmpO .lss b a c1, cmpO .gtr b a d1, cmpO .neq c c false, cmpO .lss c (sel c1 b a) c2, cmpO .gtr c (sel d1 b a) d2, cmpO .neq d d true]) := by
  cases c1 <;> cases d1 <;> cases c2 <;> cases d2 <;> kernel_rfl

end Go.Proofs.Ytpmdpbljgidllaa

/-!  iv and the document tell the same of all from-tos. -/
namespace Go.Proofs.Ytpmdpbljgidllaa
open Go
set_option linter.unusedVariables false
set_option linter.unusedSimpArgs false
set_option maxRecDepth 100000

theorem down_both {x : Nat} (h : NaNor x) : ∃ y, Runs Try.prog 93 #[.float .f64 x] #[] (.float .f64 y) #[] ∧ Runs Try.prog 87 #[.float .f64 x] #[] (.float .f64 y) #[] ∧ ((NN x ∧ y = dn x) ∨ y = nanN) := by
  rcases h with h | rfl
  · exact ⟨_, down_runs h, down_runsR h, .inl ⟨h, rfl⟩⟩
  · exact ⟨_, down_nan, down_nanR, .inr rfl⟩
theorem up_both {x : Nat} (h : NaNor x) : ∃ y, Runs Try.prog 94 #[.float .f64 x] #[] (.float .f64 y) #[] ∧ Runs Try.prog 88 #[.float .f64 x] #[] (.float .f64 y) #[] ∧ ((NN x ∧ y = up x) ∨ y = nanN) := by
  rcases h with h | rfl
  · exact ⟨_, up_runs h, up_runsR h, .inl ⟨h, rfl⟩⟩
  · exact ⟨_, up_nan, up_nanR, .inr rfl⟩
theorem out_both {x y : Nat} (hx : NaNor x) (hy : NaNor y) : ∃ u v, Runs Try.prog 93 #[.float .f64 x] #[] (.float .f64 u) #[] ∧ Runs Try.prog 87 #[.float .f64 x] #[] (.float .f64 u) #[] ∧
    Runs Try.prog 94 #[.float .f64 y] #[] (.float .f64 v) #[] ∧ Runs Try.prog 88 #[.float .f64 y] #[] (.float .f64 v) #[] ∧
    ((fcmp .leq .f64 u v = some true ∧ NN u ∧ NN v ∧ ix u ≤ ix v) ∨ fcmp .leq .f64 u v = some false) := by
  obtain ⟨u, hu, hu', cu⟩ := down_both hx
  obtain ⟨v, hv, hv', cv⟩ := up_both hy
  refine ⟨u, v, hu, hu', hv, hv', ?_⟩
  rcases cu with ⟨nx, rfl⟩ | rfl
  · rcases cv with ⟨ny, rfl⟩ | rfl
    · have d := (dn_ix nx).1
      have e := (up_ix ny).1
      rw [leq_ix d e]
      by_cases h : ix (dn x) ≤ ix (up y)
      · exact .inl ⟨congrArg some (decide_eq_true h), d, e, h⟩
      · exact .inr (congrArg some (decide_eq_false h))
    · exact .inr (nan_leq _).2
  · exact .inr (nan_leq _).1

/-- Two functions tell the same, that is right. -/
def Both (f g : FuncId) (args : Array Value) : Prop := ∃ p q, Runs Try.prog f args #[] (fl2 p q) #[] ∧ Runs Try.prog g args #[] (fl2 p q) #[] ∧ NN p ∧ NN q ∧ ix p ≤ ix q

theorem all_nn : NN ninf ∧ NN pinf ∧ ix ninf ≤ ix pinf := ⟨ninf_nn.1, pinf_nn.1, by decide⟩

theorem add_both (a b c e : Nat) : Both 60 73 #[fl2 a b, fl2 c e] := by
  obtain ⟨u, v, h1, h2, h3, h4, h5⟩ := out_both (fop_nan (op := .add) (x := a) (y := c) (.inl rfl)) (fop_nan (op := .add) (x := b) (y := e) (.inl rfl))
  rcases h5 with ⟨h, hn⟩ | h
  · exact ⟨u, v, add_runs h1 h3 h, add_runsR h2 h4 h, hn⟩
  · exact ⟨_, _, add_all h1 h3 h, add_allR h2 h4 h, all_nn⟩
theorem sub_both (a b c e : Nat) : Both 61 74 #[fl2 a b, fl2 c e] := by
  obtain ⟨u, v, h1, h2, h3, h4, h5⟩ := out_both (fop_nan (op := .sub) (x := a) (y := e) (.inr (.inl rfl))) (fop_nan (op := .sub) (x := b) (y := c) (.inr (.inl rfl)))
  rcases h5 with ⟨h, hn⟩ | h
  · exact ⟨u, v, sub_runs h1 h3 h, sub_runsR h2 h4 h, hn⟩
  · exact ⟨_, _, sub_all h1 h3 h, sub_allR h2 h4 h, all_nn⟩

theorem span_both {a b c d : Nat} (ha : NaNor a) (hb : NaNor b) (hc : NaNor c) (hd : NaNor d) : Both 79 89 #[a4 a b c d] := by
  rcases ha with ha | rfl
  · obtain ⟨x1, x2, x3⟩ := nn_self ha
    rcases hb with hb | rfl
    · obtain ⟨y1, y2, y3⟩ := nn_self hb
      obtain ⟨s1, s2, s3, s4⟩ := sel_lo hb ha rfl
      obtain ⟨v1, v2, v3, v4⟩ := sel_hi hb ha rfl
      rcases hc with hc | rfl
      · obtain ⟨z1, z2, z3⟩ := nn_self hc
        obtain ⟨t1, t2, t3, t4⟩ := sel_lo hc s1 rfl
        obtain ⟨w1, w2, w3, w4⟩ := sel_hi hc v1 rfl
        rcases hd with hd | rfl
        · obtain ⟨u1, u2, u3, u4⟩ := sel_lo hd t1 rfl
          obtain ⟨k1, k2, k3, k4⟩ := sel_hi hd w1 rfl
          have hle := out_le u1 k1 (by omega)
          have hl := (leq_ix (dn_ix u1).1 (up_ix k1).1).trans (congrArg some (decide_eq_true hle))
          exact ⟨_, _, span_bits a b c d _ _ _ _ _ _ _ _ x1 y1 z1 (nn_self hd).1 x2 x3 (lss_ix hb ha) (gtr_ix hb ha) (lss_ix hc s1) (gtr_ix hc v1) (lss_ix hd t1) (gtr_ix hd w1) (down_runs u1) (up_runs k1) hl,
            span_bitsR a b c d _ _ _ _ _ _ _ _ x1 y1 z1 (nn_self hd).1 x2 x3 (lss_ix hb ha) (gtr_ix hb ha) (lss_ix hc s1) (gtr_ix hc v1) (lss_ix hd t1) (gtr_ix hd w1) (down_runsR u1) (up_runsR k1) hl, (dn_ix u1).1, (up_ix k1).1, hle⟩
        · have ob : okAll Try.prog [cmpO .neq a a false, cmpO .lss a a false, cmpO .gtr a a false, cmpO .neq b b false, cmpO .lss b a _, cmpO .gtr b a _, cmpO .neq c c false, cmpO .lss c (sel _ b a) _, cmpO .gtr c (sel _ b a) _, cmpO .neq (nanW .f64) (nanW .f64) true] :=
            ⟨(fc _ rfl _ _).trans x1, (fc _ rfl _ _).trans x2, (fc _ rfl _ _).trans x3, (fc _ rfl _ _).trans y1, (fc _ rfl _ _).trans (lss_ix hb ha), (fc _ rfl _ _).trans (gtr_ix hb ha), (fc _ rfl _ _).trans z1, (fc _ rfl _ _).trans (lss_ix hc s1), (fc _ rfl _ _).trans (gtr_ix hc v1), (fc _ rfl _ _).trans nan_neq, trivial⟩
          exact ⟨_, _, quiet_of (nan3 _ _ _ _ _ _ _ _) ob rfl rfl, quiet_of (nan3R _ _ _ _ _ _ _ _) ob rfl rfl, all_nn⟩
      · have ob : okAll Try.prog [cmpO .neq a a false, cmpO .lss a a false, cmpO .gtr a a false, cmpO .neq b b false, cmpO .lss b a _, cmpO .gtr b a _, cmpO .neq (nanW .f64) (nanW .f64) true] :=
          ⟨(fc _ rfl _ _).trans x1, (fc _ rfl _ _).trans x2, (fc _ rfl _ _).trans x3, (fc _ rfl _ _).trans y1, (fc _ rfl _ _).trans (lss_ix hb ha), (fc _ rfl _ _).trans (gtr_ix hb ha), (fc _ rfl _ _).trans nan_neq, trivial⟩
        exact ⟨_, _, quiet_of (nan2 _ _ _ _ _ _) ob rfl rfl, quiet_of (nan2R _ _ _ _ _ _) ob rfl rfl, all_nn⟩
    · have ob : okAll Try.prog [cmpO .neq a a false, cmpO .lss a a false, cmpO .gtr a a false, cmpO .neq (nanW .f64) (nanW .f64) true] :=
        ⟨(fc _ rfl _ _).trans x1, (fc _ rfl _ _).trans x2, (fc _ rfl _ _).trans x3, (fc _ rfl _ _).trans nan_neq, trivial⟩
      exact ⟨_, _, quiet_of (nan1 _ _ _ _) ob rfl rfl, quiet_of (nan1R _ _ _ _) ob rfl rfl, all_nn⟩
  · have ob : okAll Try.prog [cmpO .neq (nanW .f64) (nanW .f64) true] := ⟨(fc _ rfl _ _).trans nan_neq, trivial⟩
    exact ⟨_, _, quiet_of (nan0 _ _ _ _) ob rfl rfl, quiet_of (nan0R _ _ _ _) ob rfl rfl, all_nn⟩

theorem mul_both (a b c e : Nat) : Both 62 75 #[fl2 a b, fl2 c e] := by
  have h := fun x y => fop_nan (op := .mul) (x := x) (y := y) (.inr (.inr (.inl rfl)))
  obtain ⟨p, q, h1, h2, hn⟩ := span_both (h a c) (h a e) (h b c) (h b e)
  exact ⟨p, q, mul_runs h1, mul_runsR h2, hn⟩

theorem holds_at {c e : Nat} {t : Bool} (hc : NN c) (he : NN e) (ht : t = decide (ix c ≤ 0 ∧ 0 ≤ ix e)) : Runs Try.prog 90 #[ivV c e] #[] (.bool t) #[] := by
  have q1 : fcmp .leq .f64 c 0 = some (decide (ix c ≤ 0)) := by have := leq_ix hc nn_zero.1; rw [nn_zero.2] at this; exact this
  have q2 : fcmp .leq .f64 0 e = some (decide (0 ≤ ix e)) := by have := leq_ix nn_zero.1 he; rw [nn_zero.2] at this; exact this
  by_cases h1 : ix c ≤ 0
  · by_cases h2 : 0 ≤ ix e
    · rw [decide_eq_true ⟨h1, h2⟩] at ht
      subst ht
      exact quiet_of (ask := noF) (s := [yes true, yes true]) (l := [cmpO .leq c 0 true, cmpO .leq 0 e true]) (by kernel_rfl) ⟨(fc _ rfl _ _).trans (q1.trans (congrArg some (decide_eq_true h1))), (fc _ rfl _ _).trans (q2.trans (congrArg some (decide_eq_true h2))), trivial⟩ rfl rfl
    · rw [decide_eq_false (fun h => h2 h.2)] at ht
      subst ht
      exact quiet_of (ask := noF) (s := [yes true, yes false]) (l := [cmpO .leq c 0 true, cmpO .leq 0 e false]) (by kernel_rfl) ⟨(fc _ rfl _ _).trans (q1.trans (congrArg some (decide_eq_true h1))), (fc _ rfl _ _).trans (q2.trans (congrArg some (decide_eq_false h2))), trivial⟩ rfl rfl
  · rw [decide_eq_false (fun h => h1 h.1)] at ht
    subst ht
    exact quiet_of (ask := noF) (s := [yes false]) (l := [cmpO .leq c 0 false]) (by kernel_rfl) ⟨(fc _ rfl _ _).trans (q1.trans (congrArg some (decide_eq_false h1))), trivial⟩ rfl rfl

theorem div_both (a b : Nat) {c e : Nat} (hc : NN c) (he : NN e) : Both 63 76 #[fl2 a b, fl2 c e] := by
  have h := fun x y => fop_nan (op := .quo) (x := x) (y := y) (.inr (.inr (.inr rfl)))
  by_cases hi : 0 < ix c ∨ ix e < 0
  · obtain ⟨p, q, h1, h2, hn⟩ := span_both (h a c) (h a e) (h b c) (h b e)
    exact ⟨p, q, div_runs (in_no nn_zero.1 hc he (by rw [nn_zero.2]; exact hi)) h1, div_runsR (holds_at hc he (decide_eq_false (by omega)).symm) h2, hn⟩
  · exact ⟨ninf, pinf, div_zero (in_yes nn_zero.1 hc he (by rw [nn_zero.2]; omega) (by rw [nn_zero.2]; omega)), div_zeroR (holds_at hc he (decide_eq_true (by omega)).symm), all_nn⟩

/-! the bound of e to the x -/
noncomputable def opQ (f : FuncId) (a b c d : Nat) (r : Nat × Nat) : Obl := .run f #[fl2 a b, fl2 c d] #[] (fl2 r.1 r.2) #[]
def aP (r : Nat × Nat) : Ans := isV (fl2 r.1 r.2)
noncomputable def sqL (f : FuncId) : List (Nat × Nat) → List Obl
  | r :: s :: l => opQ f r.1 r.2 r.1 r.2 s :: sqL f (s :: l)
  | _ => []

theorem Both.pair {f g : FuncId} {args : Array Value} (h : Both f g args) : ∃ r : Nat × Nat, Runs Try.prog f args #[] (fl2 r.1 r.2) #[] ∧ Runs Try.prog g args #[] (fl2 r.1 r.2) #[] ∧ NN r.1 ∧ NN r.2 ∧ ix r.1 ≤ ix r.2 := by
  obtain ⟨p, q, h⟩ := h
  exact ⟨(p, q), h⟩

theorem fcmp_some (op : BinOp) (h : op = .neq ∨ op = .geq ∨ op = .leq ∨ op = .eql) (x y : Nat) : ∃ t, fcmp op .f64 x y = some t := by
  rcases h with rfl | rfl | rfl | rfl <;> exact ⟨_, rfl⟩


end Go.Proofs.Ytpmdpbljgidllaa
