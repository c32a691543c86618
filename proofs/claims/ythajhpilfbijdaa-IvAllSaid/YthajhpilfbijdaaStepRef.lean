/- What the document's own functions for the float below and the float above return. -/
import Derived.Test.YthajhpilfbijdaaIvInf
namespace Go.Proofs.Ythajhpilfbijdaa
open Go
set_option linter.unusedVariables false
set_option maxRecDepth 100000

theorem down_posR {x : Nat} (h : Fin x) (h0 : 0 < key x) : Runs Try.prog 62 #[.float .f64 x] #[] (.float .f64 (IntKind.u64.wrap ((x : Int) - 1)).toNat) #[] := by
  have hk := nObls_ok h (by omega)
  rw [decide_eq_true h0] at hk
  exact askN_runs (ask := askX) (askC := fltC) (d := 12) (s := [yes false, yes false, yes false, yes false, yes false, yes true, isU x]) (l := nObls x true) (by kernel_rfl) hk
theorem down_negR {x : Nat} (h : Fin x) (h0 : key x < 0) : Runs Try.prog 62 #[.float .f64 x] #[] (.float .f64 (IntKind.u64.wrap ((x : Int) + 1)).toNat) #[] := by
  have hk := nObls_ok h (by omega)
  rw [decide_eq_false (by omega)] at hk
  exact askN_runs (ask := askX) (askC := fltC) (d := 12) (s := [yes false, yes false, yes false, yes false, yes false, yes false, isU x]) (l := nObls x false) (by kernel_rfl) hk
theorem up_posR {x : Nat} (h : Fin x) (h0 : 0 < key x) : Runs Try.prog 63 #[.float .f64 x] #[] (.float .f64 (IntKind.u64.wrap ((x : Int) + 1)).toNat) #[] := by
  have hk := uObls_ok h (by omega)
  rw [decide_eq_true h0] at hk
  exact askN_runs (ask := askX) (askC := fltC) (d := 12) (s := [yes false, yes false, yes false, yes false, yes true, yes true, isU x]) (l := uObls x true) (by kernel_rfl) hk
theorem up_negR {x : Nat} (h : Fin x) (h0 : key x < 0) : Runs Try.prog 63 #[.float .f64 x] #[] (.float .f64 (IntKind.u64.wrap ((x : Int) - 1)).toNat) #[] := by
  have hk := uObls_ok h (by omega)
  rw [decide_eq_false (by omega)] at hk
  exact askN_runs (ask := askX) (askC := fltC) (d := 12) (s := [yes false, yes false, yes false, yes false, yes true, yes false, isU x]) (l := uObls x false) (by kernel_rfl) hk
theorem down_zeroR {x : Nat} (h : Fin x) (h0 : key x = 0) : Runs Try.prog 62 #[.float .f64 x] #[] (.float .f64 9223372036854775809) #[] :=
  askN_runs (ask := askX) (askC := fltC) (d := 12) (s := [yes false, yes false, yes false, yes true, isU 1, isU 18442240474082181120])
    (l := [.cmp .neq 24 (.float .f64 x) (.float .f64 x) false, .cmp .neq 24 (.float .f64 18442240474082181120) (.float .f64 18442240474082181120) false, .cmp .eql 24 (.float .f64 x) (.float .f64 18442240474082181120) false, .cmp .eql 24 (.float .f64 x) (.float .f64 0) true,
      .row (orcD 12).row 56 #[.float .f64 1] (.int .u64 (Int.ofNat 1)), .row (orcD 12).row 56 #[.float .f64 18442240474082181120] (.int .u64 (Int.ofNat 18442240474082181120))]) (by kernel_rfl)
    ⟨cmp_self h, ninf_self, (fc _ rfl _ _).trans (eql_ninf h), (fc _ rfl _ _).trans (eql_zero h h0), (by kernel_rfl : (orcD 12).row 56 #[.float .f64 1] = some (.int .u64 (Int.ofNat 1))), (by kernel_rfl : (orcD 12).row 56 #[.float .f64 18442240474082181120] = some (.int .u64 (Int.ofNat 18442240474082181120))), trivial⟩
theorem up_zeroR {x : Nat} (h : Fin x) (h0 : key x = 0) : Runs Try.prog 63 #[.float .f64 x] #[] (.float .f64 1) #[] :=
  askN_runs (ask := askX) (askC := fltC) (d := 12) (s := [yes false, yes false, yes false, yes true, isU 1, isU 9218868437227405312])
    (l := [.cmp .neq 24 (.float .f64 x) (.float .f64 x) false, .cmp .neq 24 (.float .f64 9218868437227405312) (.float .f64 9218868437227405312) false, .cmp .eql 24 (.float .f64 x) (.float .f64 9218868437227405312) false, .cmp .eql 24 (.float .f64 x) (.float .f64 0) true,
      .row (orcD 12).row 56 #[.float .f64 1] (.int .u64 (Int.ofNat 1)), .row (orcD 12).row 56 #[.float .f64 9218868437227405312] (.int .u64 (Int.ofNat 9218868437227405312))]) (by kernel_rfl)
    ⟨cmp_self h, pinf_self, (fc _ rfl _ _).trans (cmps_up h).1, (fc _ rfl _ _).trans (eql_zero h h0), (by kernel_rfl : (orcD 12).row 56 #[.float .f64 1] = some (.int .u64 (Int.ofNat 1))), (by kernel_rfl : (orcD 12).row 56 #[.float .f64 9218868437227405312] = some (.int .u64 (Int.ofNat 9218868437227405312))), trivial⟩
theorem down_infR : Runs Try.prog 62 #[.float .f64 9218868437227405312] #[] (.float .f64 9218868437227405311) #[] := callD_runs (d := 12) (by kernel_rfl)
theorem down_ninfR : Runs Try.prog 62 #[.float .f64 18442240474082181120] #[] (.float .f64 18442240474082181120) #[] := callD_runs (d := 12) (by kernel_rfl)
theorem up_infR : Runs Try.prog 63 #[.float .f64 9218868437227405312] #[] (.float .f64 9218868437227405312) #[] := callD_runs (d := 12) (by kernel_rfl)
theorem up_ninfR : Runs Try.prog 63 #[.float .f64 18442240474082181120] #[] (.float .f64 18442240474082181119) #[] := callD_runs (d := 12) (by kernel_rfl)
theorem down_runsR {x : Nat} (h : NN x) : Runs Try.prog 62 #[.float .f64 x] #[] (.float .f64 (dn x)) #[] := by
  by_cases hf : Fi x
  · obtain ⟨k1, k2⟩ := fi_key hf
    obtain ⟨h1, h2, h3⟩ := hf
    unfold dn
    rw [if_neg (by omega)]
    rcases Int.lt_trichotomy (ix x) 0 with c | c | c
    · have := down_negR k1 (by rw [k2]; exact kv_neg.2 c)
      have c3 : ¬ x < 9223372036854775808 := fun h => by rw [ix_pos h] at c; omega
      rw [if_neg (by omega), if_neg c3]
      rw [ix_neg c3] at *
      rw [wrap_u64 (by omega) (by omega)] at this
      have e : ((x : Int) + 1).toNat = x + 1 := by omega
      rw [e] at this
      exact this
    · rw [if_pos c]
      exact down_zeroR k1 (by rw [k2]; unfold kv; rw [c]; rfl)
    · have := down_posR k1 (by rw [k2]; exact kv_pos.2 c)
      have c3 : x < 9223372036854775808 := by
        rcases Nat.lt_or_ge x 9223372036854775808 with h | h
        · exact h
        · rw [ix_neg (by omega)] at c; omega
      rw [if_neg (by omega), if_pos c3]
      rw [ix_pos c3] at *
      rw [wrap_u64 (by omega) (by omega)] at this
      have e : ((x : Int) - 1).toNat = x - 1 := by omega
      rw [e] at this
      exact this
  · rcases read_inf h hf with ⟨rfl, e⟩ | ⟨rfl, e⟩
    · exact down_infR
    · exact down_ninfR
theorem up_runsR {x : Nat} (h : NN x) : Runs Try.prog 63 #[.float .f64 x] #[] (.float .f64 (up x)) #[] := by
  by_cases hf : Fi x
  · obtain ⟨k1, k2⟩ := fi_key hf
    obtain ⟨h1, h2, h3⟩ := hf
    unfold up
    rw [if_neg (by omega)]
    rcases Int.lt_trichotomy (ix x) 0 with c | c | c
    · have := up_negR k1 (by rw [k2]; exact kv_neg.2 c)
      have c3 : ¬ x < 9223372036854775808 := fun h => by rw [ix_pos h] at c; omega
      rw [if_neg (by omega), if_neg c3]
      rw [ix_neg c3] at *
      rw [wrap_u64 (by omega) (by omega)] at this
      have e : ((x : Int) - 1).toNat = x - 1 := by omega
      rw [e] at this
      exact this
    · rw [if_pos c]
      exact up_zeroR k1 (by rw [k2]; unfold kv; rw [c]; rfl)
    · have := up_posR k1 (by rw [k2]; exact kv_pos.2 c)
      have c3 : x < 9223372036854775808 := by
        rcases Nat.lt_or_ge x 9223372036854775808 with h | h
        · exact h
        · rw [ix_neg (by omega)] at c; omega
      rw [if_neg (by omega), if_pos c3]
      rw [ix_pos c3] at *
      rw [wrap_u64 (by omega) (by omega)] at this
      have e : ((x : Int) + 1).toNat = x + 1 := by omega
      rw [e] at this
      exact this
  · rcases read_inf h hf with ⟨rfl, e⟩ | ⟨rfl, e⟩
    · exact up_infR
    · exact up_ninfR
theorem down_nanR : Runs Try.prog 62 #[.float .f64 (nanW .f64)] #[] (.float .f64 nanN) #[] := callD_runs (d := 12) (by kernel_rfl)
theorem up_nanR : Runs Try.prog 63 #[.float .f64 (nanW .f64)] #[] (.float .f64 nanN) #[] := callD_runs (d := 12) (by kernel_rfl)
theorem down_anyR {x : Nat} (h : NaNor x) : ∃ y, Runs Try.prog 62 #[.float .f64 x] #[] (.float .f64 y) #[] ∧ ((NN x ∧ y = dn x) ∨ (y = nanN)) := by
  rcases h with h | h
  · exact ⟨_, down_runsR h, .inl ⟨h, rfl⟩⟩
  · subst h; exact ⟨_, down_nanR, .inr rfl⟩
theorem up_anyR {x : Nat} (h : NaNor x) : ∃ y, Runs Try.prog 63 #[.float .f64 x] #[] (.float .f64 y) #[] ∧ ((NN x ∧ y = up x) ∨ (y = nanN)) := by
  rcases h with h | h
  · exact ⟨_, up_runsR h, .inl ⟨h, rfl⟩⟩
  · subst h; exact ⟨_, up_nanR, .inr rfl⟩

end Go.Proofs.Ythajhpilfbijdaa
