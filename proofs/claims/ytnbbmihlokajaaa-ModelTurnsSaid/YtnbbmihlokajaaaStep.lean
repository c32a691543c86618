/- The float below and the float above, of any that is no NaN: one rung further, but for the infinities. -/
import Derived.Test.YtnbbmihlokajaaaNext
import Derived.Test.YtnbbmihlokajaaaReal
namespace Go.Proofs.Ytnbbmihlokajaaa
open Go
set_option linter.unusedVariables false
set_option maxRecDepth 100000

theorem fi_key {x : Nat} (h : Fi x) : Fin x ∧ key x = kv x := by
  obtain ⟨s, m, e, h1, h2, h3⟩ := read_fi h
  refine ⟨⟨s, m, e, h1⟩, ?_⟩
  unfold key
  rw [h1]
  exact h3

/-- The float below. -/
def dn (b : Nat) : Nat := if ix b = -9218868437227405312 then b else if ix b = 0 then 9223372036854775809 else if b < 9223372036854775808 then b - 1 else b + 1
/-- The float above. -/
def up (b : Nat) : Nat := if ix b = 9218868437227405312 then b else if ix b = 0 then 1 else if b < 9223372036854775808 then b + 1 else b - 1

theorem ix_pos {b : Nat} (h : b < 9223372036854775808) : ix b = (b : Int) := by unfold ix; rw [if_pos h]
theorem ix_neg {b : Nat} (h : ¬ b < 9223372036854775808) : ix b = -((b : Int) - 9223372036854775808) := by unfold ix; rw [if_neg h]; omega

theorem dn_ix {b : Nat} (h : NN b) : NN (dn b) ∧ ix (dn b) = if ix b = -9218868437227405312 then -9218868437227405312 else ix b - 1 := by
  have goal : dn b < 18446744073709551616 ∧ ix (dn b) = if ix b = -9218868437227405312 then -9218868437227405312 else ix b - 1 := by
    obtain ⟨h1, h2, h3⟩ := h
    unfold dn
    by_cases c1 : ix b = -9218868437227405312
    · rw [if_pos c1, if_pos c1]; exact ⟨h1, c1⟩
    · rw [if_neg c1, if_neg c1]
      by_cases c2 : ix b = 0
      · rw [if_pos c2, c2]; exact ⟨by decide, by decide⟩
      · rw [if_neg c2]
        by_cases c3 : b < 9223372036854775808
        · rw [if_pos c3]
          rw [ix_pos c3] at *
          rw [ix_pos (by omega)]
          omega
        · rw [if_neg c3]
          rw [ix_neg c3] at *
          rw [ix_neg (by omega)]
          omega
  refine ⟨⟨goal.1, ?_, ?_⟩, goal.2⟩ <;> rw [goal.2] <;> have := h.2.1 <;> have := h.2.2 <;> split <;> omega

theorem up_ix {b : Nat} (h : NN b) : NN (up b) ∧ ix (up b) = if ix b = 9218868437227405312 then 9218868437227405312 else ix b + 1 := by
  have goal : up b < 18446744073709551616 ∧ ix (up b) = if ix b = 9218868437227405312 then 9218868437227405312 else ix b + 1 := by
    obtain ⟨h1, h2, h3⟩ := h
    unfold up
    by_cases c1 : ix b = 9218868437227405312
    · rw [if_pos c1, if_pos c1]; exact ⟨h1, c1⟩
    · rw [if_neg c1, if_neg c1]
      by_cases c2 : ix b = 0
      · rw [if_pos c2, c2]; exact ⟨by decide, by decide⟩
      · rw [if_neg c2]
        by_cases c3 : b < 9223372036854775808
        · rw [if_pos c3]
          rw [ix_pos c3] at *
          rw [ix_pos (by omega)]
          omega
        · rw [if_neg c3]
          rw [ix_neg c3] at *
          rw [ix_neg (by omega)]
          omega
  refine ⟨⟨goal.1, ?_, ?_⟩, goal.2⟩ <;> rw [goal.2] <;> have := h.2.1 <;> have := h.2.2 <;> split <;> omega

theorem kv_pos {x : Nat} : 0 < kv x ↔ 0 < ix x := by
  unfold kv
  rw [show (0 : Int) = rk 0 from rfl, rk_lt_iff]
  exact Iff.rfl
theorem kv_neg {x : Nat} : kv x < 0 ↔ ix x < 0 := by
  unfold kv
  rw [show (0 : Int) = rk 0 from rfl, rk_lt_iff]
  exact Iff.rfl

theorem down_inf : Runs Try.prog 91 #[.float .f64 9218868437227405312] #[] (.float .f64 9218868437227405311) #[] := callD_runs (d := 12) (by kernel_rfl)
theorem down_ninf : Runs Try.prog 91 #[.float .f64 18442240474082181120] #[] (.float .f64 18442240474082181120) #[] := callD_runs (d := 12) (by kernel_rfl)
theorem up_inf : Runs Try.prog 92 #[.float .f64 9218868437227405312] #[] (.float .f64 9218868437227405312) #[] := callD_runs (d := 12) (by kernel_rfl)
theorem up_ninf : Runs Try.prog 92 #[.float .f64 18442240474082181120] #[] (.float .f64 18442240474082181119) #[] := callD_runs (d := 12) (by kernel_rfl)

theorem down_runs {x : Nat} (h : NN x) : Runs Try.prog 91 #[.float .f64 x] #[] (.float .f64 (dn x)) #[] := by
  by_cases hf : Fi x
  · obtain ⟨k1, k2⟩ := fi_key hf
    obtain ⟨h1, h2, h3⟩ := hf
    unfold dn
    rw [if_neg (by omega)]
    rcases Int.lt_trichotomy (ix x) 0 with c | c | c
    · have := down_neg k1 (by rw [k2]; exact kv_neg.2 c)
      have c3 : ¬ x < 9223372036854775808 := fun h => by rw [ix_pos h] at c; omega
      rw [if_neg (by omega), if_neg c3]
      rw [ix_neg c3] at *
      rw [wrap_u64 (by omega) (by omega)] at this
      have e : ((x : Int) + 1).toNat = x + 1 := by omega
      rw [e] at this
      exact this
    · rw [if_pos c]
      exact down_zero k1 (by rw [k2]; unfold kv; rw [c]; rfl)
    · have := down_pos k1 (by rw [k2]; exact kv_pos.2 c)
      have c3 : x < 9223372036854775808 := by
        rcases Nat.lt_or_ge x 9223372036854775808 with h | h
        · exact h
        · rw [ix_neg (by omega)] at c; omega
      rw [if_neg (by omega), if_pos c3]
      rw [ix_pos c3] at *
      rw [wrap_u64 (by omega) (by omega)] at this
      have e : ((x : Int) - 1).toNat = x - 1 := by omega
      rw [e] at this
      exact this
  · rcases read_inf h hf with ⟨rfl, e⟩ | ⟨rfl, e⟩
    · exact down_inf
    · exact down_ninf

theorem up_runs {x : Nat} (h : NN x) : Runs Try.prog 92 #[.float .f64 x] #[] (.float .f64 (up x)) #[] := by
  by_cases hf : Fi x
  · obtain ⟨k1, k2⟩ := fi_key hf
    obtain ⟨h1, h2, h3⟩ := hf
    unfold up
    rw [if_neg (by omega)]
    rcases Int.lt_trichotomy (ix x) 0 with c | c | c
    · have := up_neg k1 (by rw [k2]; exact kv_neg.2 c)
      have c3 : ¬ x < 9223372036854775808 := fun h => by rw [ix_pos h] at c; omega
      rw [if_neg (by omega), if_neg c3]
      rw [ix_neg c3] at *
      rw [wrap_u64 (by omega) (by omega)] at this
      have e : ((x : Int) - 1).toNat = x - 1 := by omega
      rw [e] at this
      exact this
    · rw [if_pos c]
      exact up_zero k1 (by rw [k2]; unfold kv; rw [c]; rfl)
    · have := up_pos k1 (by rw [k2]; exact kv_pos.2 c)
      have c3 : x < 9223372036854775808 := by
        rcases Nat.lt_or_ge x 9223372036854775808 with h | h
        · exact h
        · rw [ix_neg (by omega)] at c; omega
      rw [if_neg (by omega), if_pos c3]
      rw [ix_pos c3] at *
      rw [wrap_u64 (by omega) (by omega)] at this
      have e : ((x : Int) + 1).toNat = x + 1 := by omega
      rw [e] at this
      exact this
  · rcases read_inf h hf with ⟨rfl, e⟩ | ⟨rfl, e⟩
    · exact up_inf
    · exact up_ninf

end Go.Proofs.Ytnbbmihlokajaaa
