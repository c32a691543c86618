/- From-tos of whole numbers: what their sums, differences, products and quotients hold. -/
import Derived.Test.YthajhpilfbijdaaIvSpan
import Derived.Test.YthajhpilfbijdaaBound
namespace Go.Proofs.Ythajhpilfbijdaa
open Go
set_option linter.unusedVariables false
set_option linter.unusedSimpArgs false
set_option maxRecDepth 100000

/-- The sum of two of whole numbers holds what is between. -/
theorem add_z {x v y w : Int} (hx : x.natAbs < 9007199254740992) (hv : v.natAbs < 9007199254740992) (hy : y.natAbs < 9007199254740992) (hw : w.natAbs < 9007199254740992) (h1 : x ≤ v) (h2 : y ≤ w) :
    ∃ A B, Runs Try.prog 19 #[ivV (F x) (F v), ivV (F y) (F w)] #[] (ivV A B) #[] ∧ ∀ n, x + y ≤ n → n ≤ v + w → Runs Try.prog 18 #[.float .f64 (F n), ivV A B] #[] (.bool true) #[] := by
  obtain ⟨a1, a2⟩ := F_add hx hy
  obtain ⟨b1, b2⟩ := F_add hv hw
  have hle := F_le (n := x + y) (m := v + w) (by omega)
  refine ⟨_, _, add_at a1 b1 (by omega), fun n h3 h4 => ?_⟩
  have l1 := F_le h3
  have l2 := F_le h4
  obtain ⟨d1, d2⟩ := dn_ix a1
  obtain ⟨u1, u2⟩ := up_ix b1
  have := (F_nn n).2
  refine in_yes (F_nn n) d1 u1 ?_ ?_
  · rw [d2]; split <;> omega
  · rw [u2]; split <;> omega
theorem sub_z {x v y w : Int} (hx : x.natAbs < 9007199254740992) (hv : v.natAbs < 9007199254740992) (hy : y.natAbs < 9007199254740992) (hw : w.natAbs < 9007199254740992) (h1 : x ≤ v) (h2 : y ≤ w) :
    ∃ A B, Runs Try.prog 20 #[ivV (F x) (F v), ivV (F y) (F w)] #[] (ivV A B) #[] ∧ ∀ n, x - w ≤ n → n ≤ v - y → Runs Try.prog 18 #[.float .f64 (F n), ivV A B] #[] (.bool true) #[] := by
  obtain ⟨a1, a2⟩ := F_sub hx hw
  obtain ⟨b1, b2⟩ := F_sub hv hy
  have hle := F_le (n := x - w) (m := v - y) (by omega)
  refine ⟨_, _, sub_at a1 b1 (by omega), fun n h3 h4 => ?_⟩
  have l1 := F_le h3
  have l2 := F_le h4
  obtain ⟨d1, d2⟩ := dn_ix a1
  obtain ⟨u1, u2⟩ := up_ix b1
  have := (F_nn n).2
  refine in_yes (F_nn n) d1 u1 ?_ ?_
  · rw [d2]; split <;> omega
  · rw [u2]; split <;> omega

/-- What a span holds. -/
theorem span_in {a b c d lo hi x : Nat} (he : Ends a b c d lo hi) (hx : NN x) (h1 : ix a ≤ ix x ∨ ix b ≤ ix x ∨ ix c ≤ ix x ∨ ix d ≤ ix x) (h2 : ix x ≤ ix a ∨ ix x ≤ ix b ∨ ix x ≤ ix c ∨ ix x ≤ ix d) :
    Runs Try.prog 18 #[.float .f64 x, ivV (dn lo) (up hi)] #[] (.bool true) #[] := by
  obtain ⟨d1, d2⟩ := dn_ix he.nlo
  obtain ⟨u1, u2⟩ := up_ix he.nhi
  have := hx.2
  have := he.lo_a; have := he.lo_b; have := he.lo_c; have := he.lo_d
  have := he.hi_a; have := he.hi_b; have := he.hi_c; have := he.hi_d
  refine in_yes hx d1 u1 ?_ ?_
  · rw [d2]; split <;> omega
  · rw [u2]; split <;> omega

/-- A product of two numbers is between two of the products of the ends. -/
theorem mul_ends {x v y w s t : Int} (h1 : x ≤ s) (h2 : s ≤ v) (h3 : y ≤ t) (h4 : t ≤ w) :
    (x * y ≤ s * t ∨ x * w ≤ s * t ∨ v * y ≤ s * t ∨ v * w ≤ s * t) ∧ (s * t ≤ x * y ∨ s * t ≤ x * w ∨ s * t ≤ v * y ∨ s * t ≤ v * w) := by
  -- first move s, then t
  have m : ∀ {a b c : Int}, a ≤ b → 0 ≤ c → a * c ≤ b * c := fun h hc => Int.mul_le_mul_of_nonneg_right h hc
  have n : ∀ {a b c : Int}, a ≤ b → c ≤ 0 → b * c ≤ a * c := fun h hc => Int.mul_le_mul_of_nonpos_right h hc
  have m' : ∀ {a b c : Int}, a ≤ b → 0 ≤ c → c * a ≤ c * b := fun h hc => Int.mul_le_mul_of_nonneg_left h hc
  have n' : ∀ {a b c : Int}, a ≤ b → c ≤ 0 → c * b ≤ c * a := fun h hc => Int.mul_le_mul_of_nonpos_left hc h
  rcases Int.le_total 0 t with ht | ht
  · have p1 := m h1 ht
    have p2 := m h2 ht
    refine ⟨?_, ?_⟩
    · rcases Int.le_total 0 x with hx | hx
      · have := m' h3 hx; omega
      · have := n' h4 hx; omega
    · rcases Int.le_total 0 v with hx | hx
      · have := m' h4 hx; omega
      · have := n' h3 hx; omega
  · have p1 := n h1 ht
    have p2 := n h2 ht
    refine ⟨?_, ?_⟩
    · rcases Int.le_total 0 v with hx | hx
      · have := m' h3 hx; omega
      · have := n' h4 hx; omega
    · rcases Int.le_total 0 x with hx | hx
      · have := m' h4 hx; omega
      · have := n' h3 hx; omega

theorem mul_z {x v y w : Int} (hx : x.natAbs < 9007199254740992) (hv : v.natAbs < 9007199254740992) (hy : y.natAbs < 9007199254740992) (hw : w.natAbs < 9007199254740992) :
    ∃ A B, Runs Try.prog 21 #[ivV (F x) (F v), ivV (F y) (F w)] #[] (ivV A B) #[] ∧ ∀ s t, x ≤ s → s ≤ v → y ≤ t → t ≤ w → Runs Try.prog 18 #[.float .f64 (F (s * t)), ivV A B] #[] (.bool true) #[] := by
  obtain ⟨a1, a2⟩ := F_mul hx hy
  obtain ⟨b1, b2⟩ := F_mul hx hw
  obtain ⟨c1, c2⟩ := F_mul hv hy
  obtain ⟨d1, d2⟩ := F_mul hv hw
  obtain ⟨lo, hi, he, hr⟩ := span_runs a1 b1 c1 d1
  refine ⟨_, _, mul_runs hr, fun s t h1 h2 h3 h4 => ?_⟩
  obtain ⟨m1, m2⟩ := mul_ends h1 h2 h3 h4
  refine span_in he (F_nn _) ?_ ?_
  · rw [a2, b2, c2, d2]
    rcases m1 with h | h | h | h <;> have := F_le h <;> omega
  · rw [a2, b2, c2, d2]
    rcases m2 with h | h | h | h <;> have := F_le h <;> omega

theorem div_z {x v t : Int} (hx : (x * t).natAbs < 9007199254740992) (hv : (v * t).natAbs < 9007199254740992) (ht : t.natAbs < 9007199254740992) (h0 : t ≠ 0) :
    ∃ A B, Runs Try.prog 22 #[ivV (F (x * t)) (F (v * t)), ivV (F t) (F t)] #[] (ivV A B) #[] ∧ ∀ s, (x ≤ s ∧ s ≤ v) ∨ (v ≤ s ∧ s ≤ x) → Runs Try.prog 18 #[.float .f64 (F s), ivV A B] #[] (.bool true) #[] := by
  obtain ⟨a1, a2⟩ := F_quo hx ht h0
  obtain ⟨b1, b2⟩ := F_quo hv ht h0
  obtain ⟨lo, hi, he, hr⟩ := span_runs a1 a1 b1 b1
  have hin : Runs Try.prog 18 #[.float .f64 0, ivV (F t) (F t)] #[] (.bool false) #[] := by
    refine in_no nn_zero.1 (F_nn _) (F_nn _) ?_
    rw [nn_zero.2]
    rcases Int.lt_or_lt_of_ne h0 with h | h
    · exact .inr (F_neg ht h)
    · exact .inl (F_pos ht h)
  refine ⟨_, _, div_runs hin hr, fun s h => ?_⟩
  refine span_in he (F_nn _) ?_ ?_
  · rw [a2, b2]
    rcases h with ⟨h1, h2⟩ | ⟨h1, h2⟩ <;> have := F_le h1 <;> omega
  · rw [a2, b2]
    rcases h with ⟨h1, h2⟩ | ⟨h1, h2⟩ <;> have := F_le h2 <;> omega

theorem cmp_eql (x y : Int) : cmpV Try.prog .eql 3 (.int .i64 x) (.int .i64 y) = some (decide (x = y)) := by kernel_rfl

def W (n : Int) : Int := IntKind.i64.wrap n
theorem W_id {x : Int} (h1 : -9223372036854775808 ≤ x) (h2 : x < 9223372036854775808) : W x = x := wrap_id h1 h2
noncomputable def ivO (f : FuncId) (a b c e A B : Nat) : Obl := .run f #[ivV a b, ivV c e] #[] (ivV A B) #[]
noncomputable def inO (n : Int) (A B : Nat) : Obl := .run 18 #[.float .f64 (F n), ivV A B] #[] (.bool true) #[]

theorem okAll_append {P : Program} : ∀ {l m : List Obl}, okAll P l → okAll P m → okAll P (l ++ m)
  | [], _, _, h => h
  | _ :: _, _, h, g => ⟨h.1, okAll_append h.2 g⟩

theorem small_mul {a b : Int} (ha : a.natAbs ≤ 2000) (hb : b.natAbs ≤ 2000) : (a * b).natAbs ≤ 4000000 := by
  rw [Int.natAbs_mul]
  exact Nat.mul_le_mul ha hb

end Go.Proofs.Ythajhpilfbijdaa
