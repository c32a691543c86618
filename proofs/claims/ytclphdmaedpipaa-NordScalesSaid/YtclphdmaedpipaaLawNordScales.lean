/- The law NordScales returns true, whatever the numbers. -/
import Derived.Test.YtclphdmaedpipaaNordScaleQ
import Derived.Test.YtclphdmaedpipaaNordMakeQ1
import Derived.Test.YtclphdmaedpipaaNordMakeQ2
import Derived.Test.YtclphdmaedpipaaNordMakeQ3
import Derived.Test.YtclphdmaedpipaaNordMakeQ4
import Derived.Test.YtclphdmaedpipaaNordMakeQ5
namespace Go.Proofs.Ytclphdmaedpipaa
open Go
set_option linter.unusedVariables false

theorem handed0 : ∀ zs : List Int, Handed (heap0 zs) zs (arg0 zs)
  | [] => .inl ⟨rfl, rfl⟩
  | z :: zs => .inr ⟨0, ⟨((z :: zs).map (Value.int .i64)).toArray, 3, 1, false⟩, by simp, rfl, rfl, rfl⟩
theorem nordScales_tells (order : Int) (n : Int) (zs : List Int) (kk s : Int) : Tells 7 #[.int .i64 order, .int .i64 n, arg0 zs, .int .i64 kk, .int .i64 s] (heap0 zs) (.bool true) := by
  have h1 := Int.emod_nonneg order (b := 5) (by decide)
  have h2 := Int.emod_lt_of_pos order (b := 5) (by decide)
  have h3 := Int.emod_nonneg n (b := 3) (by decide)
  have h4 := Int.emod_lt_of_pos n (b := 3) (by decide)
  have e5 : Int.ofNat (4 + 1) = 5 := rfl
  have e3 : Int.ofNat (2 + 1) = 3 := rfl
  have ho : order % Int.ofNat (4 + 1) = Int.ofNat (1 - 1) ∨ order % Int.ofNat (4 + 1) = Int.ofNat (2 - 1) ∨ order % Int.ofNat (4 + 1) = Int.ofNat (3 - 1) ∨ order % Int.ofNat (4 + 1) = Int.ofNat (4 - 1) ∨ order % Int.ofNat (4 + 1) = Int.ofNat (5 - 1) := by
    rw [e5]; simp; omega
  have hn : n % Int.ofNat (2 + 1) = Int.ofNat (1 - 1) ∨ n % Int.ofNat (2 + 1) = Int.ofNat (2 - 1) ∨ n % Int.ofNat (2 + 1) = Int.ofNat (3 - 1) := by
    rw [e3]; simp; omega
  rcases ho with ho | ho | ho | ho | ho <;> rcases hn with hn | hn | hn
  · exact scales_at (q := 1) (k := 1) (by decide) (by decide) kept_1_1 zrows_1_1 att_1_1 resc_1_1 tab_1_1 (make_1_1 zs) (handed0 zs) (scz_1_1 zs) order n kk s ho hn
  · exact scales_at (q := 1) (k := 2) (by decide) (by decide) kept_1_2 zrows_1_2 att_1_2 resc_1_2 tab_1_2 (make_1_2 zs) (handed0 zs) (scz_1_2 zs) order n kk s ho hn
  · exact scales_at (q := 1) (k := 3) (by decide) (by decide) kept_1_3 zrows_1_3 att_1_3 resc_1_3 tab_1_3 (make_1_3 zs) (handed0 zs) (scz_1_3 zs) order n kk s ho hn
  · exact scales_at (q := 2) (k := 1) (by decide) (by decide) kept_2_1 zrows_2_1 att_2_1 resc_2_1 tab_2_1 (make_2_1 zs) (handed0 zs) (scz_2_1 zs) order n kk s ho hn
  · exact scales_at (q := 2) (k := 2) (by decide) (by decide) kept_2_2 zrows_2_2 att_2_2 resc_2_2 tab_2_2 (make_2_2 zs) (handed0 zs) (scz_2_2 zs) order n kk s ho hn
  · exact scales_at (q := 2) (k := 3) (by decide) (by decide) kept_2_3 zrows_2_3 att_2_3 resc_2_3 tab_2_3 (make_2_3 zs) (handed0 zs) (scz_2_3 zs) order n kk s ho hn
  · exact scales_at (q := 3) (k := 1) (by decide) (by decide) kept_3_1 zrows_3_1 att_3_1 resc_3_1 tab_3_1 (make_3_1 zs) (handed0 zs) (scz_3_1 zs) order n kk s ho hn
  · exact scales_at (q := 3) (k := 2) (by decide) (by decide) kept_3_2 zrows_3_2 att_3_2 resc_3_2 tab_3_2 (make_3_2 zs) (handed0 zs) (scz_3_2 zs) order n kk s ho hn
  · exact scales_at (q := 3) (k := 3) (by decide) (by decide) kept_3_3 zrows_3_3 att_3_3 resc_3_3 tab_3_3 (make_3_3 zs) (handed0 zs) (scz_3_3 zs) order n kk s ho hn
  · exact scales_at (q := 4) (k := 1) (by decide) (by decide) kept_4_1 zrows_4_1 att_4_1 resc_4_1 tab_4_1 (make_4_1 zs) (handed0 zs) (scz_4_1 zs) order n kk s ho hn
  · exact scales_at (q := 4) (k := 2) (by decide) (by decide) kept_4_2 zrows_4_2 att_4_2 resc_4_2 tab_4_2 (make_4_2 zs) (handed0 zs) (scz_4_2 zs) order n kk s ho hn
  · exact scales_at (q := 4) (k := 3) (by decide) (by decide) kept_4_3 zrows_4_3 att_4_3 resc_4_3 tab_4_3 (make_4_3 zs) (handed0 zs) (scz_4_3 zs) order n kk s ho hn
  · exact scales_at (q := 5) (k := 1) (by decide) (by decide) kept_5_1 zrows_5_1 att_5_1 resc_5_1 tab_5_1 (make_5_1 zs) (handed0 zs) (scz_5_1 zs) order n kk s ho hn
  · exact scales_at (q := 5) (k := 2) (by decide) (by decide) kept_5_2 zrows_5_2 att_5_2 resc_5_2 tab_5_2 (make_5_2 zs) (handed0 zs) (scz_5_2 zs) order n kk s ho hn
  · exact scales_at (q := 5) (k := 3) (by decide) (by decide) kept_5_3 zrows_5_3 att_5_3 resc_5_3 tab_5_3 (make_5_3 zs) (handed0 zs) (scz_5_3 zs) order n kk s ho hn

end Go.Proofs.Ytclphdmaedpipaa
