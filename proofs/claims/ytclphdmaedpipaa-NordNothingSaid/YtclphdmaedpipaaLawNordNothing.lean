/- The law NordNothing returns true, whatever the numbers. -/
import Derived.Test.YtclphdmaedpipaaNordZeroA23
import Derived.Test.YtclphdmaedpipaaNordZeroB23
import Derived.Test.YtclphdmaedpipaaNordZeroA33
import Derived.Test.YtclphdmaedpipaaNordZeroB33
import Derived.Test.YtclphdmaedpipaaNordZeroA42
import Derived.Test.YtclphdmaedpipaaNordZeroB42
import Derived.Test.YtclphdmaedpipaaNordZeroA43T
import Derived.Test.YtclphdmaedpipaaNordZeroA43F
import Derived.Test.YtclphdmaedpipaaNordZeroB43T
import Derived.Test.YtclphdmaedpipaaNordZeroB43F
import Derived.Test.YtclphdmaedpipaaNordZeroA52
import Derived.Test.YtclphdmaedpipaaNordZeroB52
import Derived.Test.YtclphdmaedpipaaNordZeroA53T
import Derived.Test.YtclphdmaedpipaaNordZeroA53F
import Derived.Test.YtclphdmaedpipaaNordZeroB53T
import Derived.Test.YtclphdmaedpipaaNordZeroB53F
import Derived.Test.YtclphdmaedpipaaNordZeroS1
import Derived.Test.YtclphdmaedpipaaNordZeroS2
import Derived.Test.YtclphdmaedpipaaNordMakeQ1
import Derived.Test.YtclphdmaedpipaaNordMakeQ2
import Derived.Test.YtclphdmaedpipaaNordMakeQ3
import Derived.Test.YtclphdmaedpipaaNordMakeQ4
import Derived.Test.YtclphdmaedpipaaNordMakeQ5
namespace Go.Proofs.Ytclphdmaedpipaa
open Go
set_option linter.unusedVariables false

theorem nordNothing_2_3 : ∀ zs : List Int, ZeroRun 2 3 zs
  | [] => zero_2_3_a
  | z :: zs => zero_2_3_b z zs
theorem nordNothing_3_3 : ∀ zs : List Int, ZeroRun 3 3 zs
  | [] => zero_3_3_a
  | z :: zs => zero_3_3_b z zs
theorem nordNothing_4_2 : ∀ zs : List Int, ZeroRun 4 2 zs
  | [] => zero_4_2_a
  | z :: zs => zero_4_2_b z zs
theorem zero_4_3_a : ZeroRun 4 3 [] := fun order n s g b => by
  cases b
  · exact zero_4_3_a_false order n s g
  · exact zero_4_3_a_true order n s g
theorem zero_4_3_b (z : Int) (zs : List Int) : ZeroRun 4 3 (z :: zs) := fun order n s g b => by
  cases b
  · exact zero_4_3_b_false z zs order n s g
  · exact zero_4_3_b_true z zs order n s g
theorem nordNothing_4_3 : ∀ zs : List Int, ZeroRun 4 3 zs
  | [] => zero_4_3_a
  | z :: zs => zero_4_3_b z zs
theorem nordNothing_5_2 : ∀ zs : List Int, ZeroRun 5 2 zs
  | [] => zero_5_2_a
  | z :: zs => zero_5_2_b z zs
theorem zero_5_3_a : ZeroRun 5 3 [] := fun order n s g b => by
  cases b
  · exact zero_5_3_a_false order n s g
  · exact zero_5_3_a_true order n s g
theorem zero_5_3_b (z : Int) (zs : List Int) : ZeroRun 5 3 (z :: zs) := fun order n s g b => by
  cases b
  · exact zero_5_3_b_false z zs order n s g
  · exact zero_5_3_b_true z zs order n s g
theorem nordNothing_5_3 : ∀ zs : List Int, ZeroRun 5 3 zs
  | [] => zero_5_3_a
  | z :: zs => zero_5_3_b z zs

theorem nordNothing_tells (order n : Int) (zs : List Int) (s : Nat) : Tells 10 #[.int .i64 order, .int .i64 n, arg0 zs, .float .f64 s] (heap0 zs) (.bool true) := by
  have h1 := Int.emod_nonneg order (b := 5) (by decide)
  have h2 := Int.emod_lt_of_pos order (b := 5) (by decide)
  have h3 := Int.emod_nonneg n (b := 3) (by decide)
  have h4 := Int.emod_lt_of_pos n (b := 3) (by decide)
  have e5 : Int.ofNat (4 + 1) = 5 := rfl
  have e3 : Int.ofNat (2 + 1) = 3 := rfl
  have ho : order % Int.ofNat (4 + 1) = Int.ofNat (1 - 1) ∨ order % Int.ofNat (4 + 1) = Int.ofNat (2 - 1) ∨ order % Int.ofNat (4 + 1) = Int.ofNat (3 - 1) ∨ order % Int.ofNat (4 + 1) = Int.ofNat (4 - 1) ∨ order % Int.ofNat (4 + 1) = Int.ofNat (5 - 1) := by
    rw [e5]; simp; omega
  have hn : n % Int.ofNat (2 + 1) = Int.ofNat (1 - 1) ∨ n % Int.ofNat (2 + 1) = Int.ofNat (2 - 1) ∨ n % Int.ofNat (2 + 1) = Int.ofNat (3 - 1) := by
    rw [e3]; simp; omega
  rcases ho with ho | ho | ho | ho | ho <;> rcases hn with hn | hn | hn
  · exact zero_at (q := 1) (k := 1) (by decide) (make_1_1 zs) (nordNothing_1_1 zs) order n s ho hn
  · exact zero_at (q := 1) (k := 2) (by decide) (make_1_2 zs) (nordNothing_1_2 zs) order n s ho hn
  · exact zero_at (q := 1) (k := 3) (by decide) (make_1_3 zs) (nordNothing_1_3 zs) order n s ho hn
  · exact zero_at (q := 2) (k := 1) (by decide) (make_2_1 zs) (nordNothing_2_1 zs) order n s ho hn
  · exact zero_at (q := 2) (k := 2) (by decide) (make_2_2 zs) (nordNothing_2_2 zs) order n s ho hn
  · exact zero_at (q := 2) (k := 3) (by decide) (make_2_3 zs) (nordNothing_2_3 zs) order n s ho hn
  · exact zero_at (q := 3) (k := 1) (by decide) (make_3_1 zs) (nordNothing_3_1 zs) order n s ho hn
  · exact zero_at (q := 3) (k := 2) (by decide) (make_3_2 zs) (nordNothing_3_2 zs) order n s ho hn
  · exact zero_at (q := 3) (k := 3) (by decide) (make_3_3 zs) (nordNothing_3_3 zs) order n s ho hn
  · exact zero_at (q := 4) (k := 1) (by decide) (make_4_1 zs) (nordNothing_4_1 zs) order n s ho hn
  · exact zero_at (q := 4) (k := 2) (by decide) (make_4_2 zs) (nordNothing_4_2 zs) order n s ho hn
  · exact zero_at (q := 4) (k := 3) (by decide) (make_4_3 zs) (nordNothing_4_3 zs) order n s ho hn
  · exact zero_at (q := 5) (k := 1) (by decide) (make_5_1 zs) (nordNothing_5_1 zs) order n s ho hn
  · exact zero_at (q := 5) (k := 2) (by decide) (make_5_2 zs) (nordNothing_5_2 zs) order n s ho hn
  · exact zero_at (q := 5) (k := 3) (by decide) (make_5_3 zs) (nordNothing_5_3 zs) order n s ho hn

end Go.Proofs.Ytclphdmaedpipaa
