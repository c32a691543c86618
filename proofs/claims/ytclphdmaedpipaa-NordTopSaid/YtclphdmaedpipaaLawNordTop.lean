/- The law NordTop returns true, whatever the numbers. -/
import Derived.Test.YtclphdmaedpipaaNordTopQ1
import Derived.Test.YtclphdmaedpipaaNordTopQ2
import Derived.Test.YtclphdmaedpipaaNordTopQ3
import Derived.Test.YtclphdmaedpipaaNordTopQ4
import Derived.Test.YtclphdmaedpipaaNordTopQ5
import Derived.Test.YtclphdmaedpipaaNordMakeQ1
import Derived.Test.YtclphdmaedpipaaNordMakeQ2
import Derived.Test.YtclphdmaedpipaaNordMakeQ3
import Derived.Test.YtclphdmaedpipaaNordMakeQ4
import Derived.Test.YtclphdmaedpipaaNordMakeQ5
namespace Go.Proofs.Ytclphdmaedpipaa
open Go
set_option linter.unusedVariables false

theorem nordTop_tells (order : Int) (n : Int) (zs : List Int) : Tells 5 #[.int .i64 order, .int .i64 n, arg0 zs] (heap0 zs) (.bool true) := by
  have h1 := Int.emod_nonneg order (b := 5) (by decide)
  have h2 := Int.emod_lt_of_pos order (b := 5) (by decide)
  have h3 := Int.emod_nonneg n (b := 3) (by decide)
  have h4 := Int.emod_lt_of_pos n (b := 3) (by decide)
  have e5 : Int.ofNat (4 + 1) = 5 := rfl
  have e3 : Int.ofNat (2 + 1) = 3 := rfl
  have ho : order % Int.ofNat (4 + 1) = Int.ofNat (1 - 1) ∨ order % Int.ofNat (4 + 1) = Int.ofNat (2 - 1) ∨ order % Int.ofNat (4 + 1) = Int.ofNat (3 - 1) ∨ order % Int.ofNat (4 + 1) = Int.ofNat (4 - 1) ∨ order % Int.ofNat (4 + 1) = Int.ofNat (5 - 1) := by
    rw [e5]; simp; omega
  have hn : n % Int.ofNat (2 + 1) = Int.ofNat (1 - 1) ∨ n % Int.ofNat (2 + 1) = Int.ofNat (2 - 1) ∨ n % Int.ofNat (2 + 1) = Int.ofNat (3 - 1) := by
    rw [e3]; simp; omega
  rcases ho with ho | ho | ho | ho | ho <;> rcases hn with hn | hn | hn
  · exact top_at (q := 1) (k := 1) (by decide) (make_1_1 zs) (nordTop_1_1 zs) order n ho hn
  · exact top_at (q := 1) (k := 2) (by decide) (make_1_2 zs) (nordTop_1_2 zs) order n ho hn
  · exact top_at (q := 1) (k := 3) (by decide) (make_1_3 zs) (nordTop_1_3 zs) order n ho hn
  · exact top_at (q := 2) (k := 1) (by decide) (make_2_1 zs) (nordTop_2_1 zs) order n ho hn
  · exact top_at (q := 2) (k := 2) (by decide) (make_2_2 zs) (nordTop_2_2 zs) order n ho hn
  · exact top_at (q := 2) (k := 3) (by decide) (make_2_3 zs) (nordTop_2_3 zs) order n ho hn
  · exact top_at (q := 3) (k := 1) (by decide) (make_3_1 zs) (nordTop_3_1 zs) order n ho hn
  · exact top_at (q := 3) (k := 2) (by decide) (make_3_2 zs) (nordTop_3_2 zs) order n ho hn
  · exact top_at (q := 3) (k := 3) (by decide) (make_3_3 zs) (nordTop_3_3 zs) order n ho hn
  · exact top_at (q := 4) (k := 1) (by decide) (make_4_1 zs) (nordTop_4_1 zs) order n ho hn
  · exact top_at (q := 4) (k := 2) (by decide) (make_4_2 zs) (nordTop_4_2 zs) order n ho hn
  · exact top_at (q := 4) (k := 3) (by decide) (make_4_3 zs) (nordTop_4_3 zs) order n ho hn
  · exact top_at (q := 5) (k := 1) (by decide) (make_5_1 zs) (nordTop_5_1 zs) order n ho hn
  · exact top_at (q := 5) (k := 2) (by decide) (make_5_2 zs) (nordTop_5_2 zs) order n ho hn
  · exact top_at (q := 5) (k := 3) (by decide) (make_5_3 zs) (nordTop_5_3 zs) order n ho hn

end Go.Proofs.Ytclphdmaedpipaa
