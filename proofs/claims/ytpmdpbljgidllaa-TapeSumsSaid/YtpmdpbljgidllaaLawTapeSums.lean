/- The law TapeSums returns true, whatever the numbers. -/
import Derived.Test.YtpmdpbljgidllaaTapeSumsA
namespace Go.Proofs.Ytpmdpbljgidllaa
open Go
set_option linter.unusedVariables false
set_option maxRecDepth 100000

theorem sums_1 (n : Int) (hn : n % Int.ofNat (3 + 1) = Int.ofNat (1 - 1)) : ∀ zs : List Int, Tells 9 #[arg0 zs, .int .i64 n] (heap0 zs) (.bool true)
  | [] => sums_short (k := 1) [] (0) (by simp) (fun n => by kernel_rfl) n hn
  | [z0] => sums_short (k := 1) [] z0 (by simp) (fun n => by kernel_rfl) n hn
  | z0 :: z1 :: rest => sums_long (k := 1) [] z0 (by simp) (by simp) (fun n => by kernel_rfl) n hn

theorem sums_2 (n : Int) (hn : n % Int.ofNat (3 + 1) = Int.ofNat (2 - 1)) : ∀ zs : List Int, Tells 9 #[arg0 zs, .int .i64 n] (heap0 zs) (.bool true)
  | [] => sums_short (k := 2) [0] (1) (by simp) (fun n => by kernel_rfl) n hn
  | [z0] => sums_short (k := 2) [z0] (1) (by simp) (fun n => by kernel_rfl) n hn
  | [z0, z1] => sums_short (k := 2) [z0] z1 (by simp) (fun n => by kernel_rfl) n hn
  | z0 :: z1 :: z2 :: rest => sums_long (k := 2) [z0] z1 (by simp) (by simp) (fun n => by kernel_rfl) n hn

theorem sums_3 (n : Int) (hn : n % Int.ofNat (3 + 1) = Int.ofNat (3 - 1)) : ∀ zs : List Int, Tells 9 #[arg0 zs, .int .i64 n] (heap0 zs) (.bool true)
  | [] => sums_short (k := 3) [0, 1] (2) (by simp) (fun n => by kernel_rfl) n hn
  | [z0] => sums_short (k := 3) [z0, 1] (2) (by simp) (fun n => by kernel_rfl) n hn
  | [z0, z1] => sums_short (k := 3) [z0, z1] (2) (by simp) (fun n => by kernel_rfl) n hn
  | [z0, z1, z2] => sums_short (k := 3) [z0, z1] z2 (by simp) (fun n => by kernel_rfl) n hn
  | z0 :: z1 :: z2 :: z3 :: rest => sums_long (k := 3) [z0, z1] z2 (by simp) (by simp) (fun n => by kernel_rfl) n hn

theorem sums_4 (n : Int) (hn : n % Int.ofNat (3 + 1) = Int.ofNat (4 - 1)) : ∀ zs : List Int, Tells 9 #[arg0 zs, .int .i64 n] (heap0 zs) (.bool true)
  | [] => sums_short (k := 4) [0, 1, 2] (3) (by simp) (fun n => by kernel_rfl) n hn
  | [z0] => sums_short (k := 4) [z0, 1, 2] (3) (by simp) (fun n => by kernel_rfl) n hn
  | [z0, z1] => sums_short (k := 4) [z0, z1, 2] (3) (by simp) (fun n => by kernel_rfl) n hn
  | [z0, z1, z2] => sums_short (k := 4) [z0, z1, z2] (3) (by simp) (fun n => by kernel_rfl) n hn
  | [z0, z1, z2, z3] => sums_short (k := 4) [z0, z1, z2] z3 (by simp) (fun n => by kernel_rfl) n hn
  | z0 :: z1 :: z2 :: z3 :: z4 :: rest => sums_long (k := 4) [z0, z1, z2] z3 (by simp) (by simp) (fun n => by kernel_rfl) n hn

theorem tapeSums_tells (zs : List Int) (n : Int) : Tells 9 #[arg0 zs, .int .i64 n] (heap0 zs) (.bool true) := by
  have h1 := Int.emod_nonneg n (b := 4) (by decide)
  have h2 := Int.emod_lt_of_pos n (b := 4) (by decide)
  have e : Int.ofNat (3 + 1) = 4 := rfl
  have hn : n % Int.ofNat (3 + 1) = Int.ofNat (1 - 1) ∨ n % Int.ofNat (3 + 1) = Int.ofNat (2 - 1) ∨ n % Int.ofNat (3 + 1) = Int.ofNat (3 - 1) ∨ n % Int.ofNat (3 + 1) = Int.ofNat (4 - 1) := by
    rw [e]; simp; omega
  rcases hn with hn | hn | hn | hn
  · exact sums_1 n hn zs
  · exact sums_2 n hn zs
  · exact sums_3 n hn zs
  · exact sums_4 n hn zs

end Go.Proofs.Ytpmdpbljgidllaa
