/- The law ModelHolds: some of its ways. -/
import Derived.Test.YtnbbmihlokajaaaHolds
namespace Go.Proofs.Ytnbbmihlokajaaa
open Go
set_option linter.unusedVariables false
set_option linter.unusedSimpArgs false
set_option maxRecDepth 100000
theorem ho0_a0 : ∀ (c0 d0 f0 g0 : Value) (c d f g : List Value), HoRun #[] 0 (c0 :: c) (d0 :: d) (f0 :: f) (g0 :: g) := fun c0 d0 f0 g0 c d f g va vb n rest A D B1 B2 B3 R1 R2 x y t => by kernel_rfl
theorem ho0_b0 : ∀ (c0 f0 : Value) (c f : List Value), HoRun #[] 0 (c0 :: c) [] (f0 :: f) [] := fun c0 f0 c f va vb n rest A D B1 B2 B3 R1 R2 x y t => by kernel_rfl
theorem ho0_c0 : ∀ (d0 g0 : Value) (d g : List Value), HoRun #[] 0 [] (d0 :: d) [] (g0 :: g) := fun d0 g0 d g va vb n rest A D B1 B2 B3 R1 R2 x y t => by kernel_rfl
theorem ho0_d0 : HoRun #[] 0 [] [] [] [] := fun va vb n rest A D B1 B2 B3 R1 R2 x y t => by kernel_rfl
theorem ho0_a1 : ∀ (c0 d0 f0 g0 : Value) (c d f g : List Value), HoRun #[] 1 (c0 :: c) (d0 :: d) (f0 :: f) (g0 :: g) := fun c0 d0 f0 g0 c d f g va vb n rest A D B1 B2 B3 R1 R2 x y t => by kernel_rfl
theorem ho0_b1 : ∀ (c0 f0 : Value) (c f : List Value), HoRun #[] 1 (c0 :: c) [] (f0 :: f) [] := fun c0 f0 c f va vb n rest A D B1 B2 B3 R1 R2 x y t => by kernel_rfl
theorem ho0_c1 : ∀ (d0 g0 : Value) (d g : List Value), HoRun #[] 1 [] (d0 :: d) [] (g0 :: g) := fun d0 g0 d g va vb n rest A D B1 B2 B3 R1 R2 x y t => by kernel_rfl
theorem ho0_d1 : HoRun #[] 1 [] [] [] [] := fun va vb n rest A D B1 B2 B3 R1 R2 x y t => by kernel_rfl
theorem ho0_a2 : ∀ (c0 d0 f0 g0 : Value) (c d f g : List Value), HoRun #[] 2 (c0 :: c) (d0 :: d) (f0 :: f) (g0 :: g) := fun c0 d0 f0 g0 c d f g va vb n rest A D B1 B2 B3 R1 R2 x y t => by kernel_rfl
theorem ho0_b2 : ∀ (c0 f0 : Value) (c f : List Value), HoRun #[] 2 (c0 :: c) [] (f0 :: f) [] := fun c0 f0 c f va vb n rest A D B1 B2 B3 R1 R2 x y t => by kernel_rfl
theorem ho0_c2 : ∀ (d0 g0 : Value) (d g : List Value), HoRun #[] 2 [] (d0 :: d) [] (g0 :: g) := fun d0 g0 d g va vb n rest A D B1 B2 B3 R1 R2 x y t => by kernel_rfl
theorem ho0_d2 : HoRun #[] 2 [] [] [] [] := fun va vb n rest A D B1 B2 B3 R1 R2 x y t => by kernel_rfl
theorem ho0_a3 : ∀ (c0 d0 f0 g0 : Value) (c d f g : List Value), HoRun #[] 3 (c0 :: c) (d0 :: d) (f0 :: f) (g0 :: g) := fun c0 d0 f0 g0 c d f g va vb n rest A D B1 B2 B3 R1 R2 x y t => by kernel_rfl
theorem ho0_b3 : ∀ (c0 f0 : Value) (c f : List Value), HoRun #[] 3 (c0 :: c) [] (f0 :: f) [] := fun c0 f0 c f va vb n rest A D B1 B2 B3 R1 R2 x y t => by kernel_rfl
theorem ho0_c3 : ∀ (d0 g0 : Value) (d g : List Value), HoRun #[] 3 [] (d0 :: d) [] (g0 :: g) := fun d0 g0 d g va vb n rest A D B1 B2 B3 R1 R2 x y t => by kernel_rfl
theorem ho0_d3 : HoRun #[] 3 [] [] [] [] := fun va vb n rest A D B1 B2 B3 R1 R2 x y t => by kernel_rfl
theorem ho0_a4 : ∀ (c0 d0 f0 g0 : Value) (c d f g : List Value), HoRun #[] 4 (c0 :: c) (d0 :: d) (f0 :: f) (g0 :: g) := fun c0 d0 f0 g0 c d f g va vb n rest A D B1 B2 B3 R1 R2 x y t => by kernel_rfl
theorem ho0_b4 : ∀ (c0 f0 : Value) (c f : List Value), HoRun #[] 4 (c0 :: c) [] (f0 :: f) [] := fun c0 f0 c f va vb n rest A D B1 B2 B3 R1 R2 x y t => by kernel_rfl
theorem ho0_c4 : ∀ (d0 g0 : Value) (d g : List Value), HoRun #[] 4 [] (d0 :: d) [] (g0 :: g) := fun d0 g0 d g va vb n rest A D B1 B2 B3 R1 R2 x y t => by kernel_rfl
theorem ho0_d4 : HoRun #[] 4 [] [] [] [] := fun va vb n rest A D B1 B2 B3 R1 R2 x y t => by kernel_rfl
theorem ho0 : HoRuns #[] := fun k hk => by
  have : k = 0 ∨ k = 1 ∨ k = 2 ∨ k = 3 ∨ k = 4 := by omega
  rcases this with rfl | rfl | rfl | rfl | rfl
  · exact ⟨ho0_a0 , ho0_b0 , ho0_c0 , ho0_d0 ⟩
  · exact ⟨ho0_a1 , ho0_b1 , ho0_c1 , ho0_d1 ⟩
  · exact ⟨ho0_a2 , ho0_b2 , ho0_c2 , ho0_d2 ⟩
  · exact ⟨ho0_a3 , ho0_b3 , ho0_c3 , ho0_d3 ⟩
  · exact ⟨ho0_a4 , ho0_b4 , ho0_c4 , ho0_d4 ⟩

end Go.Proofs.Ytnbbmihlokajaaa
