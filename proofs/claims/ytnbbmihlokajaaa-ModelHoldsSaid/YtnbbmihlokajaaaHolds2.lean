/- The law ModelHolds: some of its ways. -/
import Derived.Test.YtnbbmihlokajaaaHolds
namespace Go.Proofs.Ytnbbmihlokajaaa
open Go
set_option linter.unusedVariables false
set_option linter.unusedSimpArgs false
set_option maxRecDepth 100000
theorem ho2_a0 (o1 o2 : Option ABlk) : ∀ (c0 d0 f0 g0 : Value) (c d f g : List Value), HoRun #[o1, o2] 0 (c0 :: c) (d0 :: d) (f0 :: f) (g0 :: g) := fun c0 d0 f0 g0 c d f g va vb n rest A D B1 B2 B3 R1 R2 x y t => by kernel_rfl
theorem ho2_b0 (o1 o2 : Option ABlk) : ∀ (c0 f0 : Value) (c f : List Value), HoRun #[o1, o2] 0 (c0 :: c) [] (f0 :: f) [] := fun c0 f0 c f va vb n rest A D B1 B2 B3 R1 R2 x y t => by kernel_rfl
theorem ho2_c0 (o1 o2 : Option ABlk) : ∀ (d0 g0 : Value) (d g : List Value), HoRun #[o1, o2] 0 [] (d0 :: d) [] (g0 :: g) := fun d0 g0 d g va vb n rest A D B1 B2 B3 R1 R2 x y t => by kernel_rfl
theorem ho2_d0 (o1 o2 : Option ABlk) : HoRun #[o1, o2] 0 [] [] [] [] := fun va vb n rest A D B1 B2 B3 R1 R2 x y t => by kernel_rfl
theorem ho2_a1 (o1 o2 : Option ABlk) : ∀ (c0 d0 f0 g0 : Value) (c d f g : List Value), HoRun #[o1, o2] 1 (c0 :: c) (d0 :: d) (f0 :: f) (g0 :: g) := fun c0 d0 f0 g0 c d f g va vb n rest A D B1 B2 B3 R1 R2 x y t => by kernel_rfl
theorem ho2_b1 (o1 o2 : Option ABlk) : ∀ (c0 f0 : Value) (c f : List Value), HoRun #[o1, o2] 1 (c0 :: c) [] (f0 :: f) [] := fun c0 f0 c f va vb n rest A D B1 B2 B3 R1 R2 x y t => by kernel_rfl
theorem ho2_c1 (o1 o2 : Option ABlk) : ∀ (d0 g0 : Value) (d g : List Value), HoRun #[o1, o2] 1 [] (d0 :: d) [] (g0 :: g) := fun d0 g0 d g va vb n rest A D B1 B2 B3 R1 R2 x y t => by kernel_rfl
theorem ho2_d1 (o1 o2 : Option ABlk) : HoRun #[o1, o2] 1 [] [] [] [] := fun va vb n rest A D B1 B2 B3 R1 R2 x y t => by kernel_rfl
theorem ho2_a2 (o1 o2 : Option ABlk) : ∀ (c0 d0 f0 g0 : Value) (c d f g : List Value), HoRun #[o1, o2] 2 (c0 :: c) (d0 :: d) (f0 :: f) (g0 :: g) := fun c0 d0 f0 g0 c d f g va vb n rest A D B1 B2 B3 R1 R2 x y t => by kernel_rfl
theorem ho2_b2 (o1 o2 : Option ABlk) : ∀ (c0 f0 : Value) (c f : List Value), HoRun #[o1, o2] 2 (c0 :: c) [] (f0 :: f) [] := fun c0 f0 c f va vb n rest A D B1 B2 B3 R1 R2 x y t => by kernel_rfl
theorem ho2_c2 (o1 o2 : Option ABlk) : ∀ (d0 g0 : Value) (d g : List Value), HoRun #[o1, o2] 2 [] (d0 :: d) [] (g0 :: g) := fun d0 g0 d g va vb n rest A D B1 B2 B3 R1 R2 x y t => by kernel_rfl
theorem ho2_d2 (o1 o2 : Option ABlk) : HoRun #[o1, o2] 2 [] [] [] [] := fun va vb n rest A D B1 B2 B3 R1 R2 x y t => by kernel_rfl
theorem ho2_a3 (o1 o2 : Option ABlk) : ∀ (c0 d0 f0 g0 : Value) (c d f g : List Value), HoRun #[o1, o2] 3 (c0 :: c) (d0 :: d) (f0 :: f) (g0 :: g) := fun c0 d0 f0 g0 c d f g va vb n rest A D B1 B2 B3 R1 R2 x y t => by kernel_rfl
theorem ho2_b3 (o1 o2 : Option ABlk) : ∀ (c0 f0 : Value) (c f : List Value), HoRun #[o1, o2] 3 (c0 :: c) [] (f0 :: f) [] := fun c0 f0 c f va vb n rest A D B1 B2 B3 R1 R2 x y t => by kernel_rfl
theorem ho2_c3 (o1 o2 : Option ABlk) : ∀ (d0 g0 : Value) (d g : List Value), HoRun #[o1, o2] 3 [] (d0 :: d) [] (g0 :: g) := fun d0 g0 d g va vb n rest A D B1 B2 B3 R1 R2 x y t => by kernel_rfl
theorem ho2_d3 (o1 o2 : Option ABlk) : HoRun #[o1, o2] 3 [] [] [] [] := fun va vb n rest A D B1 B2 B3 R1 R2 x y t => by kernel_rfl
theorem ho2_a4 (o1 o2 : Option ABlk) : ∀ (c0 d0 f0 g0 : Value) (c d f g : List Value), HoRun #[o1, o2] 4 (c0 :: c) (d0 :: d) (f0 :: f) (g0 :: g) := fun c0 d0 f0 g0 c d f g va vb n rest A D B1 B2 B3 R1 R2 x y t => by kernel_rfl
theorem ho2_b4 (o1 o2 : Option ABlk) : ∀ (c0 f0 : Value) (c f : List Value), HoRun #[o1, o2] 4 (c0 :: c) [] (f0 :: f) [] := fun c0 f0 c f va vb n rest A D B1 B2 B3 R1 R2 x y t => by kernel_rfl
theorem ho2_c4 (o1 o2 : Option ABlk) : ∀ (d0 g0 : Value) (d g : List Value), HoRun #[o1, o2] 4 [] (d0 :: d) [] (g0 :: g) := fun d0 g0 d g va vb n rest A D B1 B2 B3 R1 R2 x y t => by kernel_rfl
theorem ho2_d4 (o1 o2 : Option ABlk) : HoRun #[o1, o2] 4 [] [] [] [] := fun va vb n rest A D B1 B2 B3 R1 R2 x y t => by kernel_rfl
theorem ho2 (o1 o2 : Option ABlk) : HoRuns #[o1, o2] := fun k hk => by
  have : k = 0 ∨ k = 1 ∨ k = 2 ∨ k = 3 ∨ k = 4 := by omega
  rcases this with rfl | rfl | rfl | rfl | rfl
  · exact ⟨ho2_a0 o1 o2, ho2_b0 o1 o2, ho2_c0 o1 o2, ho2_d0 o1 o2⟩
  · exact ⟨ho2_a1 o1 o2, ho2_b1 o1 o2, ho2_c1 o1 o2, ho2_d1 o1 o2⟩
  · exact ⟨ho2_a2 o1 o2, ho2_b2 o1 o2, ho2_c2 o1 o2, ho2_d2 o1 o2⟩
  · exact ⟨ho2_a3 o1 o2, ho2_b3 o1 o2, ho2_c3 o1 o2, ho2_d3 o1 o2⟩
  · exact ⟨ho2_a4 o1 o2, ho2_b4 o1 o2, ho2_c4 o1 o2, ho2_d4 o1 o2⟩

end Go.Proofs.Ytnbbmihlokajaaa
