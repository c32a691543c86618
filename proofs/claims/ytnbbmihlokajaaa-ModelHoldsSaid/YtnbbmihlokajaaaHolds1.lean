/- The law ModelHolds: some of its ways. -/
import Derived.Test.YtnbbmihlokajaaaHolds
namespace Go.Proofs.Ytnbbmihlokajaaa
open Go
set_option linter.unusedVariables false
set_option linter.unusedSimpArgs false
set_option maxRecDepth 100000
theorem ho1_a0 (o : Option ABlk) : ∀ (c0 d0 f0 g0 : Value) (c d f g : List Value), HoRun #[o] 0 (c0 :: c) (d0 :: d) (f0 :: f) (g0 :: g) := fun c0 d0 f0 g0 c d f g va vb n rest A D B1 B2 B3 R1 R2 x y t => by kernel_rfl
theorem ho1_b0 (o : Option ABlk) : ∀ (c0 f0 : Value) (c f : List Value), HoRun #[o] 0 (c0 :: c) [] (f0 :: f) [] := fun c0 f0 c f va vb n rest A D B1 B2 B3 R1 R2 x y t => by kernel_rfl
theorem ho1_c0 (o : Option ABlk) : ∀ (d0 g0 : Value) (d g : List Value), HoRun #[o] 0 [] (d0 :: d) [] (g0 :: g) := fun d0 g0 d g va vb n rest A D B1 B2 B3 R1 R2 x y t => by kernel_rfl
theorem ho1_d0 (o : Option ABlk) : HoRun #[o] 0 [] [] [] [] := fun va vb n rest A D B1 B2 B3 R1 R2 x y t => by kernel_rfl
theorem ho1_a1 (o : Option ABlk) : ∀ (c0 d0 f0 g0 : Value) (c d f g : List Value), HoRun #[o] 1 (c0 :: c) (d0 :: d) (f0 :: f) (g0 :: g) := fun c0 d0 f0 g0 c d f g va vb n rest A D B1 B2 B3 R1 R2 x y t => by kernel_rfl
theorem ho1_b1 (o : Option ABlk) : ∀ (c0 f0 : Value) (c f : List Value), HoRun #[o] 1 (c0 :: c) [] (f0 :: f) [] := fun c0 f0 c f va vb n rest A D B1 B2 B3 R1 R2 x y t => by kernel_rfl
theorem ho1_c1 (o : Option ABlk) : ∀ (d0 g0 : Value) (d g : List Value), HoRun #[o] 1 [] (d0 :: d) [] (g0 :: g) := fun d0 g0 d g va vb n rest A D B1 B2 B3 R1 R2 x y t => by kernel_rfl
theorem ho1_d1 (o : Option ABlk) : HoRun #[o] 1 [] [] [] [] := fun va vb n rest A D B1 B2 B3 R1 R2 x y t => by kernel_rfl
theorem ho1_a2 (o : Option ABlk) : ∀ (c0 d0 f0 g0 : Value) (c d f g : List Value), HoRun #[o] 2 (c0 :: c) (d0 :: d) (f0 :: f) (g0 :: g) := fun c0 d0 f0 g0 c d f g va vb n rest A D B1 B2 B3 R1 R2 x y t => by kernel_rfl
theorem ho1_b2 (o : Option ABlk) : ∀ (c0 f0 : Value) (c f : List Value), HoRun #[o] 2 (c0 :: c) [] (f0 :: f) [] := fun c0 f0 c f va vb n rest A D B1 B2 B3 R1 R2 x y t => by kernel_rfl
theorem ho1_c2 (o : Option ABlk) : ∀ (d0 g0 : Value) (d g : List Value), HoRun #[o] 2 [] (d0 :: d) [] (g0 :: g) := fun d0 g0 d g va vb n rest A D B1 B2 B3 R1 R2 x y t => by kernel_rfl
theorem ho1_d2 (o : Option ABlk) : HoRun #[o] 2 [] [] [] [] := fun va vb n rest A D B1 B2 B3 R1 R2 x y t => by kernel_rfl
theorem ho1_a3 (o : Option ABlk) : ∀ (c0 d0 f0 g0 : Value) (c d f g : List Value), HoRun #[o] 3 (c0 :: c) (d0 :: d) (f0 :: f) (g0 :: g) := fun c0 d0 f0 g0 c d f g va vb n rest A D B1 B2 B3 R1 R2 x y t => by kernel_rfl
theorem ho1_b3 (o : Option ABlk) : ∀ (c0 f0 : Value) (c f : List Value), HoRun #[o] 3 (c0 :: c) [] (f0 :: f) [] := fun c0 f0 c f va vb n rest A D B1 B2 B3 R1 R2 x y t => by kernel_rfl
theorem ho1_c3 (o : Option ABlk) : ∀ (d0 g0 : Value) (d g : List Value), HoRun #[o] 3 [] (d0 :: d) [] (g0 :: g) := fun d0 g0 d g va vb n rest A D B1 B2 B3 R1 R2 x y t => by kernel_rfl
theorem ho1_d3 (o : Option ABlk) : HoRun #[o] 3 [] [] [] [] := fun va vb n rest A D B1 B2 B3 R1 R2 x y t => by kernel_rfl
theorem ho1_a4 (o : Option ABlk) : ∀ (c0 d0 f0 g0 : Value) (c d f g : List Value), HoRun #[o] 4 (c0 :: c) (d0 :: d) (f0 :: f) (g0 :: g) := fun c0 d0 f0 g0 c d f g va vb n rest A D B1 B2 B3 R1 R2 x y t => by kernel_rfl
theorem ho1_b4 (o : Option ABlk) : ∀ (c0 f0 : Value) (c f : List Value), HoRun #[o] 4 (c0 :: c) [] (f0 :: f) [] := fun c0 f0 c f va vb n rest A D B1 B2 B3 R1 R2 x y t => by kernel_rfl
theorem ho1_c4 (o : Option ABlk) : ∀ (d0 g0 : Value) (d g : List Value), HoRun #[o] 4 [] (d0 :: d) [] (g0 :: g) := fun d0 g0 d g va vb n rest A D B1 B2 B3 R1 R2 x y t => by kernel_rfl
theorem ho1_d4 (o : Option ABlk) : HoRun #[o] 4 [] [] [] [] := fun va vb n rest A D B1 B2 B3 R1 R2 x y t => by kernel_rfl
theorem ho1 (o : Option ABlk) : HoRuns #[o] := fun k hk => by
  have : k = 0 ∨ k = 1 ∨ k = 2 ∨ k = 3 ∨ k = 4 := by omega
  rcases this with rfl | rfl | rfl | rfl | rfl
  · exact ⟨ho1_a0 o, ho1_b0 o, ho1_c0 o, ho1_d0 o⟩
  · exact ⟨ho1_a1 o, ho1_b1 o, ho1_c1 o, ho1_d1 o⟩
  · exact ⟨ho1_a2 o, ho1_b2 o, ho1_c2 o, ho1_d2 o⟩
  · exact ⟨ho1_a3 o, ho1_b3 o, ho1_c3 o, ho1_d3 o⟩
  · exact ⟨ho1_a4 o, ho1_b4 o, ho1_c4 o, ho1_d4 o⟩

end Go.Proofs.Ytnbbmihlokajaaa
