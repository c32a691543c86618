/- The law ModelDivides: its ways. -/
import Derived.Test.YtnbbmihlokajaaaDivides
namespace Go.Proofs.Ytnbbmihlokajaaa
open Go
set_option linter.unusedVariables false
set_option linter.unusedSimpArgs false
set_option maxRecDepth 100000
theorem di0_a0 : ∀ (c0 f0 : Value) (c f : List Value), DiRun #[] 0 (c0 :: c) (f0 :: f) := fun c0 f0 c f => fun va vb n d0 ul g0 fl A B C D X x => by kernel_rfl
theorem di0_b0 : DiRun #[] 0 [] [] := fun va vb n d0 ul g0 fl A B C D X x => by kernel_rfl
theorem di0_a1 : ∀ (c0 f0 : Value) (c f : List Value), DiRun #[] 1 (c0 :: c) (f0 :: f) := fun c0 f0 c f => fun va vb n d0 ul g0 fl A B C D X x => by kernel_rfl
theorem di0_b1 : DiRun #[] 1 [] [] := fun va vb n d0 ul g0 fl A B C D X x => by kernel_rfl
theorem di0_a2 : ∀ (c0 f0 : Value) (c f : List Value), DiRun #[] 2 (c0 :: c) (f0 :: f) := fun c0 f0 c f => fun va vb n d0 ul g0 fl A B C D X x => by kernel_rfl
theorem di0_b2 : DiRun #[] 2 [] [] := fun va vb n d0 ul g0 fl A B C D X x => by kernel_rfl
theorem di0_a3 : ∀ (c0 f0 : Value) (c f : List Value), DiRun #[] 3 (c0 :: c) (f0 :: f) := fun c0 f0 c f => fun va vb n d0 ul g0 fl A B C D X x => by kernel_rfl
theorem di0_b3 : DiRun #[] 3 [] [] := fun va vb n d0 ul g0 fl A B C D X x => by kernel_rfl
theorem di0_a4 : ∀ (c0 f0 : Value) (c f : List Value), DiRun #[] 4 (c0 :: c) (f0 :: f) := fun c0 f0 c f => fun va vb n d0 ul g0 fl A B C D X x => by kernel_rfl
theorem di0_b4 : DiRun #[] 4 [] [] := fun va vb n d0 ul g0 fl A B C D X x => by kernel_rfl
theorem di0_n : ∀ (c0 : Value) (c : List Value), DiNil #[] (c0 :: c) := fun c0 c va vb n => by kernel_rfl
theorem di0_m : DiNil #[] [] := fun va vb n => by kernel_rfl
theorem di0 : DiRuns #[] := ⟨fun k hk => by
  have : k = 0 ∨ k = 1 ∨ k = 2 ∨ k = 3 ∨ k = 4 := by omega
  rcases this with rfl | rfl | rfl | rfl | rfl
  · exact di0_a0 
  · exact di0_a1 
  · exact di0_a2 
  · exact di0_a3 
  · exact di0_a4 
  , fun k hk => by
  have : k = 0 ∨ k = 1 ∨ k = 2 ∨ k = 3 ∨ k = 4 := by omega
  rcases this with rfl | rfl | rfl | rfl | rfl
  · exact di0_b0 
  · exact di0_b1 
  · exact di0_b2 
  · exact di0_b3 
  · exact di0_b4 
  , di0_n , di0_m ⟩
theorem di1_a0 (o : Option ABlk) : ∀ (c0 f0 : Value) (c f : List Value), DiRun #[o] 0 (c0 :: c) (f0 :: f) := fun c0 f0 c f => fun va vb n d0 ul g0 fl A B C D X x => by kernel_rfl
theorem di1_b0 (o : Option ABlk) : DiRun #[o] 0 [] [] := fun va vb n d0 ul g0 fl A B C D X x => by kernel_rfl
theorem di1_a1 (o : Option ABlk) : ∀ (c0 f0 : Value) (c f : List Value), DiRun #[o] 1 (c0 :: c) (f0 :: f) := fun c0 f0 c f => fun va vb n d0 ul g0 fl A B C D X x => by kernel_rfl
theorem di1_b1 (o : Option ABlk) : DiRun #[o] 1 [] [] := fun va vb n d0 ul g0 fl A B C D X x => by kernel_rfl
theorem di1_a2 (o : Option ABlk) : ∀ (c0 f0 : Value) (c f : List Value), DiRun #[o] 2 (c0 :: c) (f0 :: f) := fun c0 f0 c f => fun va vb n d0 ul g0 fl A B C D X x => by kernel_rfl
theorem di1_b2 (o : Option ABlk) : DiRun #[o] 2 [] [] := fun va vb n d0 ul g0 fl A B C D X x => by kernel_rfl
theorem di1_a3 (o : Option ABlk) : ∀ (c0 f0 : Value) (c f : List Value), DiRun #[o] 3 (c0 :: c) (f0 :: f) := fun c0 f0 c f => fun va vb n d0 ul g0 fl A B C D X x => by kernel_rfl
theorem di1_b3 (o : Option ABlk) : DiRun #[o] 3 [] [] := fun va vb n d0 ul g0 fl A B C D X x => by kernel_rfl
theorem di1_a4 (o : Option ABlk) : ∀ (c0 f0 : Value) (c f : List Value), DiRun #[o] 4 (c0 :: c) (f0 :: f) := fun c0 f0 c f => fun va vb n d0 ul g0 fl A B C D X x => by kernel_rfl
theorem di1_b4 (o : Option ABlk) : DiRun #[o] 4 [] [] := fun va vb n d0 ul g0 fl A B C D X x => by kernel_rfl
theorem di1_n (o : Option ABlk) : ∀ (c0 : Value) (c : List Value), DiNil #[o] (c0 :: c) := fun c0 c va vb n => by kernel_rfl
theorem di1_m (o : Option ABlk) : DiNil #[o] [] := fun va vb n => by kernel_rfl
theorem di1 (o : Option ABlk) : DiRuns #[o] := ⟨fun k hk => by
  have : k = 0 ∨ k = 1 ∨ k = 2 ∨ k = 3 ∨ k = 4 := by omega
  rcases this with rfl | rfl | rfl | rfl | rfl
  · exact di1_a0 o
  · exact di1_a1 o
  · exact di1_a2 o
  · exact di1_a3 o
  · exact di1_a4 o
  , fun k hk => by
  have : k = 0 ∨ k = 1 ∨ k = 2 ∨ k = 3 ∨ k = 4 := by omega
  rcases this with rfl | rfl | rfl | rfl | rfl
  · exact di1_b0 o
  · exact di1_b1 o
  · exact di1_b2 o
  · exact di1_b3 o
  · exact di1_b4 o
  , di1_n o, di1_m o⟩
theorem di2_a0 (o1 o2 : Option ABlk) : ∀ (c0 f0 : Value) (c f : List Value), DiRun #[o1, o2] 0 (c0 :: c) (f0 :: f) := fun c0 f0 c f => fun va vb n d0 ul g0 fl A B C D X x => by kernel_rfl
theorem di2_b0 (o1 o2 : Option ABlk) : DiRun #[o1, o2] 0 [] [] := fun va vb n d0 ul g0 fl A B C D X x => by kernel_rfl
theorem di2_a1 (o1 o2 : Option ABlk) : ∀ (c0 f0 : Value) (c f : List Value), DiRun #[o1, o2] 1 (c0 :: c) (f0 :: f) := fun c0 f0 c f => fun va vb n d0 ul g0 fl A B C D X x => by kernel_rfl
theorem di2_b1 (o1 o2 : Option ABlk) : DiRun #[o1, o2] 1 [] [] := fun va vb n d0 ul g0 fl A B C D X x => by kernel_rfl
theorem di2_a2 (o1 o2 : Option ABlk) : ∀ (c0 f0 : Value) (c f : List Value), DiRun #[o1, o2] 2 (c0 :: c) (f0 :: f) := fun c0 f0 c f => fun va vb n d0 ul g0 fl A B C D X x => by kernel_rfl
theorem di2_b2 (o1 o2 : Option ABlk) : DiRun #[o1, o2] 2 [] [] := fun va vb n d0 ul g0 fl A B C D X x => by kernel_rfl
theorem di2_a3 (o1 o2 : Option ABlk) : ∀ (c0 f0 : Value) (c f : List Value), DiRun #[o1, o2] 3 (c0 :: c) (f0 :: f) := fun c0 f0 c f => fun va vb n d0 ul g0 fl A B C D X x => by kernel_rfl
theorem di2_b3 (o1 o2 : Option ABlk) : DiRun #[o1, o2] 3 [] [] := fun va vb n d0 ul g0 fl A B C D X x => by kernel_rfl
theorem di2_a4 (o1 o2 : Option ABlk) : ∀ (c0 f0 : Value) (c f : List Value), DiRun #[o1, o2] 4 (c0 :: c) (f0 :: f) := fun c0 f0 c f => fun va vb n d0 ul g0 fl A B C D X x => by kernel_rfl
theorem di2_b4 (o1 o2 : Option ABlk) : DiRun #[o1, o2] 4 [] [] := fun va vb n d0 ul g0 fl A B C D X x => by kernel_rfl
theorem di2_n (o1 o2 : Option ABlk) : ∀ (c0 : Value) (c : List Value), DiNil #[o1, o2] (c0 :: c) := fun c0 c va vb n => by kernel_rfl
theorem di2_m (o1 o2 : Option ABlk) : DiNil #[o1, o2] [] := fun va vb n => by kernel_rfl
theorem di2 (o1 o2 : Option ABlk) : DiRuns #[o1, o2] := ⟨fun k hk => by
  have : k = 0 ∨ k = 1 ∨ k = 2 ∨ k = 3 ∨ k = 4 := by omega
  rcases this with rfl | rfl | rfl | rfl | rfl
  · exact di2_a0 o1 o2
  · exact di2_a1 o1 o2
  · exact di2_a2 o1 o2
  · exact di2_a3 o1 o2
  · exact di2_a4 o1 o2
  , fun k hk => by
  have : k = 0 ∨ k = 1 ∨ k = 2 ∨ k = 3 ∨ k = 4 := by omega
  rcases this with rfl | rfl | rfl | rfl | rfl
  · exact di2_b0 o1 o2
  · exact di2_b1 o1 o2
  · exact di2_b2 o1 o2
  · exact di2_b3 o1 o2
  · exact di2_b4 o1 o2
  , di2_n o1 o2, di2_m o1 o2⟩

end Go.Proofs.Ytnbbmihlokajaaa
