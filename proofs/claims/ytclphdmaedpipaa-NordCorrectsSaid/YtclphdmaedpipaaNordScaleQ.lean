/- The law NordScales: its walk at each shape, in both memories. -/
import Derived.Test.YtclphdmaedpipaaNordScaleL
namespace Go.Proofs.Ytclphdmaedpipaa
open Go
set_option linter.unusedVariables false
set_option maxRecDepth 100000

theorem zrows_1_1 : ZRows 1 1 := fun e f => by kernel_rfl
theorem zrows_1_2 : ZRows 1 2 := fun e f => by kernel_rfl
theorem zrows_1_3 : ZRows 1 3 := fun e f => by kernel_rfl
theorem zrows_2_1 : ZRows 2 1 := fun e f => by kernel_rfl
theorem zrows_2_2 : ZRows 2 2 := fun e f => by kernel_rfl
theorem zrows_2_3 : ZRows 2 3 := fun e f => by kernel_rfl
theorem zrows_3_1 : ZRows 3 1 := fun e f => by kernel_rfl
theorem zrows_3_2 : ZRows 3 2 := fun e f => by kernel_rfl
theorem zrows_3_3 : ZRows 3 3 := fun e f => by kernel_rfl
theorem zrows_4_1 : ZRows 4 1 := fun e f => by kernel_rfl
theorem zrows_4_2 : ZRows 4 2 := fun e f => by kernel_rfl
theorem zrows_4_3 : ZRows 4 3 := fun e f => by kernel_rfl
theorem zrows_5_1 : ZRows 5 1 := fun e f => by kernel_rfl
theorem zrows_5_2 : ZRows 5 2 := fun e f => by kernel_rfl
theorem zrows_5_3 : ZRows 5 3 := fun e f => by kernel_rfl
theorem sc_1_1 : ScRun 1 1 #[] := fun order n kk s va X A B C D E F G => by kernel_rfl
theorem sc1_1_1 (o : Option ABlk) : ScRun 1 1 #[o] := fun order n kk s va X A B C D E F G => by kernel_rfl
theorem scz_1_1 : ∀ zs : List Int, ScRun 1 1 (heap0 zs)
  | [] => sc_1_1
  | z :: zs => sc1_1_1 _
theorem sc_1_2 : ScRun 1 2 #[] := fun order n kk s va X A B C D E F G => by kernel_rfl
theorem sc1_1_2 (o : Option ABlk) : ScRun 1 2 #[o] := fun order n kk s va X A B C D E F G => by kernel_rfl
theorem scz_1_2 : ∀ zs : List Int, ScRun 1 2 (heap0 zs)
  | [] => sc_1_2
  | z :: zs => sc1_1_2 _
theorem sc_1_3 : ScRun 1 3 #[] := fun order n kk s va X A B C D E F G => by kernel_rfl
theorem sc1_1_3 (o : Option ABlk) : ScRun 1 3 #[o] := fun order n kk s va X A B C D E F G => by kernel_rfl
theorem scz_1_3 : ∀ zs : List Int, ScRun 1 3 (heap0 zs)
  | [] => sc_1_3
  | z :: zs => sc1_1_3 _
theorem sc_2_1 : ScRun 2 1 #[] := fun order n kk s va X A B C D E F G => by kernel_rfl
theorem sc1_2_1 (o : Option ABlk) : ScRun 2 1 #[o] := fun order n kk s va X A B C D E F G => by kernel_rfl
theorem scz_2_1 : ∀ zs : List Int, ScRun 2 1 (heap0 zs)
  | [] => sc_2_1
  | z :: zs => sc1_2_1 _
theorem sc_2_2 : ScRun 2 2 #[] := fun order n kk s va X A B C D E F G => by kernel_rfl
theorem sc1_2_2 (o : Option ABlk) : ScRun 2 2 #[o] := fun order n kk s va X A B C D E F G => by kernel_rfl
theorem scz_2_2 : ∀ zs : List Int, ScRun 2 2 (heap0 zs)
  | [] => sc_2_2
  | z :: zs => sc1_2_2 _
theorem sc_2_3 : ScRun 2 3 #[] := fun order n kk s va X A B C D E F G => by kernel_rfl
theorem sc1_2_3 (o : Option ABlk) : ScRun 2 3 #[o] := fun order n kk s va X A B C D E F G => by kernel_rfl
theorem scz_2_3 : ∀ zs : List Int, ScRun 2 3 (heap0 zs)
  | [] => sc_2_3
  | z :: zs => sc1_2_3 _
theorem sc_3_1 : ScRun 3 1 #[] := fun order n kk s va X A B C D E F G => by kernel_rfl
theorem sc1_3_1 (o : Option ABlk) : ScRun 3 1 #[o] := fun order n kk s va X A B C D E F G => by kernel_rfl
theorem scz_3_1 : ∀ zs : List Int, ScRun 3 1 (heap0 zs)
  | [] => sc_3_1
  | z :: zs => sc1_3_1 _
theorem sc_3_2 : ScRun 3 2 #[] := fun order n kk s va X A B C D E F G => by kernel_rfl
theorem sc1_3_2 (o : Option ABlk) : ScRun 3 2 #[o] := fun order n kk s va X A B C D E F G => by kernel_rfl
theorem scz_3_2 : ∀ zs : List Int, ScRun 3 2 (heap0 zs)
  | [] => sc_3_2
  | z :: zs => sc1_3_2 _
theorem sc_3_3 : ScRun 3 3 #[] := fun order n kk s va X A B C D E F G => by kernel_rfl
theorem sc1_3_3 (o : Option ABlk) : ScRun 3 3 #[o] := fun order n kk s va X A B C D E F G => by kernel_rfl
theorem scz_3_3 : ∀ zs : List Int, ScRun 3 3 (heap0 zs)
  | [] => sc_3_3
  | z :: zs => sc1_3_3 _
theorem sc_4_1 : ScRun 4 1 #[] := fun order n kk s va X A B C D E F G => by kernel_rfl
theorem sc1_4_1 (o : Option ABlk) : ScRun 4 1 #[o] := fun order n kk s va X A B C D E F G => by kernel_rfl
theorem scz_4_1 : ∀ zs : List Int, ScRun 4 1 (heap0 zs)
  | [] => sc_4_1
  | z :: zs => sc1_4_1 _
theorem sc_4_2 : ScRun 4 2 #[] := fun order n kk s va X A B C D E F G => by kernel_rfl
theorem sc1_4_2 (o : Option ABlk) : ScRun 4 2 #[o] := fun order n kk s va X A B C D E F G => by kernel_rfl
theorem scz_4_2 : ∀ zs : List Int, ScRun 4 2 (heap0 zs)
  | [] => sc_4_2
  | z :: zs => sc1_4_2 _
theorem sc_4_3 : ScRun 4 3 #[] := fun order n kk s va X A B C D E F G => by kernel_rfl
theorem sc1_4_3 (o : Option ABlk) : ScRun 4 3 #[o] := fun order n kk s va X A B C D E F G => by kernel_rfl
theorem scz_4_3 : ∀ zs : List Int, ScRun 4 3 (heap0 zs)
  | [] => sc_4_3
  | z :: zs => sc1_4_3 _
theorem sc_5_1 : ScRun 5 1 #[] := fun order n kk s va X A B C D E F G => by kernel_rfl
theorem sc1_5_1 (o : Option ABlk) : ScRun 5 1 #[o] := fun order n kk s va X A B C D E F G => by kernel_rfl
theorem scz_5_1 : ∀ zs : List Int, ScRun 5 1 (heap0 zs)
  | [] => sc_5_1
  | z :: zs => sc1_5_1 _
theorem sc_5_2 : ScRun 5 2 #[] := fun order n kk s va X A B C D E F G => by kernel_rfl
theorem sc1_5_2 (o : Option ABlk) : ScRun 5 2 #[o] := fun order n kk s va X A B C D E F G => by kernel_rfl
theorem scz_5_2 : ∀ zs : List Int, ScRun 5 2 (heap0 zs)
  | [] => sc_5_2
  | z :: zs => sc1_5_2 _
theorem sc_5_3 : ScRun 5 3 #[] := fun order n kk s va X A B C D E F G => by kernel_rfl
theorem sc1_5_3 (o : Option ABlk) : ScRun 5 3 #[o] := fun order n kk s va X A B C D E F G => by kernel_rfl
theorem scz_5_3 : ∀ zs : List Int, ScRun 5 3 (heap0 zs)
  | [] => sc_5_3
  | z :: zs => sc1_5_3 _

end Go.Proofs.Ytclphdmaedpipaa
