/- The law ModelSquares returns true, whatever it is handed. -/
import Derived.Test.YtnbbmihlokajaaaHolds
namespace Go.Proofs.Ytnbbmihlokajaaa
open Go
set_option linter.unusedVariables false
set_option linter.unusedSimpArgs false
set_option maxRecDepth 100000

noncomputable def squL (H : AHeap) (va : Value) (n : Int) (uc fc : List Value) (A B C D E : Nat → P2) (X : P2) (x : Nat) (k : Nat) : List Obl :=
  let H1 := nx H (slA 3 uc)
  let H2 := nx H1 (slA 24 fc)
  let H3 := nx H2 (isV' (mW A))
  let H4 := pushL H3 [blkW (mW A), sBlk]
  let H5 := nx H4 (isV' (fV x))
  let H6 := pushL H5 [blkW (mW B)]
  let H7 := nx H6 (yes true)
  let H8 := nx H7 (yes true)
  let x2 := fop .mul .f64 x x
  let x3 := fop .mul .f64 x2 x
  [kn5O, mk2 H 23 #[va, .int .i64 4] (slA 3 uc), mk2 H1 22 #[outV H.size uc] (slA 24 fc), mk2 H2 24 #[outV H1.size fc] (isV' (mW A)), wi5O n 5 (Int.ofNat k), mk2 H4 29 #[outV H.size uc, .float .f64 (sW k)] (isV' (fV x)),
   opM 27 A A B, hoM H6 B (sW k) x2, opM 27 B A C, hoM H7 C (sW k) x3, opM 27 A B D, opM 32 D B E, hoM H8 E (sW k) (fop .sub .f64 x3 x2), rgM B X, inR x2 X true]
def squS (uc fc : List Value) (A B C D E : Nat → P2) (X : P2) (x : Nat) (k : Nat) : List Ans :=
  [yes true, slA 3 uc, slA 24 fc, isV' (mW A), isI (Int.ofNat k), isV' (fV x), isV' (mW B), yes true, isV' (mW C), yes true, isV' (mW D), isV' (mW E), yes true, isV' (vI X), yes true]
def SqRun (H : AHeap) (k : Nat) (uc fc : List Value) : Prop := ∀ (va : Value) (n : Int) (A B C D E : Nat → P2) (X : P2) (x : Nat),
  (askN askHo noC 12 8 #[va, .int .i64 n] H (squS uc fc A B C D E X x k)).map (fun r => (r.1, r.2.2)) = some (.bool true, squL H va n uc fc A B C D E X x k)
theorem sq_a0 (o : Option ABlk) : ∀ (c0 f0 : Value) (c f : List Value), SqRun #[o] 0 (c0 :: c) (f0 :: f) := fun c0 f0 c f va n A B C D E X x => by kernel_rfl
theorem sq_b0 : SqRun #[] 0 [] [] := fun va n A B C D E X x => by kernel_rfl
theorem sq_a1 (o : Option ABlk) : ∀ (c0 f0 : Value) (c f : List Value), SqRun #[o] 1 (c0 :: c) (f0 :: f) := fun c0 f0 c f va n A B C D E X x => by kernel_rfl
theorem sq_b1 : SqRun #[] 1 [] [] := fun va n A B C D E X x => by kernel_rfl
theorem sq_a2 (o : Option ABlk) : ∀ (c0 f0 : Value) (c f : List Value), SqRun #[o] 2 (c0 :: c) (f0 :: f) := fun c0 f0 c f va n A B C D E X x => by kernel_rfl
theorem sq_b2 : SqRun #[] 2 [] [] := fun va n A B C D E X x => by kernel_rfl
theorem sq_a3 (o : Option ABlk) : ∀ (c0 f0 : Value) (c f : List Value), SqRun #[o] 3 (c0 :: c) (f0 :: f) := fun c0 f0 c f va n A B C D E X x => by kernel_rfl
theorem sq_b3 : SqRun #[] 3 [] [] := fun va n A B C D E X x => by kernel_rfl
theorem sq_a4 (o : Option ABlk) : ∀ (c0 f0 : Value) (c f : List Value), SqRun #[o] 4 (c0 :: c) (f0 :: f) := fun c0 f0 c f va n A B C D E X x => by kernel_rfl
theorem sq_b4 : SqRun #[] 4 [] [] := fun va n A B C D E X x => by kernel_rfl
theorem sq_run {zs : List Int} {k : Nat} (hk : k < 5) : SqRun (heap0 zs) k ((((zs.take 4).map wZ).map iV)) (((((zs.take 4).map wZ).map F).map fV)) := by
  have h : k = 0 ∨ k = 1 ∨ k = 2 ∨ k = 3 ∨ k = 4 := by omega
  cases zs with
  | nil =>
    rcases h with rfl | rfl | rfl | rfl | rfl
    · exact sq_b0
    · exact sq_b1
    · exact sq_b2
    · exact sq_b3
    · exact sq_b4
  | cons z l =>
    rcases h with rfl | rfl | rfl | rfl | rfl
    · exact sq_a0 _ _ _ _ _
    · exact sq_a1 _ _ _ _ _
    · exact sq_a2 _ _ _ _ _
    · exact sq_a3 _ _ _ _ _
    · exact sq_a4 _ _ _ _ _
theorem hand0 (zs : List Int) : HandV (heap0 zs) (zs.map iV) (arg0 zs) := by
  cases zs with
  | nil => exact .inl ⟨rfl, .inl rfl⟩
  | cons z l => exact .inr ⟨0, ⟨((z :: l).map (Value.int .i64)).toArray, 3, 1, false⟩, by simp, by rw [List.length_map]; rfl, rfl, rfl⟩

theorem modelSquares_tells (zs : List Int) (n : Int) : Tells 8 #[arg0 zs, .int .i64 n] (heap0 zs) (.bool true) := by
  obtain ⟨cs4, cl⟩ := wZs_sm 4 zs
  have n0 := Int.emod_nonneg n (b := 5) (by decide)
  have n5 := Int.emod_lt_of_pos n (b := 5) (by decide)
  have w1 := whole4_2 (hand0 zs)
  obtain ⟨k, hk⟩ := Int.eq_ofNat_of_zero_le n0
  have hk5 : k < 5 := by omega
  have wn := wi5_5 n
  rw [hk] at wn
  have hrun := sq_run (zs := zs) hk5
  generalize (zs.take 4).map wZ = cs at cs4 cl w1 hrun
  have hc24 : ∀ c ∈ cs, c.natAbs ≤ 24 := fun c h => Nat.le_trans (cs4 c h) (by decide)
  have hc64 : ∀ c ∈ cs, c.natAbs ≤ 64 := fun c h => Nat.le_trans (cs4 c h) (by decide)
  obtain ⟨s0, s1⟩ := sR_in hk5
  have hs := s_mr hk5
  have cl9 : cs.length ≤ 9 := by omega
  have ex := at_ex (sN_le k) (s_dy hk5) cs (E := 8) (by omega) cl9 hc24
  rw [sR_eq] at ex
  have p8 : pw 8 = 256 := rfl
  have ex' := ex.cast rfl (show 24 * cs.length * pw 8 ≤ 24576 by rw [p8]; omega)
  have x2 := ex'.mul ex' (by decide) (by decide)
  have x3 := x2.mul ex' (by decide) (by decide)
  have x2' := (x2.up 8).cast (e' := 24) rfl (show 24576 * 24576 * pw 8 ≤ 154618822656 by rw [p8]; decide)
  have x4 := x3.sub x2' (by decide) (by decide)
  have evA := ev_of0 cl9 hc64 (sR k)
  have evB := evA.mul evA (p := 1038) (by decide) (by decide) (by decide) (by decide) rfl (by decide) s0 s1
  have evC := evB.mul evA (p := 1123) (by decide) (by decide) (by decide) (by decide) rfl (by decide) s0 s1
  have evD := evA.mul evB (p := 1123) (by decide) (by decide) (by decide) (by decide) rfl (by decide) s0 s1
  have evE := evD.sub (evB.mono (by decide)) (by decide) (by decide)
  have q1 := holds_runs evB (by decide) (by decide) hs x2.kR.1 x2.kR.2
  have q2 := holds_runs evC (by decide) (by decide) hs x3.kR.1 x3.kR.2
  have q3 := holds_runs evE (by decide) (by decide) hs x4.kR.1 (by rw [x4.kR.2]; congr 1; grind)
  have r1 := in_of_mr (evB.range (by decide) (by decide) s0 s1) (by decide) x2.kR.1 x2.kR.2
  have mkh : ∀ {H : AHeap} {c : Nat → P2} {x : Nat}, Runs Try.prog 30 #[mW c, .float .f64 (sW k), .float .f64 x] #[] (.bool true) #[] → (hoM H c (sW k) x).ok Try.prog := by
    intro H c x h
    exact mk2_v (h.quiet rfl rfl _)
  have hv1 := (HandV.new (heap0 zs) 3 (cs.map iV))
  refine tells_of (hrun (arg0 zs) n (ofM (cs.map F)) _ _ _ _ _ (atW (sW k) cs)) ⟨known5, w1, floats_2 cl9 hv1, ?_, wn, ?_, mulM_runs _ _, mkh q1, mulM_runs _ _, mkh q2, mulM_runs _ _, subM_runs _ _, mkh q3, rangeM_runs _, r1, trivial⟩
  · exact of_2 (by rw [List.length_map]; exact cl9) (HandV.new _ _ _)
  · exact at_2 cl9 (((hv1.next _).next _).push _)

end Go.Proofs.Ytnbbmihlokajaaa
