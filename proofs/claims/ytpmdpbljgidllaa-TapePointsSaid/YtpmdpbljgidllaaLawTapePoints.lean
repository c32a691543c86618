/- The law TapePoints returns true, whatever the numbers. -/
import Derived.Test.YtpmdpbljgidllaaTpRel
namespace Go.Proofs.Ytpmdpbljgidllaa
open Go
set_option linter.unusedVariables false
set_option linter.unusedSimpArgs false
set_option maxRecDepth 100000

noncomputable def askPt (g : FuncId) : Nat := if [12, 14, 19, 25, 20, 27, 28, 29].contains g then 1 else 0
def hpP (b1 b2 : Option ABlk) (N M : Nat) (co cu : Array Value) (fx : Nat → Nat) : List (Option ABlk) := [b1, b2, opB co, iB cu, tcB 2 N M, nwF ((List.range N).map fx)] ++ grRi N (fun i => (fx i, fx i))
def stPt (k : Nat → Nat) (g : Nat → Nat) (i : Nat) : List Ans :=
  [yes true] ++ (if k i = 0 then [yes false] else if k i = 1 then [yes true, vAns (.float .f64 (g i)), yes false] else [yes true, vAns (.float .f64 (g i)), yes true, yes true])
noncomputable def soPt (N : Nat) (fy : Nat → Nat) (fZ : Nat → Nat × Nat) (k : Nat → Nat) (g : Nat → Nat) (i : Nat) : List Obl :=
  [cpO .lss (Int.ofNat i) (Int.ofNat N) true] ++ (if k i = 0 then [qtO 27 #[.float .f64 (fy i)] (.bool false)] else if k i = 1 then [qtO 27 #[.float .f64 (fy i)] (.bool true), qtO 28 #[vI (fZ i)] (.float .f64 (g i)), qtO 27 #[.float .f64 (g i)] (.bool false)]
    else [qtO 27 #[.float .f64 (fy i)] (.bool true), qtO 28 #[vI (fZ i)] (.float .f64 (g i)), qtO 27 #[.float .f64 (g i)] (.bool true), qtO 29 #[.float .f64 (fy i), vI (fZ i)] (.bool true)])
def PtRun (N : Nat) (k : Nat → Nat) : Prop := ∀ (b1 b2 : Option ABlk) (n : Int) (dv : Bool) (M : Nat) (va vb : Value) (co cu : Array Value) (fx fy : Nat → Nat) (fZ : Nat → Nat × Nat) (g : Nat → Nat),
  (askN askPt lssC 12 6 #[.int .i64 n, va, .bool dv, vb] #[b1, b2]
    ([yes true, tpA N M co cu, rwA N fx] ++ (List.range N).map (fun _ => yes true) ++ [yes false, rwA N fy, rwP N fZ] ++ (List.range N).flatMap (stPt k g) ++ [yes false])).map (fun r => (r.1, r.2.2)) =
  some (.bool true, [qtO 12 #[] (.bool true), rnO 14 #[.int .i64 n, va, .bool dv] [b1, b2] (tpV 2 3 N M) [opB co, iB cu],
      rnO 19 #[.int .i64 (Int.ofNat N), vb] [b1, b2, opB co, iB cu, tcB 2 N M] (slV 5 N) [nwF ((List.range N).map fx)]] ++
    (List.range N).map (fun i => cpO .lss (Int.ofNat i) (Int.ofNat N) true) ++
    [cpO .lss (Int.ofNat N) (Int.ofNat N) false,
      rnO 25 #[tpV 2 3 N M, slV 5 N] (hpP b1 b2 N M co cu fx) (slV (6 + 2 * N) N) [nwF ((List.range N).map fy)],
      rnO 20 #[tpV 2 3 N M, slV (5 + 2 * N) N] (hpP b1 b2 N M co cu fx ++ [nwF ((List.range N).map fy)]) (slV (7 + 2 * N) N) [nwP ((List.range N).map fZ)]] ++
    (List.range N).flatMap (soPt N fy fZ k g) ++ [cpO .lss (Int.ofNat N) (Int.ofNat N) false])
theorem ptRun_1_0 : PtRun 1 (fun i => [0].getD i 2) := fun _ _ _ _ _ _ _ _ _ _ _ _ _ => by kernel_rfl
theorem ptRun_1_1 : PtRun 1 (fun i => [1].getD i 2) := fun _ _ _ _ _ _ _ _ _ _ _ _ _ => by kernel_rfl
theorem ptRun_1_2 : PtRun 1 (fun i => [2].getD i 2) := fun _ _ _ _ _ _ _ _ _ _ _ _ _ => by kernel_rfl
theorem ptRun_2_00 : PtRun 2 (fun i => [0, 0].getD i 2) := fun _ _ _ _ _ _ _ _ _ _ _ _ _ => by kernel_rfl
theorem ptRun_2_01 : PtRun 2 (fun i => [0, 1].getD i 2) := fun _ _ _ _ _ _ _ _ _ _ _ _ _ => by kernel_rfl
theorem ptRun_2_02 : PtRun 2 (fun i => [0, 2].getD i 2) := fun _ _ _ _ _ _ _ _ _ _ _ _ _ => by kernel_rfl
theorem ptRun_2_10 : PtRun 2 (fun i => [1, 0].getD i 2) := fun _ _ _ _ _ _ _ _ _ _ _ _ _ => by kernel_rfl
theorem ptRun_2_11 : PtRun 2 (fun i => [1, 1].getD i 2) := fun _ _ _ _ _ _ _ _ _ _ _ _ _ => by kernel_rfl
theorem ptRun_2_12 : PtRun 2 (fun i => [1, 2].getD i 2) := fun _ _ _ _ _ _ _ _ _ _ _ _ _ => by kernel_rfl
theorem ptRun_2_20 : PtRun 2 (fun i => [2, 0].getD i 2) := fun _ _ _ _ _ _ _ _ _ _ _ _ _ => by kernel_rfl
theorem ptRun_2_21 : PtRun 2 (fun i => [2, 1].getD i 2) := fun _ _ _ _ _ _ _ _ _ _ _ _ _ => by kernel_rfl
theorem ptRun_2_22 : PtRun 2 (fun i => [2, 2].getD i 2) := fun _ _ _ _ _ _ _ _ _ _ _ _ _ => by kernel_rfl
theorem ptRun_3_000 : PtRun 3 (fun i => [0, 0, 0].getD i 2) := fun _ _ _ _ _ _ _ _ _ _ _ _ _ => by kernel_rfl
theorem ptRun_3_001 : PtRun 3 (fun i => [0, 0, 1].getD i 2) := fun _ _ _ _ _ _ _ _ _ _ _ _ _ => by kernel_rfl
theorem ptRun_3_002 : PtRun 3 (fun i => [0, 0, 2].getD i 2) := fun _ _ _ _ _ _ _ _ _ _ _ _ _ => by kernel_rfl
theorem ptRun_3_010 : PtRun 3 (fun i => [0, 1, 0].getD i 2) := fun _ _ _ _ _ _ _ _ _ _ _ _ _ => by kernel_rfl
theorem ptRun_3_011 : PtRun 3 (fun i => [0, 1, 1].getD i 2) := fun _ _ _ _ _ _ _ _ _ _ _ _ _ => by kernel_rfl
theorem ptRun_3_012 : PtRun 3 (fun i => [0, 1, 2].getD i 2) := fun _ _ _ _ _ _ _ _ _ _ _ _ _ => by kernel_rfl
theorem ptRun_3_020 : PtRun 3 (fun i => [0, 2, 0].getD i 2) := fun _ _ _ _ _ _ _ _ _ _ _ _ _ => by kernel_rfl
theorem ptRun_3_021 : PtRun 3 (fun i => [0, 2, 1].getD i 2) := fun _ _ _ _ _ _ _ _ _ _ _ _ _ => by kernel_rfl
theorem ptRun_3_022 : PtRun 3 (fun i => [0, 2, 2].getD i 2) := fun _ _ _ _ _ _ _ _ _ _ _ _ _ => by kernel_rfl
theorem ptRun_3_100 : PtRun 3 (fun i => [1, 0, 0].getD i 2) := fun _ _ _ _ _ _ _ _ _ _ _ _ _ => by kernel_rfl
theorem ptRun_3_101 : PtRun 3 (fun i => [1, 0, 1].getD i 2) := fun _ _ _ _ _ _ _ _ _ _ _ _ _ => by kernel_rfl
theorem ptRun_3_102 : PtRun 3 (fun i => [1, 0, 2].getD i 2) := fun _ _ _ _ _ _ _ _ _ _ _ _ _ => by kernel_rfl
theorem ptRun_3_110 : PtRun 3 (fun i => [1, 1, 0].getD i 2) := fun _ _ _ _ _ _ _ _ _ _ _ _ _ => by kernel_rfl
theorem ptRun_3_111 : PtRun 3 (fun i => [1, 1, 1].getD i 2) := fun _ _ _ _ _ _ _ _ _ _ _ _ _ => by kernel_rfl
theorem ptRun_3_112 : PtRun 3 (fun i => [1, 1, 2].getD i 2) := fun _ _ _ _ _ _ _ _ _ _ _ _ _ => by kernel_rfl
theorem ptRun_3_120 : PtRun 3 (fun i => [1, 2, 0].getD i 2) := fun _ _ _ _ _ _ _ _ _ _ _ _ _ => by kernel_rfl
theorem ptRun_3_121 : PtRun 3 (fun i => [1, 2, 1].getD i 2) := fun _ _ _ _ _ _ _ _ _ _ _ _ _ => by kernel_rfl
theorem ptRun_3_122 : PtRun 3 (fun i => [1, 2, 2].getD i 2) := fun _ _ _ _ _ _ _ _ _ _ _ _ _ => by kernel_rfl
theorem ptRun_3_200 : PtRun 3 (fun i => [2, 0, 0].getD i 2) := fun _ _ _ _ _ _ _ _ _ _ _ _ _ => by kernel_rfl
theorem ptRun_3_201 : PtRun 3 (fun i => [2, 0, 1].getD i 2) := fun _ _ _ _ _ _ _ _ _ _ _ _ _ => by kernel_rfl
theorem ptRun_3_202 : PtRun 3 (fun i => [2, 0, 2].getD i 2) := fun _ _ _ _ _ _ _ _ _ _ _ _ _ => by kernel_rfl
theorem ptRun_3_210 : PtRun 3 (fun i => [2, 1, 0].getD i 2) := fun _ _ _ _ _ _ _ _ _ _ _ _ _ => by kernel_rfl
theorem ptRun_3_211 : PtRun 3 (fun i => [2, 1, 1].getD i 2) := fun _ _ _ _ _ _ _ _ _ _ _ _ _ => by kernel_rfl
theorem ptRun_3_212 : PtRun 3 (fun i => [2, 1, 2].getD i 2) := fun _ _ _ _ _ _ _ _ _ _ _ _ _ => by kernel_rfl
theorem ptRun_3_220 : PtRun 3 (fun i => [2, 2, 0].getD i 2) := fun _ _ _ _ _ _ _ _ _ _ _ _ _ => by kernel_rfl
theorem ptRun_3_221 : PtRun 3 (fun i => [2, 2, 1].getD i 2) := fun _ _ _ _ _ _ _ _ _ _ _ _ _ => by kernel_rfl
theorem ptRun_3_222 : PtRun 3 (fun i => [2, 2, 2].getD i 2) := fun _ _ _ _ _ _ _ _ _ _ _ _ _ => by kernel_rfl
theorem pt_run1 (a : Nat) (ha : a ≤ 2) : PtRun 1 (fun i => [a].getD i 2) := by
  have ga : a = 0 ∨ a = 1 ∨ a = 2 := by omega
  rcases ga with rfl | rfl | rfl
  · exact ptRun_1_0
  · exact ptRun_1_1
  · exact ptRun_1_2
theorem pt_run2 (a b : Nat) (ha : a ≤ 2) (hb : b ≤ 2) : PtRun 2 (fun i => [a, b].getD i 2) := by
  have ga : a = 0 ∨ a = 1 ∨ a = 2 := by omega
  have gb : b = 0 ∨ b = 1 ∨ b = 2 := by omega
  rcases ga with rfl | rfl | rfl
  · rcases gb with rfl | rfl | rfl
    · exact ptRun_2_00
    · exact ptRun_2_01
    · exact ptRun_2_02
  · rcases gb with rfl | rfl | rfl
    · exact ptRun_2_10
    · exact ptRun_2_11
    · exact ptRun_2_12
  · rcases gb with rfl | rfl | rfl
    · exact ptRun_2_20
    · exact ptRun_2_21
    · exact ptRun_2_22
theorem pt_run3 (a b c : Nat) (ha : a ≤ 2) (hb : b ≤ 2) (hc : c ≤ 2) : PtRun 3 (fun i => [a, b, c].getD i 2) := by
  have ga : a = 0 ∨ a = 1 ∨ a = 2 := by omega
  have gb : b = 0 ∨ b = 1 ∨ b = 2 := by omega
  have gc : c = 0 ∨ c = 1 ∨ c = 2 := by omega
  rcases ga with rfl | rfl | rfl
  · rcases gb with rfl | rfl | rfl
    · rcases gc with rfl | rfl | rfl
      · exact ptRun_3_000
      · exact ptRun_3_001
      · exact ptRun_3_002
    · rcases gc with rfl | rfl | rfl
      · exact ptRun_3_010
      · exact ptRun_3_011
      · exact ptRun_3_012
    · rcases gc with rfl | rfl | rfl
      · exact ptRun_3_020
      · exact ptRun_3_021
      · exact ptRun_3_022
  · rcases gb with rfl | rfl | rfl
    · rcases gc with rfl | rfl | rfl
      · exact ptRun_3_100
      · exact ptRun_3_101
      · exact ptRun_3_102
    · rcases gc with rfl | rfl | rfl
      · exact ptRun_3_110
      · exact ptRun_3_111
      · exact ptRun_3_112
    · rcases gc with rfl | rfl | rfl
      · exact ptRun_3_120
      · exact ptRun_3_121
      · exact ptRun_3_122
  · rcases gb with rfl | rfl | rfl
    · rcases gc with rfl | rfl | rfl
      · exact ptRun_3_200
      · exact ptRun_3_201
      · exact ptRun_3_202
    · rcases gc with rfl | rfl | rfl
      · exact ptRun_3_210
      · exact ptRun_3_211
      · exact ptRun_3_212
    · rcases gc with rfl | rfl | rfl
      · exact ptRun_3_220
      · exact ptRun_3_221
      · exact ptRun_3_222
theorem pt_shape (k : Nat → Nat) (hk : ∀ i, k i ≤ 2) {N : Nat} (h1 : 1 ≤ N) (h2 : N ≤ 3) : ∃ c : Nat → Nat, (∀ i, i < N → c i = k i) ∧ PtRun N c := by
  have : N = 1 ∨ N = 2 ∨ N = 3 := by omega
  rcases this with rfl | rfl | rfl
  · refine ⟨_, ?_, pt_run1 (k 0) (hk 0)⟩
    intro i hi
    match i, hi with
    | 0, _ => rfl
  · refine ⟨_, ?_, pt_run2 (k 0) (k 1) (hk 0) (hk 1)⟩
    intro i hi
    match i, hi with
    | 0, _ => rfl
    | 1, _ => rfl
  · refine ⟨_, ?_, pt_run3 (k 0) (k 1) (k 2) (hk 0) (hk 1) (hk 2)⟩
    intro i hi
    match i, hi with
    | 0, _ => rfl
    | 1, _ => rfl
    | 2, _ => rfl
/-- Whether a number is finite, and that it is one then. -/
def finB (x : Nat) : Bool := FloatKind.f64.format.order (fop .sub .f64 x x) 0 == some .eq
theorem fin_at (x : Nat) : Runs Try.prog 27 #[.float .f64 x] #[] (.bool (finB x)) #[] := by
  have k : ∀ b : Bool, (askN noF fltC 12 27 #[.float .f64 x] #[] [yes b]).map (fun r => (r.1, r.2.2)) = some (.bool b, [.cmp .eql 30 (.float .f64 (fop .sub .f64 x x)) (.float .f64 0) b]) := by
    intro b
    cases b <;> kernel_rfl
  obtain ⟨H', r⟩ := tells_of (k (finB x)) ⟨rfl, trivial⟩
  exact r.quiet rfl rfl #[]
theorem finB_nn {x : Nat} (h : NaNor x) (hf : finB x = true) : NN x := by
  refine h.resolve_right ?_
  rintro rfl
  have : finB (nanW .f64) = false := by decide +kernel
  rw [this] at hf
  cases hf
noncomputable def askMg (f : FuncId) : Nat := if f == 33 then 1 else if f == 49 then 2 else 0
theorem mag_cameT (a b x y : Nat) (c : Bool) : (askN askMg fltC 12 28 #[fl2 a b] #[] [isG x, isG y, yes c]).map (fun r => (r.1, r.2.2)) = some (.float .f64 (sel c y x), [absO a x, absO b y, cmpF .gtr y x c]) := by
  cases c <;> kernel_rfl
theorem mag_any {X : Nat × Nat} (h : Rt X) : ∃ g, Runs Try.prog 28 #[vI X] #[] (.float .f64 g) #[] := by
  obtain ⟨a1, a2⟩ := abs_ix h.l
  obtain ⟨b1, b2⟩ := abs_ix h.h
  have ob : okAll Try.prog [absO X.1 (fabs X.1), absO X.2 (fabs X.2), cmpF .gtr (fabs X.2) (fabs X.1) (decide (ix (fabs X.1) < ix (fabs X.2)))] := ⟨abs_runs h.l, abs_runs h.h, (fc _ rfl _ _).trans (gtr_ix b1 a1), trivial⟩
  obtain ⟨H', r⟩ := tells_of (mag_cameT X.1 X.2 _ _ _) ob
  exact ⟨_, r.quiet rfl rfl #[]⟩

set_option maxHeartbeats 4000000 in
theorem tapePoints_pad {o o2 : Option ABlk} {va vb : Value} {zs ms : List Int} (ha : Handed #[o, o2] zs va) (hb : Handed #[o, o2] ms vb) (n : Int) (dv : Bool) :
    Tells 6 #[.int .i64 n, va, .bool dv, vb] #[o, o2] (.bool true) := by
  obtain ⟨n1, n2⟩ := mkN_le n
  generalize hN : mkN n = N at n1 n2
  generalize hfx : (fun i => vw8 (Fz (vlI ms i))) = fx
  have hxf : ∀ i, Fi (fx i) := fun i => by rw [← hfx]; exact (vl_dy ms i).fi
  have hin : ∀ k, NIn (regF (mkOps n zs dv) ((List.range N).map fx) k) (regP (mkOps n zs dv) ((List.range N).map fun i => (fx i, fx i)) k) := by
    refine reg_in (mk_fi n zs dv) (fun i => ?_)
    simp only [List.getD_eq_getElem?_getD, List.getElem?_map]
    by_cases c : i < N
    · rw [List.getElem?_range c]; exact nIn_pt (hxf i)
    · rw [List.getElem?_eq_none (l := List.range N) (by simp; omega)]; exact nIn_pt fi_zero.1
  have hyz : ∀ i, NIn (evF n zs dv ((List.range N).map fx) i) (evP n zs dv ((List.range N).map fun i => (fx i, fx i)) i) := fun i => hin _
  generalize hfy : evF n zs dv ((List.range N).map fx) = fy at hyz
  generalize hfz : evP n zs dv ((List.range N).map fun i => (fx i, fx i)) = fZ at hyz
  obtain ⟨g, hg⟩ := Classical.axiomOfChoice (fun i : Nat => mag_any (hyz i).rs.rt)
  obtain ⟨c, hc, hrun⟩ := pt_shape (fun i => if finB (fy i) = true then (if finB (g i) = true then 2 else 1) else 0) (fun i => by
    split
    · split <;> omega
    · omega) n1 n2
  have r := hrun o o2 n dv (mkM n zs) va vb (opsB (mkOps n zs dv) true).cells (intB (mkOut n (mkM n zs)) true).cells fx fy fZ g
  have hh := fun (c : List (Option ABlk)) {zs : List Int} {v : Value} (h : Handed [o, o2].toArray zs v) => h.list c
  have hrX : ∀ X ∈ (List.range N).map (fun i => (fx i, fx i)), Rt X := by
    intro X hX
    obtain ⟨i, hi, rfl⟩ := List.mem_map.1 hX
    exact rt_pt (hxf i).nn
  have hval := val_rn (l := [o, o2, opB (opsB (mkOps n zs dv) true).cells, iB (intB (mkOut n (mkM n zs)) true).cells, tcB 2 N (mkM n zs)]) n1 (by omega) (hh [_, _, _] hb) (s := 5) rfl
  rw [hfx] at hval
  refine tells_of r (okApp (okApp (okApp (okApp ⟨tapeKnown0, make_rn n dv (hh [] ha) hN rfl rfl, hval, trivial⟩ (map_ok _ _ fun i hi => cmp_ok (decide_eq_true (List.mem_range.1 hi)))) ?_) (each_ok _ _ fun i hi => ?_)) ⟨cmp_ok (decide_eq_false (by omega)), trivial⟩)
  · obtain ⟨g1, g2⟩ := grRi_last n1 n2 (fun i => (fx i, fx i))
    have hlen : (hpP o o2 N (mkM n zs) (opsB (mkOps n zs dv) true).cells (intB (mkOut n (mkM n zs)) true).cells fx).length = 6 + 2 * N := by
      unfold hpP
      rw [List.length_append, g1]
      rfl
    have hA : (hpP o o2 N (mkM n zs) (opsB (mkOps n zs dv) true).cells (intB (mkOut n (mkM n zs)) true).cells fx)[5 + 2 * N]? = some (some ⟨((List.range N).flatMap fun i => pC (fx i, fx i)).toArray, 39, 2, true⟩) := by
      unfold hpP
      rw [List.getElem?_append_right (by simp; omega)]
      show (grRi N fun i => (fx i, fx i))[5 + 2 * N - 6]? = _
      rw [show 5 + 2 * N - 6 = 2 * N - 1 by omega]
      exact g2
    generalize hH : hpP o o2 N (mkM n zs) (opsB (mkOps n zs dv) true).cells (intB (mkOut n (mkM n zs)) true).cells fx = HH at hlen hA
    have q2 : HH[2]? = some (opB (opsB (mkOps n zs dv) true).cells) := by rw [← hH]; rfl
    have q3 : HH[3]? = some (iB (intB (mkOut n (mkM n zs)) true).cells) := by rw [← hH]; rfl
    have q5 : HH[5]? = some (nwF ((List.range N).map fx)) := by rw [← hH]; rfl
    have ap : ∀ {i : Nat} {x : Option ABlk} (c : List (Option ABlk)), HH[i]? = some x → (HH ++ c)[i]? = some x := by
      intro i x c h
      rw [List.getElem?_append_left (List.getElem?_eq_some_iff.1 h).1]; exact h
    have e1 := evF_rn (l := HH) n zs dv (xs := (List.range N).map fx) (bo := 2) (bu := 3) (bx := 5) (s := 6 + 2 * N) hN rfl (by simp) (t := 0) (z := 0) q2 q3 q5 rfl hlen.symm
    have e2 := evP_rn (l := HH ++ [nwF ((List.range N).map fy)]) n zs dv hrX (bo := 2) (bu := 3) (bx := 5 + 2 * N) (s := 7 + 2 * N) hN rfl (by simp) (t := 0) (z := 0) (ap _ q2) (ap _ q3) (ap _ hA) (by rw [List.flatMap_map]) (by simp [hlen]; omega)
    rw [hfy] at e1
    rw [hfz] at e2
    exact ⟨cmp_ok (decide_eq_false (by omega)), e1.1, e2.1, trivial⟩
  · have hi' := List.mem_range.1 hi
    have hci := hc i hi'
    unfold soPt
    refine okApp ⟨cmp_ok (decide_eq_true hi'), trivial⟩ ?_
    have f1 := fin_at (fy i)
    have f2 := fin_at (g i)
    by_cases h1 : finB (fy i) = true
    · rw [h1] at f1
      rw [if_pos h1] at hci
      by_cases h2 : finB (g i) = true
      · rw [h2] at f2
        rw [if_pos h2] at hci
        have hn := finB_nn (hyz i).nn h1
        rw [if_neg (by omega), if_neg (by omega)]
        exact ⟨f1, hg i, f2, in_yesT hn (hyz i).rs.rt ((hyz i).is hn), trivial⟩
      · rw [if_neg h2] at hci
        rw [Bool.not_eq_true] at h2
        rw [h2] at f2
        rw [if_neg (by omega), if_pos hci]
        exact ⟨f1, hg i, f2, trivial⟩
    · rw [if_neg h1] at hci
      rw [Bool.not_eq_true] at h1
      rw [h1] at f1
      rw [if_pos hci]
      exact ⟨f1, trivial⟩

end Go.Proofs.Ytpmdpbljgidllaa
