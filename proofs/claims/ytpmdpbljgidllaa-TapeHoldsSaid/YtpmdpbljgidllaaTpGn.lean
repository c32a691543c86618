/- TpFl / TpGn: several texts in one. -/
import Derived.Test.YtpmdpbljgidllaaTpLz
import Derived.Test.YtpmdpbljgidllaaTpRel
/-!  math.Floor of the constants that Make makes. -/
namespace Go.Proofs.Ytpmdpbljgidllaa
open Go
set_option linter.unusedVariables false
set_option linter.unusedSimpArgs false
set_option maxRecDepth 100000

def FlOK (c : Nat) : Prop := ∃ f, Runs Try.prog 32 #[.float .f64 c] #[] (.float .f64 f) #[] ∧ Fi f ∧ -4616189618054758400 ≤ ix f ∧ ix f ≤ 4616189618054758400
theorem flOK_of {c f : Nat} (h : (askN noF noC 12 32 #[.float .f64 c] #[] []).map (fun r => (r.1, r.2.2)) = some (.float .f64 f, [])) (hf : Fi f) (h1 : -4616189618054758400 ≤ ix f) (h2 : ix f ≤ 4616189618054758400) : FlOK c := ⟨f, quiet_of' h trivial rfl rfl, hf, h1, h2⟩
theorem fl8_m16 : FlOK (fop .quo .f64 (Fz (-16)) 4620693217682128896) := flOK_of (f := Fz ((-16 : Int).fdiv 8)) (by kernel_rfl) (Dy.F (n := (-16 : Int).fdiv 8) (by decide)).fi (by decide +kernel) (by decide +kernel)
theorem fl8_m15 : FlOK (fop .quo .f64 (Fz (-15)) 4620693217682128896) := flOK_of (f := Fz ((-15 : Int).fdiv 8)) (by kernel_rfl) (Dy.F (n := (-15 : Int).fdiv 8) (by decide)).fi (by decide +kernel) (by decide +kernel)
theorem fl8_m14 : FlOK (fop .quo .f64 (Fz (-14)) 4620693217682128896) := flOK_of (f := Fz ((-14 : Int).fdiv 8)) (by kernel_rfl) (Dy.F (n := (-14 : Int).fdiv 8) (by decide)).fi (by decide +kernel) (by decide +kernel)
theorem fl8_m13 : FlOK (fop .quo .f64 (Fz (-13)) 4620693217682128896) := flOK_of (f := Fz ((-13 : Int).fdiv 8)) (by kernel_rfl) (Dy.F (n := (-13 : Int).fdiv 8) (by decide)).fi (by decide +kernel) (by decide +kernel)
theorem fl8_m12 : FlOK (fop .quo .f64 (Fz (-12)) 4620693217682128896) := flOK_of (f := Fz ((-12 : Int).fdiv 8)) (by kernel_rfl) (Dy.F (n := (-12 : Int).fdiv 8) (by decide)).fi (by decide +kernel) (by decide +kernel)
theorem fl8_m11 : FlOK (fop .quo .f64 (Fz (-11)) 4620693217682128896) := flOK_of (f := Fz ((-11 : Int).fdiv 8)) (by kernel_rfl) (Dy.F (n := (-11 : Int).fdiv 8) (by decide)).fi (by decide +kernel) (by decide +kernel)
theorem fl8_m10 : FlOK (fop .quo .f64 (Fz (-10)) 4620693217682128896) := flOK_of (f := Fz ((-10 : Int).fdiv 8)) (by kernel_rfl) (Dy.F (n := (-10 : Int).fdiv 8) (by decide)).fi (by decide +kernel) (by decide +kernel)
theorem fl8_m9 : FlOK (fop .quo .f64 (Fz (-9)) 4620693217682128896) := flOK_of (f := Fz ((-9 : Int).fdiv 8)) (by kernel_rfl) (Dy.F (n := (-9 : Int).fdiv 8) (by decide)).fi (by decide +kernel) (by decide +kernel)
theorem fl8_m8 : FlOK (fop .quo .f64 (Fz (-8)) 4620693217682128896) := flOK_of (f := Fz ((-8 : Int).fdiv 8)) (by kernel_rfl) (Dy.F (n := (-8 : Int).fdiv 8) (by decide)).fi (by decide +kernel) (by decide +kernel)
theorem fl8_m7 : FlOK (fop .quo .f64 (Fz (-7)) 4620693217682128896) := flOK_of (f := Fz ((-7 : Int).fdiv 8)) (by kernel_rfl) (Dy.F (n := (-7 : Int).fdiv 8) (by decide)).fi (by decide +kernel) (by decide +kernel)
theorem fl8_m6 : FlOK (fop .quo .f64 (Fz (-6)) 4620693217682128896) := flOK_of (f := Fz ((-6 : Int).fdiv 8)) (by kernel_rfl) (Dy.F (n := (-6 : Int).fdiv 8) (by decide)).fi (by decide +kernel) (by decide +kernel)
theorem fl8_m5 : FlOK (fop .quo .f64 (Fz (-5)) 4620693217682128896) := flOK_of (f := Fz ((-5 : Int).fdiv 8)) (by kernel_rfl) (Dy.F (n := (-5 : Int).fdiv 8) (by decide)).fi (by decide +kernel) (by decide +kernel)
theorem fl8_m4 : FlOK (fop .quo .f64 (Fz (-4)) 4620693217682128896) := flOK_of (f := Fz ((-4 : Int).fdiv 8)) (by kernel_rfl) (Dy.F (n := (-4 : Int).fdiv 8) (by decide)).fi (by decide +kernel) (by decide +kernel)
theorem fl8_m3 : FlOK (fop .quo .f64 (Fz (-3)) 4620693217682128896) := flOK_of (f := Fz ((-3 : Int).fdiv 8)) (by kernel_rfl) (Dy.F (n := (-3 : Int).fdiv 8) (by decide)).fi (by decide +kernel) (by decide +kernel)
theorem fl8_m2 : FlOK (fop .quo .f64 (Fz (-2)) 4620693217682128896) := flOK_of (f := Fz ((-2 : Int).fdiv 8)) (by kernel_rfl) (Dy.F (n := (-2 : Int).fdiv 8) (by decide)).fi (by decide +kernel) (by decide +kernel)
theorem fl8_m1 : FlOK (fop .quo .f64 (Fz (-1)) 4620693217682128896) := flOK_of (f := Fz ((-1 : Int).fdiv 8)) (by kernel_rfl) (Dy.F (n := (-1 : Int).fdiv 8) (by decide)).fi (by decide +kernel) (by decide +kernel)
theorem fl8_0 : FlOK (fop .quo .f64 (Fz (0)) 4620693217682128896) := flOK_of (f := Fz ((0 : Int).fdiv 8)) (by kernel_rfl) (Dy.F (n := (0 : Int).fdiv 8) (by decide)).fi (by decide +kernel) (by decide +kernel)
theorem fl8_1 : FlOK (fop .quo .f64 (Fz (1)) 4620693217682128896) := flOK_of (f := Fz ((1 : Int).fdiv 8)) (by kernel_rfl) (Dy.F (n := (1 : Int).fdiv 8) (by decide)).fi (by decide +kernel) (by decide +kernel)
theorem fl8_2 : FlOK (fop .quo .f64 (Fz (2)) 4620693217682128896) := flOK_of (f := Fz ((2 : Int).fdiv 8)) (by kernel_rfl) (Dy.F (n := (2 : Int).fdiv 8) (by decide)).fi (by decide +kernel) (by decide +kernel)
theorem fl8_3 : FlOK (fop .quo .f64 (Fz (3)) 4620693217682128896) := flOK_of (f := Fz ((3 : Int).fdiv 8)) (by kernel_rfl) (Dy.F (n := (3 : Int).fdiv 8) (by decide)).fi (by decide +kernel) (by decide +kernel)
theorem fl8_4 : FlOK (fop .quo .f64 (Fz (4)) 4620693217682128896) := flOK_of (f := Fz ((4 : Int).fdiv 8)) (by kernel_rfl) (Dy.F (n := (4 : Int).fdiv 8) (by decide)).fi (by decide +kernel) (by decide +kernel)
theorem fl8_5 : FlOK (fop .quo .f64 (Fz (5)) 4620693217682128896) := flOK_of (f := Fz ((5 : Int).fdiv 8)) (by kernel_rfl) (Dy.F (n := (5 : Int).fdiv 8) (by decide)).fi (by decide +kernel) (by decide +kernel)
theorem fl8_6 : FlOK (fop .quo .f64 (Fz (6)) 4620693217682128896) := flOK_of (f := Fz ((6 : Int).fdiv 8)) (by kernel_rfl) (Dy.F (n := (6 : Int).fdiv 8) (by decide)).fi (by decide +kernel) (by decide +kernel)
theorem fl8_7 : FlOK (fop .quo .f64 (Fz (7)) 4620693217682128896) := flOK_of (f := Fz ((7 : Int).fdiv 8)) (by kernel_rfl) (Dy.F (n := (7 : Int).fdiv 8) (by decide)).fi (by decide +kernel) (by decide +kernel)
theorem fl8_8 : FlOK (fop .quo .f64 (Fz (8)) 4620693217682128896) := flOK_of (f := Fz ((8 : Int).fdiv 8)) (by kernel_rfl) (Dy.F (n := (8 : Int).fdiv 8) (by decide)).fi (by decide +kernel) (by decide +kernel)
theorem fl8_9 : FlOK (fop .quo .f64 (Fz (9)) 4620693217682128896) := flOK_of (f := Fz ((9 : Int).fdiv 8)) (by kernel_rfl) (Dy.F (n := (9 : Int).fdiv 8) (by decide)).fi (by decide +kernel) (by decide +kernel)
theorem fl8_10 : FlOK (fop .quo .f64 (Fz (10)) 4620693217682128896) := flOK_of (f := Fz ((10 : Int).fdiv 8)) (by kernel_rfl) (Dy.F (n := (10 : Int).fdiv 8) (by decide)).fi (by decide +kernel) (by decide +kernel)
theorem fl8_11 : FlOK (fop .quo .f64 (Fz (11)) 4620693217682128896) := flOK_of (f := Fz ((11 : Int).fdiv 8)) (by kernel_rfl) (Dy.F (n := (11 : Int).fdiv 8) (by decide)).fi (by decide +kernel) (by decide +kernel)
theorem fl8_12 : FlOK (fop .quo .f64 (Fz (12)) 4620693217682128896) := flOK_of (f := Fz ((12 : Int).fdiv 8)) (by kernel_rfl) (Dy.F (n := (12 : Int).fdiv 8) (by decide)).fi (by decide +kernel) (by decide +kernel)
theorem fl8_13 : FlOK (fop .quo .f64 (Fz (13)) 4620693217682128896) := flOK_of (f := Fz ((13 : Int).fdiv 8)) (by kernel_rfl) (Dy.F (n := (13 : Int).fdiv 8) (by decide)).fi (by decide +kernel) (by decide +kernel)
theorem fl8_14 : FlOK (fop .quo .f64 (Fz (14)) 4620693217682128896) := flOK_of (f := Fz ((14 : Int).fdiv 8)) (by kernel_rfl) (Dy.F (n := (14 : Int).fdiv 8) (by decide)).fi (by decide +kernel) (by decide +kernel)
theorem fl8_15 : FlOK (fop .quo .f64 (Fz (15)) 4620693217682128896) := flOK_of (f := Fz ((15 : Int).fdiv 8)) (by kernel_rfl) (Dy.F (n := (15 : Int).fdiv 8) (by decide)).fi (by decide +kernel) (by decide +kernel)
theorem fl8_16 : FlOK (fop .quo .f64 (Fz (16)) 4620693217682128896) := flOK_of (f := Fz ((16 : Int).fdiv 8)) (by kernel_rfl) (Dy.F (n := (16 : Int).fdiv 8) (by decide)).fi (by decide +kernel) (by decide +kernel)
theorem fl4_m8 : FlOK (fop .quo .f64 (Fz (-8)) 4616189618054758400) := flOK_of (f := Fz ((-8 : Int).fdiv 4)) (by kernel_rfl) (Dy.F (n := (-8 : Int).fdiv 4) (by decide)).fi (by decide +kernel) (by decide +kernel)
theorem fl4_m7 : FlOK (fop .quo .f64 (Fz (-7)) 4616189618054758400) := flOK_of (f := Fz ((-7 : Int).fdiv 4)) (by kernel_rfl) (Dy.F (n := (-7 : Int).fdiv 4) (by decide)).fi (by decide +kernel) (by decide +kernel)
theorem fl4_m6 : FlOK (fop .quo .f64 (Fz (-6)) 4616189618054758400) := flOK_of (f := Fz ((-6 : Int).fdiv 4)) (by kernel_rfl) (Dy.F (n := (-6 : Int).fdiv 4) (by decide)).fi (by decide +kernel) (by decide +kernel)
theorem fl4_m5 : FlOK (fop .quo .f64 (Fz (-5)) 4616189618054758400) := flOK_of (f := Fz ((-5 : Int).fdiv 4)) (by kernel_rfl) (Dy.F (n := (-5 : Int).fdiv 4) (by decide)).fi (by decide +kernel) (by decide +kernel)
theorem fl4_m4 : FlOK (fop .quo .f64 (Fz (-4)) 4616189618054758400) := flOK_of (f := Fz ((-4 : Int).fdiv 4)) (by kernel_rfl) (Dy.F (n := (-4 : Int).fdiv 4) (by decide)).fi (by decide +kernel) (by decide +kernel)
theorem fl4_m3 : FlOK (fop .quo .f64 (Fz (-3)) 4616189618054758400) := flOK_of (f := Fz ((-3 : Int).fdiv 4)) (by kernel_rfl) (Dy.F (n := (-3 : Int).fdiv 4) (by decide)).fi (by decide +kernel) (by decide +kernel)
theorem fl4_m2 : FlOK (fop .quo .f64 (Fz (-2)) 4616189618054758400) := flOK_of (f := Fz ((-2 : Int).fdiv 4)) (by kernel_rfl) (Dy.F (n := (-2 : Int).fdiv 4) (by decide)).fi (by decide +kernel) (by decide +kernel)
theorem fl4_m1 : FlOK (fop .quo .f64 (Fz (-1)) 4616189618054758400) := flOK_of (f := Fz ((-1 : Int).fdiv 4)) (by kernel_rfl) (Dy.F (n := (-1 : Int).fdiv 4) (by decide)).fi (by decide +kernel) (by decide +kernel)
theorem fl4_0 : FlOK (fop .quo .f64 (Fz (0)) 4616189618054758400) := flOK_of (f := Fz ((0 : Int).fdiv 4)) (by kernel_rfl) (Dy.F (n := (0 : Int).fdiv 4) (by decide)).fi (by decide +kernel) (by decide +kernel)
theorem fl4_1 : FlOK (fop .quo .f64 (Fz (1)) 4616189618054758400) := flOK_of (f := Fz ((1 : Int).fdiv 4)) (by kernel_rfl) (Dy.F (n := (1 : Int).fdiv 4) (by decide)).fi (by decide +kernel) (by decide +kernel)
theorem fl4_2 : FlOK (fop .quo .f64 (Fz (2)) 4616189618054758400) := flOK_of (f := Fz ((2 : Int).fdiv 4)) (by kernel_rfl) (Dy.F (n := (2 : Int).fdiv 4) (by decide)).fi (by decide +kernel) (by decide +kernel)
theorem fl4_3 : FlOK (fop .quo .f64 (Fz (3)) 4616189618054758400) := flOK_of (f := Fz ((3 : Int).fdiv 4)) (by kernel_rfl) (Dy.F (n := (3 : Int).fdiv 4) (by decide)).fi (by decide +kernel) (by decide +kernel)
theorem fl4_4 : FlOK (fop .quo .f64 (Fz (4)) 4616189618054758400) := flOK_of (f := Fz ((4 : Int).fdiv 4)) (by kernel_rfl) (Dy.F (n := (4 : Int).fdiv 4) (by decide)).fi (by decide +kernel) (by decide +kernel)
theorem fl4_5 : FlOK (fop .quo .f64 (Fz (5)) 4616189618054758400) := flOK_of (f := Fz ((5 : Int).fdiv 4)) (by kernel_rfl) (Dy.F (n := (5 : Int).fdiv 4) (by decide)).fi (by decide +kernel) (by decide +kernel)
theorem fl4_6 : FlOK (fop .quo .f64 (Fz (6)) 4616189618054758400) := flOK_of (f := Fz ((6 : Int).fdiv 4)) (by kernel_rfl) (Dy.F (n := (6 : Int).fdiv 4) (by decide)).fi (by decide +kernel) (by decide +kernel)
theorem fl4_7 : FlOK (fop .quo .f64 (Fz (7)) 4616189618054758400) := flOK_of (f := Fz ((7 : Int).fdiv 4)) (by kernel_rfl) (Dy.F (n := (7 : Int).fdiv 4) (by decide)).fi (by decide +kernel) (by decide +kernel)
theorem fl4_8 : FlOK (fop .quo .f64 (Fz (8)) 4616189618054758400) := flOK_of (f := Fz ((8 : Int).fdiv 4)) (by kernel_rfl) (Dy.F (n := (8 : Int).fdiv 4) (by decide)).fi (by decide +kernel) (by decide +kernel)
theorem fl8 (i : Int) (h1 : -16 ≤ i) (h2 : i ≤ 16) : FlOK (fop .quo .f64 (Fz i) 4620693217682128896) := by
  have : i = -16 ∨ i = -15 ∨ i = -14 ∨ i = -13 ∨ i = -12 ∨ i = -11 ∨ i = -10 ∨ i = -9 ∨ i = -8 ∨ i = -7 ∨ i = -6 ∨ i = -5 ∨ i = -4 ∨ i = -3 ∨ i = -2 ∨ i = -1 ∨ i = 0 ∨ i = 1 ∨ i = 2 ∨ i = 3 ∨ i = 4 ∨ i = 5 ∨ i = 6 ∨ i = 7 ∨ i = 8 ∨ i = 9 ∨ i = 10 ∨ i = 11 ∨ i = 12 ∨ i = 13 ∨ i = 14 ∨ i = 15 ∨ i = 16 := by omega
  rcases this with rfl | rfl | rfl | rfl | rfl | rfl | rfl | rfl | rfl | rfl | rfl | rfl | rfl | rfl | rfl | rfl | rfl | rfl | rfl | rfl | rfl | rfl | rfl | rfl | rfl | rfl | rfl | rfl | rfl | rfl | rfl | rfl | rfl
  · exact fl8_m16
  · exact fl8_m15
  · exact fl8_m14
  · exact fl8_m13
  · exact fl8_m12
  · exact fl8_m11
  · exact fl8_m10
  · exact fl8_m9
  · exact fl8_m8
  · exact fl8_m7
  · exact fl8_m6
  · exact fl8_m5
  · exact fl8_m4
  · exact fl8_m3
  · exact fl8_m2
  · exact fl8_m1
  · exact fl8_0
  · exact fl8_1
  · exact fl8_2
  · exact fl8_3
  · exact fl8_4
  · exact fl8_5
  · exact fl8_6
  · exact fl8_7
  · exact fl8_8
  · exact fl8_9
  · exact fl8_10
  · exact fl8_11
  · exact fl8_12
  · exact fl8_13
  · exact fl8_14
  · exact fl8_15
  · exact fl8_16
theorem fl4 (i : Int) (h1 : -8 ≤ i) (h2 : i ≤ 8) : FlOK (fop .quo .f64 (Fz i) 4616189618054758400) := by
  have : i = -8 ∨ i = -7 ∨ i = -6 ∨ i = -5 ∨ i = -4 ∨ i = -3 ∨ i = -2 ∨ i = -1 ∨ i = 0 ∨ i = 1 ∨ i = 2 ∨ i = 3 ∨ i = 4 ∨ i = 5 ∨ i = 6 ∨ i = 7 ∨ i = 8 := by omega
  rcases this with rfl | rfl | rfl | rfl | rfl | rfl | rfl | rfl | rfl | rfl | rfl | rfl | rfl | rfl | rfl | rfl | rfl
  · exact fl4_m8
  · exact fl4_m7
  · exact fl4_m6
  · exact fl4_m5
  · exact fl4_m4
  · exact fl4_m3
  · exact fl4_m2
  · exact fl4_m1
  · exact fl4_0
  · exact fl4_1
  · exact fl4_2
  · exact fl4_3
  · exact fl4_4
  · exact fl4_5
  · exact fl4_6
  · exact fl4_7
  · exact fl4_8
/-- Each constant of a field that Make makes has a floor. -/
theorem mk_floor (n : Int) (zs : List Int) (dv : Bool) {k : Nat} (hk : k < mkM n zs) (h0 : (tmkO n zs dv k).K = 0) : FlOK (tmkO n zs dv k).C := by
  by_cases h1 : k < mkN n
  · have e : tmkO n zs dv k = ⟨1, Int.ofNat k, 0, 0⟩ := by unfold tmkO Omk; rw [if_pos h1]
    rw [e] at h0
    exact absurd h0 (show ¬ ((1 : Int) = 0) by decide)
  by_cases h2 : k = mkN n
  · have e : tmkO n zs dv k = ⟨0, 0, 0, fop .quo .f64 (mkC n) 4616189618054758400⟩ := by unfold tmkO Omk; rw [if_neg h1, if_pos h2]
    rw [e]
    unfold mkC
    have a1 := Int.emod_nonneg n (b := 17) (by decide)
    have a2 := Int.emod_lt_of_pos n (b := 17) (by decide)
    rw [show wr (n % 17 - 8) = n % 17 - 8 from wrap_id (by omega) (by omega)]
    exact fl4 _ (by omega) (by omega)
  · obtain ⟨i, rfl⟩ : ∃ i, k = mkN n + 1 + i := ⟨k - (mkN n + 1), by omega⟩
    have hi : i < 8 ∧ i < zs.length := by unfold mkM mkL at hk; omega
    rw [mkO_at (List.getElem?_eq_getElem hi.2) hi.1] at h0 ⊢
    generalize zs[i] = z at h0 ⊢
    unfold mkOp RnK.op at h0 ⊢
    by_cases h : decide (z % 11 = 0) = true
    · rw [h]
      have a1 := Int.emod_nonneg (wr (z.tdiv 11)) (b := 33) (by decide)
      have a2 := Int.emod_lt_of_pos (wr (z.tdiv 11)) (b := 33) (by decide)
      show FlOK (fop .quo .f64 (Fz (wr (wr (z.tdiv 11) % 33 - 16))) 4620693217682128896)
      rw [show wr (wr (z.tdiv 11) % 33 - 16) = wr (z.tdiv 11) % 33 - 16 from wrap_id (by omega) (by omega)]
      exact fl8 _ (by omega) (by omega)
    · rw [Bool.not_eq_true] at h
      rw [h] at h0
      have b1 := Int.emod_nonneg z (b := 3) (by decide)
      have b2 := Int.emod_lt_of_pos z (b := 3) (by decide)
      have hK : (mkRn (mkN n + 1 + i) z).K = 2 + z % 3 := wrap_id (by omega) (by omega)
      simp only [Bool.false_eq_true, if_false] at h0
      split at h0
      · exact absurd h0 (by decide)
      · rw [hK] at h0; omega

end Go.Proofs.Ytpmdpbljgidllaa

/-!  tape.Eval, tape.EvalIv of any field of at most twenty operations, in any memory. -/
namespace Go.Proofs.Ytpmdpbljgidllaa
open Go
set_option linter.unusedVariables false
set_option linter.unusedSimpArgs false
set_option maxRecDepth 100000

theorem evG_rn {l : List (Option ABlk)} {ops : List OpD} {out : List Int} {xs : List Nat} {N M bo bu bx s : Nat} (hM : ops.length = M) (h3 : 2 ≤ M) (h4 : M ≤ 20) (h1 : 1 ≤ N) (h2 : N ≤ 3) (hx : xs.length = N) (ho : out.length = N) (hok : ∀ k o, ops[k]? = some o → opOkD k N o) (hu : ∀ u ∈ out, 0 ≤ u ∧ u < M)
    {co cu : Array Value} {B : ABlk} (q0 : l[bo]? = some (opB co)) (e0 : co = (opsB ops true).cells) (q1 : l[bu]? = some (iB cu)) (e1 : cu = (intB out true).cells) (q2 : l[bx]? = some (some B)) (e2 : B.cells = (xs.flatMap fC).toArray) (hs : s = l.length) {fy : Nat → Nat} (hy : evOut (regF ops xs) out = (List.range N).map fy) :
    (rnO 25 #[tpV bo bu N M, slV bx N] l (slV s N) [nwF ((List.range N).map fy)]).ok Try.prog := by
  subst hM hs
  rw [← hy]
  have hG : EvH (some (opsB ops false)) (some (intB out false)) (some ⟨(xs.flatMap fC).toArray, 30, 1, false⟩) N ops out xs := ⟨⟨_, rfl, rfl⟩, ⟨_, rfl, rfl⟩, ⟨_, rfl, rfl⟩, hok, hx, ho, hu⟩
  have r1 := EvH.eval hG rfl rfl rfl h3 (by omega) h1 h2
  have r2 := ev_move r1 rfl rfl rfl rfl (opsB_plain _ _) (intB_plain _ _) (plain_flat fC_cl _ _ _ _) (plain_flat fC_cl _ _ _ _) (H := froze l.toArray) (fz_at q0) e0 (fz_at q1) e1 (fz_at q2) e2
  rw [fz_size] at r2
  exact r2
theorem evI_rn {l : List (Option ABlk)} {ops : List OpD} {out : List Int} {xs : List (Nat × Nat)} {N M bo bu bx s : Nat} (hM : ops.length = M) (h3 : 2 ≤ M) (h4 : M ≤ 20) (h1 : 1 ≤ N) (h2 : N ≤ 3) (hx : xs.length = N) (ho : out.length = N) (hok : ∀ k o, ops[k]? = some o → opOkD k N o) (hu : ∀ u ∈ out, 0 ≤ u ∧ u < M) (hr : ∀ k, Rt (regP ops xs k))
    {co cu : Array Value} {B : ABlk} (q0 : l[bo]? = some (opB co)) (e0 : co = (opsB ops true).cells) (q1 : l[bu]? = some (iB cu)) (e1 : cu = (intB out true).cells) (q2 : l[bx]? = some (some B)) (e2 : B.cells = (xs.flatMap pC).toArray) (hs : s = l.length) {fy : Nat → Nat × Nat} (hy : evOut (regP ops xs) out = (List.range N).map fy) :
    (rnO 20 #[tpV bo bu N M, slV bx N] l (slV s N) [nwP ((List.range N).map fy)]).ok Try.prog := by
  subst hM hs
  rw [← hy]
  have hG : EvI (some (opsB ops false)) (some (intB out false)) (some ⟨(xs.flatMap pC).toArray, 39, 2, false⟩) N ops out xs := ⟨⟨_, rfl, rfl⟩, ⟨_, rfl, rfl⟩, ⟨_, rfl, rfl⟩, hok, hx, ho, hu⟩
  have r1 := EvI.eval hG hr rfl rfl rfl h3 (by omega) h1 h2
  have r2 := ev_move r1 rfl rfl rfl rfl (opsB_plain _ _) (intB_plain _ _) (plain_flat pC_cl _ _ _ _) (plain_flat pC_cl _ _ _ _) (H := froze l.toArray) (fz_at q0) e0 (fz_at q1) e1 (fz_at q2) e2
  rw [fz_size] at r2
  exact r2
theorem evOut_range {α : Type} (F : Nat → α) (u : Nat → Int) (N : Nat) : evOut F ((List.range N).map u) = (List.range N).map fun i => F (u i).toNat := by
  unfold evOut
  rw [List.map_map]
  rfl

/-! how great numbers become -/
def bxW (j : Nat) : Nat := (1023 + [2, 5, 11, 23, 47, 95, 191, 383, 767].getD j 767) * 4503599627370496
def bx (j : Nat) : Nat × Nat := (bxW j + 9223372036854775808, bxW j)
theorem bx_fi (j : Nat) (h : j ≤ 8) : Fi (bx j).1 ∧ Fi (bx j).2 ∧ ix (bx j).1 ≤ ix (bx j).2 := by
  have : j = 0 ∨ j = 1 ∨ j = 2 ∨ j = 3 ∨ j = 4 ∨ j = 5 ∨ j = 6 ∨ j = 7 ∨ j = 8 := by omega
  rcases this with rfl | rfl | rfl | rfl | rfl | rfl | rfl | rfl | rfl <;> exact ⟨⟨by decide +kernel, by decide +kernel, by decide +kernel⟩, ⟨by decide +kernel, by decide +kernel, by decide +kernel⟩, by decide +kernel⟩
theorem bx_rs {j : Nat} (h : j ≤ 8) : Rs (bx j) := rs_fi (bx_fi j h).1 (bx_fi j h).2.1 (bx_fi j h).2.2
theorem bx_next {j : Nat} (h : j < 8) : Wi (bx j) (bx (j + 1)) := by
  have : j = 0 ∨ j = 1 ∨ j = 2 ∨ j = 3 ∨ j = 4 ∨ j = 5 ∨ j = 6 ∨ j = 7 := by omega
  rcases this with rfl | rfl | rfl | rfl | rfl | rfl | rfl | rfl <;> exact ⟨by decide +kernel, by decide +kernel⟩
theorem bx_mono {i : Nat} : ∀ {j : Nat}, i ≤ j → j ≤ 8 → Wi (bx i) (bx j)
  | 0, h, _ => by obtain rfl : i = 0 := by omega
                  exact wi_refl _
  | j + 1, h, h8 => by
    by_cases c : i = j + 1
    · subst c; exact wi_refl _
    · exact (bx_mono (j := j) (by omega) (by omega)).trans (bx_next (by omega))
theorem bx_step {j : Nat} (h : j < 8) {K : Int} (h2 : 2 ≤ K) (h4 : K ≤ 4) : Wi (opP K (bx j) (bx j)) (bx (j + 1)) := by
  have : j = 0 ∨ j = 1 ∨ j = 2 ∨ j = 3 ∨ j = 4 ∨ j = 5 ∨ j = 6 ∨ j = 7 := by omega
  have hK : K = 2 ∨ K = 3 ∨ K = 4 := by omega
  rcases this with rfl | rfl | rfl | rfl | rfl | rfl | rfl | rfl <;> rcases hK with rfl | rfl | rfl <;> exact ⟨by decide +kernel, by decide +kernel⟩
theorem bx_in {j : Nat} (h : j ≤ 8) {v : Nat} (hv : NN v) (hi : InP v (bx j)) : Fi v := by
  obtain ⟨a, b, _⟩ := bx_fi j h
  exact ⟨hv.1, Int.lt_of_lt_of_le a.2.1 hi.1, Int.lt_of_le_of_lt hi.2 b.2.2⟩
/-- Of numbers of at most 4 in size sums, differences and products stay finite: eight of them. -/
theorem reg_bd {ops : List OpD} {xs : List Nat} {N : Nat} (hok : ∀ k o, ops[k]? = some o → opOkD k N o) (h5 : ∀ k o, ops[k]? = some o → o.K ≤ 4 ∧ (2 ≤ o.K → N < k)) (hl : ops.length ≤ N + 9) (hc : ∀ o ∈ ops, o.K = 0 → Fi o.C ∧ InP o.C (bx 0)) (hx : ∀ i, Fi (xs.getD i 0) ∧ InP (xs.getD i 0) (bx 0)) :
    ∀ (d k : Nat), k < d → k < ops.length → Fi (regF ops xs k) ∧ InP (regF ops xs k) (bx (k - N))
  | 0, k, hd, hk => absurd hd (by omega)
  | d + 1, k, hd, hk => by
    have ho := List.getElem?_eq_getElem hk
    generalize ops[k] = o at ho
    have e : regF ops xs k = stepT (fun c => c) opF (fun i => xs.getD i 0) (regF ops xs) o := regT_at ho (hok k o ho)
    have hm := List.mem_of_getElem? ho
    have h8 : k - N ≤ 8 := by omega
    rw [e]
    unfold stepT
    rcases hok k o ho with h0 | ⟨h1, _, _⟩ | ⟨h2, _, a1, a2, b1, b2⟩
    · rw [if_pos h0]
      exact ⟨(hc o hm h0).1, (hc o hm h0).2.wi (bx_mono (by omega) h8)⟩
    · rw [if_neg (by omega), if_pos h1]
      exact ⟨(hx _).1, (hx _).2.wi (bx_mono (by omega) h8)⟩
    · rw [if_neg (by omega), if_neg (by omega)]
      obtain ⟨g4, gN⟩ := h5 k o ho
      have gk := gN h2
      have A := reg_bd hok h5 hl hc hx d o.A.toNat (by omega) (by omega)
      have B := reg_bd hok h5 hl hc hx d o.B.toNat (by omega) (by omega)
      obtain ⟨j, hj⟩ : ∃ j, k - N = j + 1 := ⟨k - N - 1, by omega⟩
      have IA := A.2.wi (bx_mono (j := j) (by omega) (by omega))
      have IB := B.2.wi (bx_mono (j := j) (by omega) (by omega))
      generalize regF ops xs o.A.toNat = a at *
      generalize regF ops xs o.B.toNat = b at *
      have nA : NIn a (bx j) := ⟨.inl A.1.nn, bx_rs (by omega), fun _ => IA⟩
      have nB : NIn b (bx j) := ⟨.inl B.1.nn, bx_rs (by omega), fun _ => IB⟩
      have nn : NN (opF o.K a b) := by
        unfold opF opKd
        have hK : o.K = 2 ∨ o.K = 3 ∨ o.K = 4 := by omega
        rcases hK with hK | hK | hK <;> rw [hK]
        · exact (add_rd A.1 B.1).nn
        · exact (sub_rd A.1 B.1).nn
        · exact (mul_rd A.1 B.1).nn
      have hin := ((op_in o.K nA nB).is nn).wi (bx_step (by omega) h2 g4)
      rw [hj]
      exact ⟨bx_in (by omega) nn hin, hin⟩

end Go.Proofs.Ytpmdpbljgidllaa
