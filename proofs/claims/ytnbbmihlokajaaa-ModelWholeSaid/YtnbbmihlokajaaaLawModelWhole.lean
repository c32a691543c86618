/- The law ModelWhole returns true, whatever it is handed. -/
import Derived.Test.YtnbbmihlokajaaaModelMake
import Derived.Test.YtnbbmihlokajaaaSliceTwo
namespace Go.Proofs.Ytnbbmihlokajaaa
open Go
set_option linter.unusedVariables false
set_option linter.unusedSimpArgs false
set_option maxRecDepth 100000

noncomputable def askW5 (f : FuncId) : Nat := if [15, 16, 17, 18, 64].contains f then 1 else 2
def mAns (v : Value) : Ans := ⟨fun _ => v, [blkM v, blkM v]⟩
def m10 (c : Nat → Pt) : Value := mod9 (c 0) (c 1) (c 2) (c 3) (c 4) (c 5) (c 6) (c 7) (c 8) (c 9)
def first (a5 b5 : Int) : Pt := (fop .sub .f64 0 (F a5), F b5)
def next (Hp : AHeap) (v : Value) : AHeap := thaw Hp (froze Hp ++ two v)
noncomputable def whL (Hp : AHeap) (va vb : Value) (a b a5 b5 : Int) (c d : Nat → Pt) (s : Pt) (t : Bool) : List Obl :=
  [kn5O, .run 16 #[va, .int .i64 a] (froze Hp) (m10 c) (froze Hp ++ two (m10 c)), .run 16 #[vb, .int .i64 b] (froze (next Hp (m10 c))) (m10 d) (froze (next Hp (m10 c)) ++ two (m10 d)), wi5O a 5 a5, wi5O b 5 b5,
   .run 18 #[mod9 (first a5 b5) (d 1) (d 2) (d 3) (d 4) (d 5) (d 6) (d 7) (d 8) (d 9)] #[] (vP s) #[], .run 64 #[.float .f64 0, vP (first a5 b5)] #[] (.bool true) #[], .run 64 #[.float .f64 0, vP s] #[] (.bool t) #[]]
def WholeRun (Hp : AHeap) : Prop := ∀ (va vb : Value) (a b a5 b5 : Int) (c d : Nat → Pt) (s : Pt) (t : Bool),
  (askN askW5 noC 12 11 #[va, vb, .int .i64 a, .int .i64 b] Hp [yes true, mAns (m10 c), mAns (m10 d), isI a5, isI b5, isP s, yes true, yes t]).map (fun r => (r.1, r.2.2)) = some (.bool true, whL Hp va vb a b a5 b5 c d s t)
theorem run0 : WholeRun #[] := fun va vb a b a5 b5 c d s t => by cases t <;> kernel_rfl
theorem run1 (o : Option ABlk) : WholeRun #[o] := fun va vb a b a5 b5 c d s t => by cases t <;> kernel_rfl
theorem run2 (o1 o2 : Option ABlk) : WholeRun #[o1, o2] := fun va vb a b a5 b5 c d s t => by cases t <;> kernel_rfl

theorem five (z : Int) : Bd 1029 (F (z % 5)) ∧ 0 ≤ ix (F (z % 5)) := by
  have a1 := Int.emod_nonneg z (b := 5) (by decide)
  have a2 := Int.emod_lt_of_pos z (b := 5) (by decide)
  exact ⟨F_sm (by omega), F_nonneg a1⟩
def cOf (zs : List Int) (rest : Int) : Nat → Pt := fun i => if i < 9 then cAt zs i else rR rest
theorem m10_of (zs : List Int) (rest : Int) : m10 (cOf zs rest) = mkV zs rest := rfl

theorem modelWhole_run {Hp : AHeap} (hrun : WholeRun Hp) {zs us : List Int} {va vb : Value} (ha : Handed Hp zs va) (hb : Handed Hp us vb) (a b : Int) : Tells 11 #[va, vb, .int .i64 a, .int .i64 b] Hp (.bool true) := by
  have wi : ∀ z : Int, Runs Try.prog 17 #[.int .i64 z, .int .i64 5] #[] (.int .i64 (z % 5)) #[] := fun z => within5 z 4 (by decide)
  obtain ⟨a1, a2⟩ := five a
  obtain ⟨b1, b2⟩ := five b
  obtain ⟨n1, n2⟩ := neg_ix (a1.fi (by decide)).nn
  have a3 := a1.2
  have g0 : Good (first (a % 5) (b % 5)) := by
    refine ⟨⟨n1.1, ?_⟩, b1.mono (by decide), ?_⟩
    · show (ix (fop .sub .f64 0 _)).natAbs ≤ _
      rw [n2]; omega
    · show ix (fop .sub .f64 0 _) ≤ _
      rw [n2]; show _ ≤ ix (F _); omega
  have g := cAt_good us
  obtain ⟨p1, p2, p3, p4⟩ := rR_ok b
  obtain ⟨s, _, r1, _, k1, k2, _⟩ := range_runs (R' := rR b) g0 (g 1) (g 2) (g 3) (g 4) (g 5) (g 6) (g 7) (g 8) ⟨p1.mono (by decide), p2.mono (by decide), p3, p4⟩ ⟨p1.mono (by decide), p2.mono (by decide), Int.le_refl _, Int.le_refl _⟩
  have i1 : Runs Try.prog 64 #[.float .f64 0, vP (first (a % 5) (b % 5))] #[] (.bool true) #[] := by
    refine in_yes nn_zero.1 (g0.1.fi (by decide)).nn (g0.2.1.fi (by decide)).nn ?_ ?_
    · rw [nn_zero.2]; show ix (fop .sub .f64 0 _) ≤ 0; rw [n2]; omega
    · rw [nn_zero.2]; exact b2
  have i2 : ∃ t, Runs Try.prog 64 #[.float .f64 0, vP s] #[] (.bool t) #[] := by
    by_cases h : 0 < ix s.1 ∨ ix s.2 < 0
    · exact ⟨false, in_no nn_zero.1 k1 k2 (by rw [nn_zero.2]; exact h)⟩
    · exact ⟨true, in_yes nn_zero.1 k1 k2 (by rw [nn_zero.2]; omega) (by rw [nn_zero.2]; omega)⟩
  obtain ⟨t, i2⟩ := i2
  have m1 := make_handed (rest := a) ha.froze
  have m2 := make_handed (rest := b) (hb.thaw (two (mkV zs a))).froze
  exact tells_of (hrun va vb a b (a % 5) (b % 5) (cOf zs a) (cOf us b) s t) ⟨known5, m1, m2, wi a, wi b, r1, i1, i2, trivial⟩

theorem modelWhole_two {Hp : AHeap} (hs : Hp.size ≤ 2) {zs us : List Int} {va vb : Value} (ha : Handed Hp zs va) (hb : Handed Hp us vb) (a b : Int) : Tells 11 #[va, vb, .int .i64 a, .int .i64 b] Hp (.bool true) := by
  have h : WholeRun Hp := by
    obtain ⟨l⟩ := Hp
    match l, hs with
    | [], _ => exact run0
    | [o], _ => exact run1 o
    | [o1, o2], _ => exact run2 o1 o2
  exact modelWhole_run h ha hb a b

end Go.Proofs.Ytnbbmihlokajaaa
