/- What a Model is that the laws make of numbers. -/
import Derived.Test.YtnbbmihlokajaaaModelRangesA
import Derived.Test.YtnbbmihlokajaaaSlices
namespace Go.Proofs.Ytnbbmihlokajaaa
open Go
set_option linter.unusedVariables false
set_option linter.unusedSimpArgs false
set_option maxRecDepth 100000

def blkM (v : Value) : Option ABlk := match v with
  | .agg cs => some ⟨cs, 29, 0, true⟩
  | _ => none
def two (v : Value) : AHeap := #[blkM v, blkM v]
def mkV (zs : List Int) (rest : Int) : Value := mod9 (cAt zs 0) (cAt zs 1) (cAt zs 2) (cAt zs 3) (cAt zs 4) (cAt zs 5) (cAt zs 6) (cAt zs 7) (cAt zs 8) (rR rest)
def MkAt (zs : List Int) (rest : Int) : Prop := Runs Try.prog 16 #[arg0 zs, .int .i64 rest] (froze (heap0 zs)) (mkV zs rest) (froze (heap0 zs) ++ two (mkV zs rest))
noncomputable def mkRun (zs : List Int) (rest : Int) (s : List Ans) : Option (Value × AHeap × List Obl) := askN askMo lenG 12 16 #[arg0 zs, .int .i64 rest] (froze (heap0 zs)) s
theorem mk_short {zs : List Int} {rest : Int} (h : mkRun zs rest (rgA zs ++ [isI (rest % 9)]) = some (mkV zs rest, froze (heap0 zs) ++ two (mkV zs rest), rgW zs ++ [wi5O rest 9 (rest % 9)])) : MkAt zs rest :=
  askN_runs h (app_ok (rgW_ok zs) ⟨wi9 _, trivial⟩)
theorem mk_long {zs l : List Int} {rest : Int} (hl : l.length = 9) (hz : 9 ≤ zs.length) (h : mkRun zs rest (rgB l ++ [isI (rest % 9)]) = some (mkV zs rest, froze (heap0 zs) ++ two (mkV zs rest), rgU zs.length 0 l ++ [wi5O rest 9 (rest % 9)])) : MkAt zs rest :=
  askN_runs h (app_ok (rgU_ok _ 0 l (by omega)) ⟨wi9 _, trivial⟩)
theorem mk_at : ∀ (zs : List Int) (rest : Int), MkAt zs rest
  | [], rest => mk_short (by kernel_rfl)
  | [z0], rest => mk_short (by kernel_rfl)
  | [z0, z1], rest => mk_short (by kernel_rfl)
  | [z0, z1, z2], rest => mk_short (by kernel_rfl)
  | [z0, z1, z2, z3], rest => mk_short (by kernel_rfl)
  | [z0, z1, z2, z3, z4], rest => mk_short (by kernel_rfl)
  | [z0, z1, z2, z3, z4, z5], rest => mk_short (by kernel_rfl)
  | [z0, z1, z2, z3, z4, z5, z6], rest => mk_short (by kernel_rfl)
  | [z0, z1, z2, z3, z4, z5, z6, z7], rest => mk_short (by kernel_rfl)
  | z0 :: z1 :: z2 :: z3 :: z4 :: z5 :: z6 :: z7 :: z8 :: tail, rest => mk_long (l := [z0, z1, z2, z3, z4, z5, z6, z7, z8]) rfl (by simp) (by kernel_rfl)

theorem clos_row {l : List Nat} : ∀ (i : Nat) (u : Value), (l.map (Value.float .f64)).toArray[i]? = some u → closN 4 u = true := by
  intro i u hu
  have h3 : (l.map (Value.float .f64))[i]? = some u := by simpa using hu
  obtain ⟨n, _, rfl⟩ := List.mem_map.1 (List.mem_of_getElem? h3)
  rfl
theorem make_handed {zs : List Int} {rest : Int} {Hp : AHeap} {va : Value} (hh : Handed Hp zs va) : Runs Try.prog 16 #[va, .int .i64 rest] Hp (mkV zs rest) (Hp ++ two (mkV zs rest)) := by
  refine reloc_int (mk_at zs rest) rfl ?_ hh
  intro j B hB
  have hs : j < 2 := (Array.getElem?_eq_some_iff.1 hB).1
  have : B = ⟨#[.float .f64 (cAt zs 0).1, .float .f64 (cAt zs 0).2, .float .f64 (cAt zs 1).1, .float .f64 (cAt zs 1).2, .float .f64 (cAt zs 2).1, .float .f64 (cAt zs 2).2, .float .f64 (cAt zs 3).1, .float .f64 (cAt zs 3).2, .float .f64 (cAt zs 4).1, .float .f64 (cAt zs 4).2, .float .f64 (cAt zs 5).1, .float .f64 (cAt zs 5).2, .float .f64 (cAt zs 6).1, .float .f64 (cAt zs 6).2, .float .f64 (cAt zs 7).1, .float .f64 (cAt zs 7).2, .float .f64 (cAt zs 8).1, .float .f64 (cAt zs 8).2, .float .f64 (rR rest).1, .float .f64 (rR rest).2], 29, 0, true⟩ := by
    match j, hs with
    | 0, _ => exact (Option.some.inj (Option.some.inj hB)).symm
    | 1, _ => exact (Option.some.inj (Option.some.inj hB)).symm
  subst this
  exact ⟨rfl, fun i u hu => clos_row (l := [(cAt zs 0).1, (cAt zs 0).2, (cAt zs 1).1, (cAt zs 1).2, (cAt zs 2).1, (cAt zs 2).2, (cAt zs 3).1, (cAt zs 3).2, (cAt zs 4).1, (cAt zs 4).2, (cAt zs 5).1, (cAt zs 5).2, (cAt zs 6).1, (cAt zs 6).2, (cAt zs 7).1, (cAt zs 7).2, (cAt zs 8).1, (cAt zs 8).2, (rR rest).1, (rR rest).2]) i u hu⟩

end Go.Proofs.Ytnbbmihlokajaaa
