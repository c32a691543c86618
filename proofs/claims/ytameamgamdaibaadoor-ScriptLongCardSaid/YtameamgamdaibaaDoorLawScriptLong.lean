/- The law ScriptLong returns true, whatever the number that it is handed. -/
import Derived.Test.YtameamgamdaibaaDoorScLg
namespace Go.Proofs.YtameamgamdaibaaDoor
open Go
set_option linter.unusedVariables false
set_option linter.unusedSimpArgs false
set_option maxRecDepth 100000

def uC (n : Int) : List Value := [.int .u8 n]
theorem uC_len (n : Int) : (uC n).length = 1 := rfl
def lgL (M i : Nat) : List Int := rL (0 : Int) (fun _ => 120) M i
def lgB (M i : Nat) : Option ABlk := some ⟨((lgL M i).flatMap uC).toArray, 5, 1, true⟩
theorem sl_u8 : isSliceB Tryd.prog 44 5 = true := by kernel_rfl
theorem sz_u8 : sizeB Tryd.prog 5 1 = true := by kernel_rfl
theorem ze_u8 : zeroB Tryd.prog 5 1 = true := by kernel_rfl
theorem cmp_lssI (x y : Int) : cmpV Tryd.prog .lss 3 (.int .i64 x) (.int .i64 y) = some (decide (x < y)) := by kernel_rfl
theorem add_i (x y : Int) (h1 : 0 ≤ x + y) (h2 : x + y < 9223372036854775808) : pureV Tryd.prog (binOp .add 3 (.int .i64 x) (.int .i64 y)) = some (.int .i64 (x + y)) := by
  have h : pureV Tryd.prog (binOp .add 3 (.int .i64 x) (.int .i64 y)) = some (.int .i64 (IntKind.i64.wrap (x + y))) := by kernel_rfl
  rw [h, wrap_id (by omega) h2]

theorem uC_clos (l : List Int) : ∀ (i : Nat) (v : Value), ((l.flatMap uC).toArray)[i]? = some v → closN 4 v = true := by
  intro i v h
  have hm : v ∈ l.flatMap uC := by
    rw [List.getElem?_toArray] at h
    exact List.mem_of_getElem? h
  obtain ⟨n, _, hn⟩ := List.mem_flatMap.1 hm
  simp only [uC, List.mem_singleton] at hn
  subst hn
  rfl
theorem entLg (M j : Nat) (i : Int) : EntOK 0 [3, 4, 5] [0] (45, [.int .i64 M, slV M, .int .i64 i], [some (lgB M j)]) (tmA 45 (LLg M i)) #[lgB M j] := by
  refine entOK (H2 := [lgB M j]) rfl (by decide) (by decide) ?_ ?_
  · exact .cons (.clos rfl) (.cons (.slice 0 0 0 none M M M (show (0 : Nat) < 1 by decide) rfl) (.cons (.clos rfl) .nil))
  · exact .some (.plain (uC_clos _)) .nil
theorem lg_next {M i : Nat} (hi : i < M) (hM : M ≤ 20009) : CodeB Tryd.prog 0 bodyLg (tmA 45 (LLg M (i : Nat))) #[lgB M i] (.normal, tmA 45 (LLg M ((i + 1 : Nat) : Int)), #[lgB M (i + 1)]) := by
  have ix : indexAddrV Tryd.prog 44 (slV M) (.int .i64 (i : Nat)) = some (.pointer (some ⟨0, i, none⟩)) := by
    obtain ⟨inf, hinf, hsz⟩ := sizeB_ex sz_u8
    unfold indexAddrV slV
    simp only [isSliceB_ex sl_u8, hinf, hsz]
    have : ltI (i : Nat) M = true := Nat.ble_eq_true_of_le hi
    rw [this]
    simp
  have wr : writeVar Tryd.prog #[lgB M i] 5 ⟨0, i, none⟩ (.int .u8 120) = some #[lgB M (i + 1)] := by
    obtain ⟨inf, hinf, hsz⟩ := sizeB_ex sz_u8
    have := wr_at (P := Tryd.prog) (f := uC) (n := 1) uC_len hinf hsz (H := #[lgB M i]) (b := 0) (k := i) (l := lgL M i) (a := (120 : Int)) (v := .int .u8 120) rfl (by rfl) rfl rfl rfl (by rw [lgL, rL_len]; exact hi) (o := i) (by omega)
    rw [this, lgL, rL_set (0 : Int) (fun _ => 120) M i hi]
    rfl
  have ad := add_i (i : Nat) 1 (by omega) (by omega)
  exact rndT_to (rdLg M (i : Nat) ((i + 1 : Nat) : Int) (lgB M i) (lgB M (i + 1)) ⟨0, i, none⟩) okLg ⟨(cmp_lssI _ _).trans (by simp; omega), ix, wr, by rw [ad]; rfl, trivial⟩ (entLg M (i + 1) _)
theorem lg_rds {M : Nat} (hM : M ≤ 20009) : ∀ (d i : Nat), d + i = M → RdsB Tryd.prog 0 bodyLg (tmA 45 (LLg M (i : Nat))) #[lgB M i] (.exit 0, tmA 45 (LLg M (M : Nat)), #[lgB M M])
  | 0, i, h => by
    have e : i = M := by omega
    subst e
    exact .last (rndT_to (rdLgEnd i (i : Nat) (lgB i i)) okLg ⟨(cmp_lssI _ _).trans (by simp), trivial⟩ (entLg i i _)) (by simp)
  | d + 1, i, h => .next (lg_next (by omega) hM) (lg_rds hM d (i + 1) (by omega))

theorem intsL_u (l : List Int) : intsL (l.flatMap uC) = some l := by
  induction l with
  | nil => rfl
  | cons n l ih => simp only [List.flatMap_cons, uC, List.singleton_append, intsL]; rw [ih]; rfl
theorem push_fold : ∀ (l : List Int) (r : List UInt8), l.foldl (fun r k => r.push (UInt8.ofNat k.toNat)) (⟨r.toArray⟩ : ByteArray) = ⟨(r ++ l.map fun k => UInt8.ofNat k.toNat).toArray⟩
  | [], r => by simp
  | k :: l, r => by
    rw [List.foldl_cons]
    have e : (⟨r.toArray⟩ : ByteArray).push (UInt8.ofNat k.toNat) = ⟨(r ++ [UInt8.ofNat k.toNat]).toArray⟩ := by
      show ByteArray.mk (r.toArray.push _) = _
      simp
    rw [e, push_fold l]
    simp
theorem str_u (l : List Int) (t : TypeId) (z : Nat) : strV Tryd.prog #[some ⟨(l.flatMap uC).toArray, t, z, true⟩] 44 9 (slV l.length) = some (stL (l.map fun k => UInt8.ofNat k.toNat)) := by
  have hl : (l.flatMap uC).length = l.length := by
    induction l with
    | nil => rfl
    | cons n l ih => simp only [List.flatMap_cons, List.length_append, ih, uC, List.length_cons, List.length_nil]; omega
  have h8 : Tryd.prog.underlying 5 = some (.int .u8) := by kernel_rfl
  have hs : Tryd.prog.underlying 9 = some .string := by kernel_rfl
  unfold strV slV
  simp only [isSliceB_ex sl_u8, hs, h8]
  have h0 : (#[some (⟨(l.flatMap uC).toArray, t, z, true⟩ : ABlk)] : AHeap)[0]? = some (some ⟨(l.flatMap uC).toArray, t, z, true⟩) := rfl
  simp only [h0, List.size_toArray, hl, Nat.zero_add, Nat.le_refl, if_true]
  have hc : (cut (l.flatMap uC).toArray 0 l.length).toList = l.flatMap uC := by
    unfold cut
    simp only [List.drop_zero]
    exact List.take_of_length_le (by rw [hl]; exact Nat.le_refl _)
  rw [hc, intsL_u]
  simp only [Option.map_some, Option.some.injEq]
  have := push_fold l []
  simp only [List.nil_append] at this
  show Value.string _ = stL _
  unfold stL
  rw [← this]
  rfl

theorem scriptLong_tells (a : Int) : Tells 5 #[.int .i64 a] #[] (.bool true) := by
  have h1 := Int.emod_nonneg a (b := 20) (by decide)
  have h2 := Int.emod_lt_of_pos a (b := 20) (by decide)
  have hw := within13 a 19 (by decide)
  have e20 : Int.ofNat (19 + 1) = 20 := rfl
  rw [e20] at hw
  generalize hj : a % 20 = j at *
  obtain ⟨k, rfl⟩ := Int.eq_ofNat_of_zero_le h1
  have hk : k < 20 := by omega
  have ad : pureV Tryd.prog (binOp .add 3 (.int .i64 19990) (.int .i64 (k : Nat))) = some (.int .i64 ((19990 + k : Nat) : Int)) := by
    rw [add_i _ _ (by omega) (by omega)]; rfl
  generalize hM : 19990 + k = M at ad
  have mk : makeSliceV Tryd.prog #[] 44 (.int .i64 M) (.int .i64 M) = some (slV M, #[lgB M 0]) := by
    have := mk_sliceT (P := Tryd.prog) sl_u8 ze_u8 (f := uC) (a := (0 : Int)) (by kernel_rfl) (H := #[]) (M := M) (by omega)
    rw [this]
    unfold lgB lgL
    rw [rL_zero]
    rfl
  have hfull : lgL M M = List.replicate M (120 : Int) := by
    unfold lgL
    rw [rL_full]
    apply List.ext_getElem
    · simp
    · intro i h1 h2; simp
  have st := str_u (lgL M M) 5 1
  have hlen : (lgL M M).length = M := rL_len _ _ _ _
  rw [hlen] at st
  have hbs : (lgL M M).map (fun k => UInt8.ofNat k.toNat) = List.replicate M (120 : UInt8) := by
    rw [hfull]; simp
  rw [hbs] at st
  have rds := lg_rds (M := M) (by omega) M 0 (by omega)
  have lps : LpsOK Tryd.prog 0 [([3, 4, 5], [0])] [(bodyLg, (45, [.int .i64 M, slV M, .int .i64 0], [some (lgB M 0)]), (.exit 0, tmA 45 (LLg M (M : Nat)), #[lgB M M]))] :=
    ⟨⟨_, _, entLg M 0 _, rds.loop⟩, trivial⟩
  by_cases hc : 20000 < M
  · have pr := parse_long (List.replicate M (120 : UInt8)) (by rw [List.length_replicate]; exact hc) (froze #[lgB M M])
    refine askT_tells (runLg_t a (k : Nat) M (lgB M 0) (lgB M M) ⟨(List.replicate M (120 : UInt8)).toArray⟩ (M : Nat)) ⟨known13, hw, ad, mk, st, pr, (cmp_gtrS _ _).trans ?_, trivial⟩ lps
    simp; omega
  · have pr := parse_none (List.replicate M (120 : UInt8)) (by rw [List.length_replicate]; omega) (fun x hx => by
      rw [List.eq_of_mem_replicate hx]; decide) (froze #[lgB M M])
    refine askT_tells (runLg_f a (k : Nat) M (lgB M 0) (lgB M M) ⟨(List.replicate M (120 : UInt8)).toArray⟩ (M : Nat)) ⟨known13, hw, ad, mk, st, pr, (cmp_gtrS _ _).trans ?_, trivial⟩ lps
    simp; omega

end Go.Proofs.YtameamgamdaibaaDoor
