/- What the laws' own Values tells: as many floats as it is asked for. -/
import Derived.Test.YtnbbmihlokajaaaSliceW
import Derived.Test.YtnbbmihlokajaaaModelSl
namespace Go.Proofs.Ytnbbmihlokajaaa
open Go
set_option linter.unusedVariables false
set_option linter.unusedSimpArgs false
set_option maxRecDepth 100000

theorem out_runsW {f : FuncId} {t e : TypeId} {vs us : List Value} {x : Value} {va : Value} {H : AHeap} (hcl : ∀ u ∈ vs, closN 4 u = true) (hx : closN 4 x = true) (hus : ∀ u ∈ us, closN 4 u = true)
    (hr : Runs Try.prog f #[x, argV vs] (heapV t vs) (lastV (heapV t vs).size us) (heapV t vs ++ (growB e [] us).toArray)) (hf : AllFrozen H) (hh : HandV H vs va) : Runs Try.prog f #[x, va] H (outV H.size us) (H ++ (outB e us).toArray) := by
  cases us with
  | nil =>
    have hf0 : AllFrozen (heapV t vs) := by
      intro b B hB
      cases vs with
      | nil => simp [heapV] at hB
      | cons z r =>
        have hi0 : b = 0 := by
          have := (Array.getElem?_eq_some_iff.1 hB).1
          simp [heapV] at this
          exact this
        subst hi0
        simp [heapV] at hB
        subst hB
        rfl
    have h0 := hr.drop hf0 rfl
    have h1 : Runs Try.prog f #[x, argV vs] (heapV t vs) (.slice none 0 0) (heapV t vs ++ #[]) := by rw [Array.append_empty]; exact h0
    exact reloc_w (H := H) (va := va) hcl hx h1 (fun b => .clos rfl) (fun j B h => by simp [outB] at h) hh
  | cons u l =>
    refine make_w (k := 2 * (u :: l).length - 1) hcl hx hus hr ?_ rfl ?_ hf hh
    · have := growB_last (t := e) (u :: l) [] (by simp)
      simpa using this
    · intro j B hB
      refine growB_ok (t := e) (u :: l) [] (fun u h => by cases h) hus B ?_
      exact List.mem_of_getElem? (by simpa using hB)

noncomputable def askV3 (f : FuncId) : Nat := if f == 71 then 1 else 2
noncomputable def wi3O (z n k : Int) : Obl := .run 71 #[.int .i64 z, .int .i64 n] #[] (.int .i64 k) #[]
theorem wi3v (z : Int) : (wi3O z 65 (z % 65)).ok Try.prog := within3 z 64 (by decide)
def vw (k : Int) : Nat := fop .quo .f64 (F (iw5 (k % 65 - 32))) 4620693217682128896
def valsA : Nat → Nat → List Int → List Nat
  | _, 0, _ => []
  | i, n + 1, [] => vw (Int.ofNat i) :: valsA (i + 1) n []
  | i, n + 1, m :: l => vw m :: valsA (i + 1) n l
def vlS : Nat → Nat → List Int → List Ans
  | _, 0, _ => []
  | i, n + 1, [] => isI (Int.ofNat i % 65) :: vlS (i + 1) n []
  | i, n + 1, m :: l => isI (m % 65) :: vlS (i + 1) n l
noncomputable def vlO : Nat → Nat → List Int → List Obl
  | _, 0, _ => []
  | i, n + 1, [] => wi3O (Int.ofNat i) 65 (Int.ofNat i % 65) :: vlO (i + 1) n []
  | i, n + 1, m :: l => wi3O m 65 (m % 65) :: vlO (i + 1) n l
theorem vlO_ok : ∀ (i n : Nat) (l : List Int), okAll Try.prog (vlO i n l)
  | _, 0, [] => trivial
  | _, 0, _ :: _ => trivial
  | i, n + 1, [] => ⟨wi3v _, vlO_ok (i + 1) n []⟩
  | i, n + 1, m :: l => ⟨wi3v _, vlO_ok (i + 1) n l⟩
def vlT : List Int → List Ans
  | [] => []
  | m :: l => yes true :: isI (m % 65) :: vlT l
noncomputable def vlP (len : Nat) : Nat → List Int → List Obl
  | _, [] => []
  | i, m :: l => cmpI .lss (Int.ofNat i) (Int.ofNat len) true :: wi3O m 65 (m % 65) :: vlP len (i + 1) l
theorem vlP_ok (len : Nat) : ∀ (i : Nat) (l : List Int), i + l.length ≤ len → okAll Try.prog (vlP len i l)
  | _, [], _ => trivial
  | i, m :: l, h => by
    simp only [List.length_cons] at h
    exact ⟨(cmp_lss _ _).trans (congrArg some (decide_eq_true (Int.ofNat_lt.2 (by omega)))), wi3v m, vlP_ok len (i + 1) l (by omega)⟩
def ValAt (n : Nat) (ms : List Int) : Prop := Runs Try.prog 41 #[.int .i64 (Int.ofNat n), argV (ms.map iV)] (heapV 3 (ms.map iV)) (lastV (heapV 3 (ms.map iV)).size ((valsA 0 n ms).map fV)) (heapV 3 (ms.map iV) ++ (growB 24 [] ((valsA 0 n ms).map fV)).toArray)
noncomputable def valRun (n : Nat) (ms : List Int) (s : List Ans) : Option (Value × AHeap × List Obl) := askN askV3 (lenT n) 12 41 #[.int .i64 (Int.ofNat n), argV (ms.map iV)] (heapV 3 (ms.map iV)) s
theorem val_short {n : Nat} {ms : List Int} (h : valRun n ms (vlS 0 n ms) = some (lastV (heapV 3 (ms.map iV)).size ((valsA 0 n ms).map fV), heapV 3 (ms.map iV) ++ (growB 24 [] ((valsA 0 n ms).map fV)).toArray, vlO 0 n ms)) : ValAt n ms := askN_runs h (vlO_ok 0 n ms)
theorem val_long {n : Nat} {ms l : List Int} (hl : l.length ≤ ms.length) (h : valRun n ms (vlT l) = some (lastV (heapV 3 (ms.map iV)).size ((valsA 0 n ms).map fV), heapV 3 (ms.map iV) ++ (growB 24 [] ((valsA 0 n ms).map fV)).toArray, vlP (ms.map iV).length 0 l)) : ValAt n ms := askN_runs h (vlP_ok _ 0 l (by rw [List.length_map]; omega))
theorem val0 : ∀ ms : List Int, ValAt 0 ms
  | [] => val_short (by kernel_rfl)
  | m0 :: tail => val_long (l := []) (by simp only [List.length_cons, List.length_nil]; omega) (by kernel_rfl)
theorem val1 : ∀ ms : List Int, ValAt 1 ms
  | [] => val_short (by kernel_rfl)
  | [m0] => val_short (by kernel_rfl)
  | m0 :: m1 :: tail => val_long (l := [m0]) (by simp only [List.length_cons, List.length_nil]; omega) (by kernel_rfl)
theorem val2 : ∀ ms : List Int, ValAt 2 ms
  | [] => val_short (by kernel_rfl)
  | [m0] => val_short (by kernel_rfl)
  | [m0, m1] => val_short (by kernel_rfl)
  | m0 :: m1 :: m2 :: tail => val_long (l := [m0, m1]) (by simp only [List.length_cons, List.length_nil]; omega) (by kernel_rfl)
theorem val3 : ∀ ms : List Int, ValAt 3 ms
  | [] => val_short (by kernel_rfl)
  | [m0] => val_short (by kernel_rfl)
  | [m0, m1] => val_short (by kernel_rfl)
  | [m0, m1, m2] => val_short (by kernel_rfl)
  | m0 :: m1 :: m2 :: m3 :: tail => val_long (l := [m0, m1, m2]) (by simp only [List.length_cons, List.length_nil]; omega) (by kernel_rfl)
theorem val4 : ∀ ms : List Int, ValAt 4 ms
  | [] => val_short (by kernel_rfl)
  | [m0] => val_short (by kernel_rfl)
  | [m0, m1] => val_short (by kernel_rfl)
  | [m0, m1, m2] => val_short (by kernel_rfl)
  | [m0, m1, m2, m3] => val_short (by kernel_rfl)
  | m0 :: m1 :: m2 :: m3 :: m4 :: tail => val_long (l := [m0, m1, m2, m3]) (by simp only [List.length_cons, List.length_nil]; omega) (by kernel_rfl)
theorem val5 : ∀ ms : List Int, ValAt 5 ms
  | [] => val_short (by kernel_rfl)
  | [m0] => val_short (by kernel_rfl)
  | [m0, m1] => val_short (by kernel_rfl)
  | [m0, m1, m2] => val_short (by kernel_rfl)
  | [m0, m1, m2, m3] => val_short (by kernel_rfl)
  | [m0, m1, m2, m3, m4] => val_short (by kernel_rfl)
  | m0 :: m1 :: m2 :: m3 :: m4 :: m5 :: tail => val_long (l := [m0, m1, m2, m3, m4]) (by simp only [List.length_cons, List.length_nil]; omega) (by kernel_rfl)
theorem val6 : ∀ ms : List Int, ValAt 6 ms
  | [] => val_short (by kernel_rfl)
  | [m0] => val_short (by kernel_rfl)
  | [m0, m1] => val_short (by kernel_rfl)
  | [m0, m1, m2] => val_short (by kernel_rfl)
  | [m0, m1, m2, m3] => val_short (by kernel_rfl)
  | [m0, m1, m2, m3, m4] => val_short (by kernel_rfl)
  | [m0, m1, m2, m3, m4, m5] => val_short (by kernel_rfl)
  | m0 :: m1 :: m2 :: m3 :: m4 :: m5 :: m6 :: tail => val_long (l := [m0, m1, m2, m3, m4, m5]) (by simp only [List.length_cons, List.length_nil]; omega) (by kernel_rfl)
theorem val7 : ∀ ms : List Int, ValAt 7 ms
  | [] => val_short (by kernel_rfl)
  | [m0] => val_short (by kernel_rfl)
  | [m0, m1] => val_short (by kernel_rfl)
  | [m0, m1, m2] => val_short (by kernel_rfl)
  | [m0, m1, m2, m3] => val_short (by kernel_rfl)
  | [m0, m1, m2, m3, m4] => val_short (by kernel_rfl)
  | [m0, m1, m2, m3, m4, m5] => val_short (by kernel_rfl)
  | [m0, m1, m2, m3, m4, m5, m6] => val_short (by kernel_rfl)
  | m0 :: m1 :: m2 :: m3 :: m4 :: m5 :: m6 :: m7 :: tail => val_long (l := [m0, m1, m2, m3, m4, m5, m6]) (by simp only [List.length_cons, List.length_nil]; omega) (by kernel_rfl)
theorem val8 : ∀ ms : List Int, ValAt 8 ms
  | [] => val_short (by kernel_rfl)
  | [m0] => val_short (by kernel_rfl)
  | [m0, m1] => val_short (by kernel_rfl)
  | [m0, m1, m2] => val_short (by kernel_rfl)
  | [m0, m1, m2, m3] => val_short (by kernel_rfl)
  | [m0, m1, m2, m3, m4] => val_short (by kernel_rfl)
  | [m0, m1, m2, m3, m4, m5] => val_short (by kernel_rfl)
  | [m0, m1, m2, m3, m4, m5, m6] => val_short (by kernel_rfl)
  | [m0, m1, m2, m3, m4, m5, m6, m7] => val_short (by kernel_rfl)
  | m0 :: m1 :: m2 :: m3 :: m4 :: m5 :: m6 :: m7 :: m8 :: tail => val_long (l := [m0, m1, m2, m3, m4, m5, m6, m7]) (by simp only [List.length_cons, List.length_nil]; omega) (by kernel_rfl)
theorem val9 : ∀ ms : List Int, ValAt 9 ms
  | [] => val_short (by kernel_rfl)
  | [m0] => val_short (by kernel_rfl)
  | [m0, m1] => val_short (by kernel_rfl)
  | [m0, m1, m2] => val_short (by kernel_rfl)
  | [m0, m1, m2, m3] => val_short (by kernel_rfl)
  | [m0, m1, m2, m3, m4] => val_short (by kernel_rfl)
  | [m0, m1, m2, m3, m4, m5] => val_short (by kernel_rfl)
  | [m0, m1, m2, m3, m4, m5, m6] => val_short (by kernel_rfl)
  | [m0, m1, m2, m3, m4, m5, m6, m7] => val_short (by kernel_rfl)
  | [m0, m1, m2, m3, m4, m5, m6, m7, m8] => val_short (by kernel_rfl)
  | m0 :: m1 :: m2 :: m3 :: m4 :: m5 :: m6 :: m7 :: m8 :: m9 :: tail => val_long (l := [m0, m1, m2, m3, m4, m5, m6, m7, m8]) (by simp only [List.length_cons, List.length_nil]; omega) (by kernel_rfl)
theorem val_at {n : Nat} (hn : n < 10) (ms : List Int) : ValAt n ms := by
  have : n = 0 ∨ n = 1 ∨ n = 2 ∨ n = 3 ∨ n = 4 ∨ n = 5 ∨ n = 6 ∨ n = 7 ∨ n = 8 ∨ n = 9 := by omega
  rcases this with rfl | rfl | rfl | rfl | rfl | rfl | rfl | rfl | rfl | rfl
  · exact val0 ms
  · exact val1 ms
  · exact val2 ms
  · exact val3 ms
  · exact val4 ms
  · exact val5 ms
  · exact val6 ms
  · exact val7 ms
  · exact val8 ms
  · exact val9 ms
theorem val_runs {n : Nat} (hn : n < 10) {ms : List Int} {H : AHeap} {va : Value} (hf : AllFrozen H) (hh : HandV H (ms.map iV) va) : Runs Try.prog 41 #[.int .i64 (Int.ofNat n), va] H (outV H.size ((valsA 0 n ms).map fV)) (H ++ (outB 24 ((valsA 0 n ms).map fV)).toArray) :=
  out_runsW iV_cl rfl fV_cl (val_at hn ms) hf hh
theorem valsA_len : ∀ (n i : Nat) (l : List Int), (valsA i n l).length = n
  | 0, _, [] => rfl
  | 0, _, _ :: _ => rfl
  | n + 1, i, [] => by simp only [valsA, List.length_cons, valsA_len n]
  | n + 1, i, _ :: l => by simp only [valsA, List.length_cons, valsA_len n]
theorem vw_nn (k : Int) : NN (vw k) := by
  have h1 := Int.emod_nonneg k (b := 65) (by decide)
  have h2 := Int.emod_lt_of_pos k (b := 65) (by decide)
  unfold vw iw5
  rw [wrap_id (by omega) (by omega)]
  have h8 : F 8 = 4620693217682128896 := by decide +kernel
  have hf := F_fi (n := 8) (by decide)
  rw [h8] at hf
  exact (quo_rd (F_fi (n := k % 65 - 32) (by omega)).1 hf.1 (by rw [hf.2]; have := un_pos; omega)).nn
theorem valsA_nn : ∀ (n i : Nat) (l : List Int), ∀ x ∈ valsA i n l, NN x
  | 0, _, [], x, h => by cases h
  | 0, _, _ :: _, x, h => by cases h
  | n + 1, i, [], x, h => by
    rcases List.mem_cons.1 h with rfl | h
    · exact vw_nn _
    · exact valsA_nn n _ _ x h
  | n + 1, i, _ :: l, x, h => by
    rcases List.mem_cons.1 h with rfl | h
    · exact vw_nn _
    · exact valsA_nn n _ _ x h

end Go.Proofs.Ytnbbmihlokajaaa
