/- Parse's first loop: the lines of a text. -/
import Derived.Test.YtameamgamdaibaaDoorScQ
namespace Go.Proofs.YtameamgamdaibaaDoor
open Go
set_option linter.unusedVariables false
set_option linter.unusedSimpArgs false
set_option maxRecDepth 100000

noncomputable def askL0 (g : FuncId) : Nat := if [13, 14].contains g then 1 else if [1000025, 1000026, 1000037, 1000040].contains g then 7 else 0
def cmL0 : BinOp → Value → Value → Bool
  | .lss, .int _ _, _ => true
  | _, _, _ => false
noncomputable def bodyL0 : Code := bodyG Tryd.prog 8 0
def pt (b : Nat) : Value := .pointer (some ⟨b, 0, none⟩)
def L0 (s : List UInt8) (n : Nat) (i : Int) : List (Nat × Value) := [(0, stL s), (2, p0), (6, pt 2), (21, oS 1 n), (22, .int .i64 n), (23, .int .i64 i)]
def probC : Array Value := #[.int .i64 0, .slice none 0 0, .slice none 0 0, .slice none 0 0, .slice none 0 0, .int .i64 0, .int .i64 0, .int .i64 0, .float .f64 0, .float .f64 0, .float .f64 0, .int .i64 0, .slice none 0 0]
def probB (o : Bool) : Option ABlk := some ⟨probC, 33, 0, o⟩
def lf : UInt8 := 10
noncomputable def obIx (n : Nat) (i : Int) (p : Addr) : Obl := .ex (indexAddrV Tryd.prog 23 (oS 1 n) (.int .i64 i) = some (.pointer (some p)))
noncomputable def obRd (H : AHeap) (p : Addr) (x : List UInt8) : Obl := .ex (readVar Tryd.prog H 9 p = some (stL x))
noncomputable def obHs (x : List UInt8) (c : Bool) : Obl := .run 13 #[stL x, s1 lf] #[] (.bool c) #[]
noncomputable def obTr (x y : List UInt8) : Obl := .run 14 #[stL x, s1 lf] #[] (stL y) #[]
noncomputable def obAd (i i2 : Int) : Obl := .ex (pureV Tryd.prog (binOp .add 3 (.int .i64 i) (.int .i64 1)) = some (.int .i64 i2))
def psN : Option ABlk := psB (.slice none 0 0) 0 true
def psC (b n : Nat) : Option ABlk := psB (oS b n) 0 true
theorem l0_a (s x y : List UInt8) (n : Nat) (i i2 : Int) (p : Addr) (ob pb nb : Option ABlk) :
  (rndT askL0 cmL0 bodyL0 (tmA 206 (L0 s n i)) #[ob, pb, psN] [yes true, anV (.pointer (some p)), anV (stL x), yes true, anV (stL y), mAnsT (oS 4 1) [ob, pb, psN, stB [y] true, nb], isI i2] []).map (fun r => (r.1, slG [0, 2, 6, 21, 22, 23] [0, 1, 2, 4] r.2.1 r.2.2.1, r.2.2.2)) =
    some (.normal, (206, [stL s, p0, pt 2, oS 1 n, .int .i64 n, .int .i64 i2], [some ob, some pb, some (psC 4 1), some nb]),
      [obC .lss i n true, obIx n i p, obRd #[ob, pb, psN] p x, obHs x true, obTr x y, .ex (appendV Tryd.prog #[ob, pb, psN, stB [y] true] 23 23 (.slice none 0 0) (oS 3 1) = some (oS 4 1, #[ob, pb, psN, stB [y] true, nb])), obAd i i2], []) := by kernel_rfl
theorem l0_b (s x y : List UInt8) (n m : Nat) (i i2 : Int) (p : Addr) (ob pb lb nb : Option ABlk) :
  (rndT askL0 cmL0 bodyL0 (tmA 206 (L0 s n i)) #[ob, pb, psC 3 m, lb] [yes true, anV (.pointer (some p)), anV (stL x), yes true, anV (stL y), mAnsT (oS 5 (m + 1)) [ob, pb, psC 3 m, none, stB [y] true, nb], isI i2] []).map (fun r => (r.1, slG [0, 2, 6, 21, 22, 23] [0, 1, 2, 5] r.2.1 r.2.2.1, r.2.2.2)) =
    some (.normal, (206, [stL s, p0, pt 2, oS 1 n, .int .i64 n, .int .i64 i2], [some ob, some pb, some (psC 5 (m + 1)), some nb]),
      [obC .lss i n true, obIx n i p, obRd #[ob, pb, psC 3 m, lb] p x, obHs x true, obTr x y, .ex (appendV Tryd.prog #[ob, pb, psC 3 m, lb, stB [y] true] 23 23 (oS 3 m) (oS 4 1) = some (oS 5 (m + 1), #[ob, pb, psC 3 m, none, stB [y] true, nb])), obAd i i2], []) := by kernel_rfl
theorem l0_c (s x : List UInt8) (n : Nat) (i i2 : Int) (p : Addr) (ob pb qb : Option ABlk) :
  (rndT askL0 cmL0 bodyL0 (tmA 206 (L0 s n i)) #[ob, pb, qb] [yes true, anV (.pointer (some p)), anV (stL x), yes false, isI i2] []).map (fun r => (r.1, slG [0, 2, 6, 21, 22, 23] [0, 1, 2] r.2.1 r.2.2.1, r.2.2.2)) =
    some (.normal, (206, [stL s, p0, pt 2, oS 1 n, .int .i64 n, .int .i64 i2], [some ob, some pb, some qb]), [obC .lss i n true, obIx n i p, obRd #[ob, pb, qb] p x, obHs x false, obAd i i2], []) := by kernel_rfl
theorem l0_d (s x : List UInt8) (n : Nat) (i i2 : Int) (p : Addr) (ob pb qb lb : Option ABlk) :
  (rndT askL0 cmL0 bodyL0 (tmA 206 (L0 s n i)) #[ob, pb, qb, lb] [yes true, anV (.pointer (some p)), anV (stL x), yes false, isI i2] []).map (fun r => (r.1, slG [0, 2, 6, 21, 22, 23] [0, 1, 2, 3] r.2.1 r.2.2.1, r.2.2.2)) =
    some (.normal, (206, [stL s, p0, pt 2, oS 1 n, .int .i64 n, .int .i64 i2], [some ob, some pb, some qb, some lb]), [obC .lss i n true, obIx n i p, obRd #[ob, pb, qb, lb] p x, obHs x false, obAd i i2], []) := by kernel_rfl
theorem l0_e (s : List UInt8) (n : Nat) (i : Int) (ob pb qb : Option ABlk) :
  (rndT askL0 cmL0 bodyL0 (tmA 206 (L0 s n i)) #[ob, pb, qb] [yes false] []).map (fun r => (r.1, slG [0, 2, 6, 21, 22, 23] [0, 1, 2] r.2.1 r.2.2.1, r.2.2.2)) =
    some (.exit 0, (206, [stL s, p0, pt 2, oS 1 n, .int .i64 n, .int .i64 i], [some ob, some pb, some qb]), [obC .lss i n false], []) := by kernel_rfl
theorem l0_f (s : List UInt8) (n : Nat) (i : Int) (ob pb qb lb : Option ABlk) :
  (rndT askL0 cmL0 bodyL0 (tmA 206 (L0 s n i)) #[ob, pb, qb, lb] [yes false] []).map (fun r => (r.1, slG [0, 2, 6, 21, 22, 23] [0, 1, 2, 3] r.2.1 r.2.2.1, r.2.2.2)) =
    some (.exit 0, (206, [stL s, p0, pt 2, oS 1 n, .int .i64 n, .int .i64 i], [some ob, some pb, some qb, some lb]), [obC .lss i n false], []) := by kernel_rfl
theorem okL0 : codeOk q1 bodyL0 = true := by kernel_rfl

/-! ### the lines -/
def lineP (x : List UInt8) : Option (List UInt8) := if endsC 10 x then some (trimC 10 x) else none
def memN (P : List (List UInt8)) : AHeap := #[probB true, stB P true, psN]
def memC (P A : List (List UInt8)) : AHeap := #[probB true, stB P true, psC 3 A.length, stB A true]
def memA (P : List (List UInt8)) : List (List UInt8) → AHeap
  | [] => memN P
  | a :: A => memC P (a :: A)
theorem prob_clos : ∀ (i : Nat) (v : Value), probC[i]? = some v → closN 4 v = true := by
  intro i v h
  have hm : v ∈ probC.toList := by
    have := Array.mem_of_getElem? h
    simpa using this
  have : probC.toList.all (closN 4) = true := by rfl
  exact List.all_eq_true.1 this v hm
theorem psn_clos {k : Int} : ∀ (i : Nat) (v : Value), (#[.slice none 0 0, .int .i64 k] : Array Value)[i]? = some v → closN 4 v = true := by
  intro i v h
  match i, h with
  | 0, h => simp at h; subst h; rfl
  | 1, h => simp at h; subst h; rfl
  | i + 2, h => simp at h
theorem entN (s : List UInt8) (P : List (List UInt8)) (n : Nat) (i : Int) : EntOK 0 [0, 2, 6, 21, 22, 23] [0, 1, 2] (206, [stL s, p0, pt 2, oS 1 n, .int .i64 n, .int .i64 i], [some (probB true), some (stB P true), some psN]) (tmA 206 (L0 s n i)) (memN P) := by
  refine entOK (H2 := [probB true, stB P true, psN]) rfl (by simp) (by simp) ?_ ?_
  · exact .cons (.clos rfl) (.cons (.ptr 0 0 0 none (show (0 : Nat) < 3 by decide) rfl) (.cons (.ptr 2 2 0 none (show (2 : Nat) < 3 by decide) rfl) (.cons (.slice 1 1 0 none n n n (show (1 : Nat) < 3 by decide) rfl) (.cons (.clos rfl) (.cons (.clos rfl) .nil)))))
  · exact .some (.plain prob_clos) (.some (.plain (st_clos P)) (.some (.plain psn_clos) .nil))
theorem entC (s : List UInt8) (P A : List (List UInt8)) (n b : Nat) (i : Int) (hb : b = 3 ∨ b = 4 ∨ b = 5) :
    EntOK 0 [0, 2, 6, 21, 22, 23] [0, 1, 2, b] (206, [stL s, p0, pt 2, oS 1 n, .int .i64 n, .int .i64 i], [some (probB true), some (stB P true), some (psC b A.length), some (stB A true)]) (tmA 206 (L0 s n i)) (memC P A) := by
  refine entOK (H2 := [probB true, stB P true, psC 3 A.length, stB A true]) rfl (by simp) (by simp; omega) ?_ ?_
  · exact .cons (.clos rfl) (.cons (.ptr 0 0 0 none (show (0 : Nat) < 4 by decide) rfl) (.cons (.ptr 2 2 0 none (show (2 : Nat) < 4 by decide) rfl) (.cons (.slice 1 1 0 none n n n (show (1 : Nat) < 4 by decide) rfl) (.cons (.clos rfl) (.cons (.clos rfl) .nil)))))
  · refine .some (.plain prob_clos) (.some (.plain (st_clos P)) (.some ?_ (.some (.plain (st_clos A)) .nil)))
    exact RelK.list (l2 := [oS 3 A.length, .int .i64 0]) (l1 := [oS b A.length, .int .i64 0]) (.cons (.slice 3 b 0 none _ _ _ (show (3 : Nat) < 4 by decide) rfl) (.cons (.clos rfl) .nil))
theorem growS : growOk Tryd.prog 23 9 1 = true := by kernel_rfl
theorem hs_q (x : List UInt8) (hx : x.length < 4294967281) : (obHs x (endsC 10 x)).ok Tryd.prog := ends1 ⟨x.toArray⟩ lf hx #[]
theorem tr_q (x : List UInt8) (hx : x.length < 4294967281) : (obTr x (trimC 10 x)).ok Tryd.prog := trim1 ⟨x.toArray⟩ lf hx #[]
theorem ixP {n i : Nat} (h : i < n) : indexAddrV Tryd.prog 23 (oS 1 n) (.int .i64 (i : Nat)) = some (.pointer (some ⟨1, i, none⟩)) := ixS (f := 0) (by omega) (by omega) (by omega)
theorem memA_snoc (P A : List (List UInt8)) (y : List UInt8) : memA P (A ++ [y]) = memC P (A ++ [y]) := by
  cases A with
  | nil => rfl
  | cons a A => rfl
theorem l0_rds (s : List UInt8) (P : List (List UInt8)) (hP : ∀ x ∈ P, x.length < 4294967280) (hn : P.length < 16777216) : ∀ (rest : List (List UInt8)) (A : List (List UInt8)) (i : Nat), P.drop i = rest → i ≤ P.length → A.length ≤ i →
    RdsB Tryd.prog 0 bodyL0 (tmA 206 (L0 s P.length (i : Nat))) (memA P A) (.exit 0, tmA 206 (L0 s P.length (P.length : Nat)), memA P (A ++ rest.filterMap lineP))
  | [], A, i, hd, hi, hA => by
    have e : i = P.length := by
      have := congrArg List.length hd
      simp at this; omega
    subst e
    simp only [List.filterMap_nil, List.append_nil]
    have c : cmpV Tryd.prog .lss 3 (.int .i64 (P.length : Nat)) (.int .i64 (P.length : Nat)) = some false := (cmp_lss _ _).trans (by simp)
    cases A with
    | nil => exact .last (rndT_to (l0_e s P.length (P.length : Nat) (probB true) (stB P true) psN) okL0 ⟨c, trivial⟩ (entN s P _ _)) (by simp)
    | cons a A => exact .last (rndT_to (l0_f s P.length (P.length : Nat) (probB true) (stB P true) (psC 3 (a :: A).length) (stB (a :: A) true)) okL0 ⟨c, trivial⟩ (entC s P (a :: A) _ 3 _ (.inl rfl))) (by simp)
  | x :: rest, A, i, hd, hi, hA => by
    have hil : i < P.length := by
      have := congrArg List.length hd
      simp at this; omega
    have hx : P[i]? = some x := by
      have := congrArg (·[0]?) hd
      simpa using this
    have hd2 : P.drop (i + 1) = rest := by
      have := congrArg (List.drop 1) hd
      simpa [List.drop_drop, Nat.add_comm] using this
    have hxl := hP x (List.mem_of_getElem? hx)
    have c1 : cmpV Tryd.prog .lss 3 (.int .i64 (i : Nat)) (.int .i64 (P.length : Nat)) = some true := (cmp_lss _ _).trans (by simp; omega)
    have c2 := ixP (n := P.length) hil
    have c4 := hs_q x (by omega)
    have c5 := tr_q x (by omega)
    have c7 := addN i (by omega)
    rw [List.filterMap_cons]
    unfold lineP
    cases he : endsC 10 x with
    | false =>
      rw [he] at c4
      have ih := l0_rds s P hP hn rest A (i + 1) hd2 (by omega) (by omega)
      simp only [Bool.false_eq_true, if_false]
      cases A with
      | nil => exact .next (rndT_to (l0_c s x P.length (i : Nat) ((i + 1 : Nat) : Int) ⟨1, i, none⟩ (probB true) (stB P true) psN) okL0 ⟨c1, c2, rdS (B := ⟨(P.flatMap stC).toArray, 9, 1, true⟩) rfl rfl hx rfl, c4, c7, trivial⟩ (entN s P _ _)) ih
      | cons a A => exact .next (rndT_to (l0_d s x P.length (i : Nat) ((i + 1 : Nat) : Int) ⟨1, i, none⟩ (probB true) (stB P true) (psC 3 (a :: A).length) (stB (a :: A) true)) okL0 ⟨c1, c2, rdS (B := ⟨(P.flatMap stC).toArray, 9, 1, true⟩) rfl rfl hx rfl, c4, c7, trivial⟩ (entC s P (a :: A) _ 3 _ (.inl rfl))) ih
    | true =>
      rw [he] at c4
      simp only [if_true]
      have ih := l0_rds s P hP hn rest (A ++ [trimC 10 x]) (i + 1) hd2 (by omega) (by simp; omega)
      rw [List.append_assoc, List.singleton_append, memA_snoc] at ih
      generalize trimC 10 x = y at c5 ih ⊢
      cases A with
      | nil =>
        have c6 := app_nil (P := Tryd.prog) (f := stC) (n := 1) (fun _ => rfl) growS (H := #[probB true, stB P true, psN, stB [y] true]) (bx := 3) (c' := 1) (a := y) rfl (by simp [stC]) (by rfl)
        exact .next (rndT_to (l0_a s x y P.length (i : Nat) ((i + 1 : Nat) : Int) ⟨1, i, none⟩ (probB true) (stB P true) (stB [y] true)) okL0 ⟨c1, c2, rdS (B := ⟨(P.flatMap stC).toArray, 9, 1, true⟩) rfl rfl hx rfl, c4, c5, c6, c7, trivial⟩ (entC s P [y] _ 4 _ (.inr (.inl rfl)))) ih
      | cons a A =>
        have c6 := app_at (P := Tryd.prog) (f := stC) (n := 1) (fun _ => rfl) growS (H := #[probB true, stB P true, psC 3 (a :: A).length, stB (a :: A) true, stB [y] true]) (br := 3) (bx := 4) (k := (a :: A).length) (c := (a :: A).length) (c' := 1) (l := a :: A) (a := y) rfl rfl rfl rfl rfl rfl rfl (by simp [stC]) (by rfl) (by simp at hA ⊢; omega)
        have en := entC s P (a :: A ++ [y]) P.length 5 ((i + 1 : Nat) : Int) (.inr (.inr rfl))
        have el : (a :: A ++ [y]).length = (a :: A).length + 1 := by simp
        rw [el] at en
        exact .next (rndT_to (l0_b s x y P.length (a :: A).length (i : Nat) ((i + 1 : Nat) : Int) ⟨1, i, none⟩ (probB true) (stB P true) (stB (a :: A) true) (stB (a :: A ++ [y]) true)) okL0 ⟨c1, c2, rdS (B := ⟨(P.flatMap stC).toArray, 9, 1, true⟩) rfl rfl hx rfl, c4, c5, c6, c7, trivial⟩ en) ih

end Go.Proofs.YtameamgamdaibaaDoor
