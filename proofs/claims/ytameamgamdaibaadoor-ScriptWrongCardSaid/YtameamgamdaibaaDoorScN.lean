/- Words as rows of counts, of numbers: script's numbers, by how each word is read. -/
import Derived.Test.YtameamgamdaibaaDoorScT
import Derived.Test.YtameamgamdaibaaDoorScV
namespace Go.Proofs.YtameamgamdaibaaDoor
open Go
set_option linter.unusedVariables false
set_option linter.unusedSimpArgs false
set_option maxRecDepth 100000

/-- All of them, if each is one. -/
def allP {α : Type} (rd : List UInt8 → α × Bool) : List (List UInt8) → Option (List α)
  | [] => some []
  | w :: ws => if (rd w).2 then (allP rd ws).map ((rd w).1 :: ·) else none
theorem allP_len {α : Type} {rd : List UInt8 → α × Bool} : ∀ {ws : List (List UInt8)} {l : List α}, allP rd ws = some l → l.length = ws.length
  | [], l, h => by simp [allP] at h; subst h; rfl
  | w :: ws, l, h => by
    rw [allP] at h
    split at h
    · simp only [Option.map_eq_some_iff] at h
      obtain ⟨l2, h1, rfl⟩ := h
      simp [allP_len h1]
    · cases h
theorem st_clos (l : List (List UInt8)) : ∀ (i : Nat) (v : Value), ((l.flatMap stC).toArray)[i]? = some v → closN 4 v = true := by
  intro i v h
  rw [List.getElem?_toArray] at h
  obtain ⟨n, _, hn⟩ := List.mem_flatMap.1 (List.mem_of_getElem? h)
  simp only [stC, List.mem_singleton] at hn
  subst hn
  rfl
def oS (b n : Nat) : Value := .slice (some ⟨b, 0, none⟩) n n
def ws0 (n : Nat) : Value := .slice (some ⟨0, 1, none⟩) n n
theorem ixW {n i : Nat} (h : i < n) : indexAddrV Tryd.prog 23 (ws0 n) (.int .i64 (i : Nat)) = some (.pointer (some ⟨0, i + 1, none⟩)) := by
  obtain ⟨inf, hi, hz⟩ := sizeB_ex sz_s
  unfold indexAddrV ws0
  simp only [isSliceB_ex ty_ss, hi, hz]
  have : ltI (i : Nat) n = true := Nat.ble_eq_true_of_le h
  rw [this]
  have e : 1 + (i : Int).toNat * 1 = i + 1 := by omega
  simp only [if_true, e]
theorem rdW {w0 x : List UInt8} {ws : List (List UInt8)} {i : Nat} {H : AHeap} {o : Bool} (hH : H[0]? = some (stB (w0 :: ws) o)) (hx : ws[i]? = some x) : readVar Tryd.prog H 9 ⟨0, i + 1, none⟩ = some (stL x) :=
  rdS (B := ⟨((w0 :: ws).flatMap stC).toArray, 9, 1, o⟩) hH rfl (k := i + 1) (by simpa using hx) rfl
theorem addN (i : Nat) (h : i < 4611686018427387904) : pureV Tryd.prog (binOp .add 3 (.int .i64 (i : Nat)) (.int .i64 1)) = some (.int .i64 ((i + 1 : Nat) : Int)) := by
  have h2 : pureV Tryd.prog (binOp .add 3 (.int .i64 (i : Nat)) (.int .i64 1)) = some (.int .i64 (IntKind.i64.wrap ((i : Nat) + 1))) := by kernel_rfl
  rw [h2, wrap_id (by omega) (by omega)]; rfl
/-- A new row behind one that was there, numbered anew. -/
theorem relOut {w : Value} (hw : closN 4 w = true) {n : Nat} {t0 t1 : TypeId} {z0 z1 : Nat} {o0 o1 : Bool} {c0 c1 : Array Value} {x : Option ABlk} (h0 : ∀ (i : Nat) (v : Value), c0[i]? = some v → closN 4 v = true) (h1 : ∀ (i : Nat) (v : Value), c1[i]? = some v → closN 4 v = true) :
    RelS 1 (fun b => if b = 1 then 2 else b) [.tuple #[oS 1 n, w]] #[some ⟨c0, t0, z0, o0⟩, some ⟨c1, t1, z1, o1⟩] [.tuple #[oS 2 n, w]] #[some ⟨c0, t0, z0, o0⟩, x, some ⟨c1, t1, z1, o1⟩] := by
  refine ⟨fun b hb => ?_, rfl, fun i v2 v1 e2 e1 => ?_, fun b B2 hb => ?_, fun b b' B B' hb hb' he => ?_⟩
  · have : b = 0 := by omega
    subst this
    exact ⟨by show 0 < 2; omega, rfl⟩
  · match i, e2, e1 with
    | 0, e2, e1 =>
      simp only [List.getElem?_cons_zero, Option.some.injEq] at e2 e1
      subst e2 e1
      refine .tuple rfl fun i h h' => ?_
      match i, h, h' with
      | 0, _, _ => exact .slice 1 2 0 none n n n (show (1 : Nat) < 2 by decide) rfl
      | 1, _, _ => exact .clos hw
  · match b, hb with
    | 0, hb =>
      have e : B2 = ⟨c0, t0, z0, o0⟩ := by injection hb with hb; injection hb with hb; exact hb.symm
      subst e
      exact ⟨_, rfl, .plain h0⟩
    | 1, hb =>
      have e : B2 = ⟨c1, t1, z1, o1⟩ := by injection hb with hb; injection hb with hb; exact hb.symm
      subst e
      exact ⟨_, rfl, .plain h1⟩
    | b + 2, hb => simp at hb
  · have l1 := lt_of_get hb
    have l2 := lt_of_get hb'
    simp only [List.size_toArray, List.length_cons, List.length_nil] at l1 l2
    by_cases c1 : b = 1
    · by_cases c2 : b' = 1
      · omega
      · rw [if_pos c1, if_neg c2] at he; omega
    · by_cases c2 : b' = 1
      · rw [if_neg c1, if_pos c2] at he; omega
      · rw [if_neg c1, if_neg c2] at he; omega
/-- All of a row behind nothing. -/
theorem app_all {P : Program} {t e : TypeId} (hg : growOk P t e 1 = true) {H : AHeap} {b c n : Nat} {B : ABlk} (hB : H[b]? = some (some B)) (hn : B.cells.size = n) (h1 : B.cells.toList.all oneC = true) (hpos : 1 ≤ n) (hlim : n ≤ 16777216) :
    appendV P H t t (.slice none 0 0) (.slice (some ⟨b, 0, none⟩) n c) = some (.slice (some ⟨H.size, 0, none⟩) n n, H.push (some ⟨B.cells, e, 1, true⟩)) := by
  obtain ⟨hu, i, z, hi, g1, g2, g3, hz, g4⟩ := growOk_ex hg
  have hcut : cut B.cells 0 (n * 1) = B.cells := by
    unfold cut
    rw [List.drop_zero, Nat.mul_one, List.take_of_length_le (by simp [hn])]
  have hnews : newsV H i.size (.slice (some ⟨b, 0, none⟩) n c) = some (n, B.cells) := by
    unfold newsV
    simp only [hB, g1, hcut]
    rw [if_pos]
    rw [Bool.and_eq_true]
    exact ⟨decide_eq_true (by omega), h1⟩
  unfold appendV
  simp only [hu, hi, hz]
  rw [if_pos]
  · simp only [hnews]
    rw [if_neg (by omega), if_pos hlim, g1]
  · simp only [beq_self_eq_true, Bool.true_and, Bool.and_eq_true, beq_iff_eq, decide_eq_true_eq]
    exact ⟨⟨by omega, by omega⟩, g3⟩

/-! ### numbers[int] -/
noncomputable def askNI (g : FuncId) : Nat := if g == 27 then 5 else if [1000015, 1000016, 1000028, 1000029, 1000031].contains g then 7 else 0
def cmNI : BinOp → Value → Value → Bool
  | .lss, .int _ _, _ => true
  | _, _, _ => false
noncomputable def bodyNI : Code := bodyG Tryd.prog 26 0
def fnI : Value := .func (.func 27) #[] #[]
def LI (n : Nat) (i : Int) (o : Value) : List (Nat × Value) := [(1, fnI), (6, o), (11, ws0 n), (12, .int .i64 n), (13, .int .i64 i)]
def oB_I (l : List Int) : Option ABlk := some ⟨(l.flatMap iC).toArray, 3, 1, true⟩
noncomputable def obH_I (H : AHeap) (n : Nat) (i : Int) (p : Addr) (x : List UInt8) (z : Int × Bool) : List Obl :=
  [obC .lss i n true, .ex (indexAddrV Tryd.prog 23 (ws0 n) (.int .i64 i) = some (.pointer (some p))), .ex (readVar Tryd.prog H 9 p = some (stL x)), .run 27 #[stL x] #[] (prV z) #[]]
theorem rI_0 (wb nb : Option ABlk) (n : Nat) (i i2 : Int) (p : Addr) (x : List UInt8) (z : Int) :
  (rndT askNI cmNI bodyNI (tmA 32 (LI n i (.slice none 0 0))) #[wb] [yes true, anV (.pointer (some p)), anV (stL x), anV (prV (z, true)), mAnsT (oS 2 1) [wb, oB_I [z], nb], isI i2] []).map (fun r => (r.1, slG [1, 6, 11, 12, 13] [0, 2] r.2.1 r.2.2.1, r.2.2.2)) =
    some (.normal, (32, [fnI, oS 2 1, ws0 n, .int .i64 n, .int .i64 i2], [some wb, some nb]), obH_I #[wb] n i p x (z, true) ++ [.ex (appendV Tryd.prog #[wb, oB_I [z]] 24 24 (.slice none 0 0) (oS 1 1) = some (oS 2 1, #[wb, oB_I [z], nb])),
      .ex (pureV Tryd.prog (binOp .add 3 (.int .i64 i) (.int .i64 1)) = some (.int .i64 i2))], []) := by kernel_rfl
theorem rI_1 (wb ob nb : Option ABlk) (n k : Nat) (i i2 : Int) (p : Addr) (x : List UInt8) (z : Int) :
  (rndT askNI cmNI bodyNI (tmA 32 (LI n i (oS 1 k))) #[wb, ob] [yes true, anV (.pointer (some p)), anV (stL x), anV (prV (z, true)), mAnsT (oS 3 (k + 1)) [wb, none, oB_I [z], nb], isI i2] []).map (fun r => (r.1, slG [1, 6, 11, 12, 13] [0, 3] r.2.1 r.2.2.1, r.2.2.2)) =
    some (.normal, (32, [fnI, oS 3 (k + 1), ws0 n, .int .i64 n, .int .i64 i2], [some wb, some nb]), obH_I #[wb, ob] n i p x (z, true) ++ [.ex (appendV Tryd.prog #[wb, ob, oB_I [z]] 24 24 (oS 1 k) (oS 2 1) = some (oS 3 (k + 1), #[wb, none, oB_I [z], nb])),
      .ex (pureV Tryd.prog (binOp .add 3 (.int .i64 i) (.int .i64 1)) = some (.int .i64 i2))], []) := by kernel_rfl
theorem rI_f0 (wb : Option ABlk) (n : Nat) (i : Int) (p : Addr) (x : List UInt8) (z : Int) :
  (rndT askNI cmNI bodyNI (tmA 32 (LI n i (.slice none 0 0))) #[wb] [yes true, anV (.pointer (some p)), anV (stL x), anV (prV (z, false))] []).map (fun r => (r.1, slG [4, 5] [0] r.2.1 r.2.2.1, r.2.2.2)) =
    some (.ret, (32, [.slice none 0 0, .bool false], [some wb]), obH_I #[wb] n i p x (z, false), []) := by kernel_rfl
theorem rI_f1 (wb ob : Option ABlk) (n k : Nat) (i : Int) (p : Addr) (x : List UInt8) (z : Int) :
  (rndT askNI cmNI bodyNI (tmA 32 (LI n i (oS 1 k))) #[wb, ob] [yes true, anV (.pointer (some p)), anV (stL x), anV (prV (z, false))] []).map (fun r => (r.1, slG [4, 5] [0] r.2.1 r.2.2.1, r.2.2.2)) =
    some (.ret, (32, [.slice none 0 0, .bool false], [some wb]), obH_I #[wb, ob] n i p x (z, false), []) := by kernel_rfl
theorem rI_end (wb ob : Option ABlk) (n k : Nat) (i : Int) :
  (rndT askNI cmNI bodyNI (tmA 32 (LI n i (oS 1 k))) #[wb, ob] [yes false] []).map (fun r => (r.1, slG [1, 6, 11, 12, 13] [0, 1] r.2.1 r.2.2.1, r.2.2.2)) =
    some (.exit 0, (32, [fnI, oS 1 k, ws0 n, .int .i64 n, .int .i64 i], [some wb, some ob]), [obC .lss i n false], []) := by kernel_rfl
theorem okI : codeOk q1 bodyNI = true := by kernel_rfl
theorem runI (wb ob cb : Option ABlk) (n k : Nat) (i : Int) :
  (askT askNI cmNI 26 #[ws0 n, fnI] #[wb] [mAnsT (oS 2 k) [wb, ob, cb]] [some ⟨.exit 0, tmA 32 (LI n i (oS 1 k)), #[wb, ob]⟩]).map (fun r => (r.1, r.2.1, r.2.2.1, slL [([1, 6, 11, 12, 13], [0])] r.2.2.2)) =
    some (.tuple #[oS 2 k, .bool true], #[wb, ob, cb], [.ex (appendV Tryd.prog #[wb, ob] 24 24 (.slice none 0 0) (oS 1 k) = some (oS 2 k, #[wb, ob, cb]))],
      [(bodyNI, (32, [fnI, .slice none 0 0, ws0 n, .int .i64 n, .int .i64 0], [some wb]), (.exit 0, tmA 32 (LI n i (oS 1 k)), #[wb, ob]))]) := by kernel_rfl
theorem runI_f (wb : Option ABlk) (n : Nat) :
  (askT askNI cmNI 26 #[ws0 n, fnI] #[wb] [] [some ⟨.ret, tmA 32 [(4, .slice none 0 0), (5, .bool false)], #[wb]⟩]).map (fun r => (r.1, r.2.1, r.2.2.1, slL [([1, 6, 11, 12, 13], [0])] r.2.2.2)) =
    some (nilF, #[wb], [], [(bodyNI, (32, [fnI, .slice none 0 0, ws0 n, .int .i64 n, .int .i64 0], [some wb]), (.ret, tmA 32 [(4, .slice none 0 0), (5, .bool false)], #[wb]))]) := by kernel_rfl
theorem growI : growOk Tryd.prog 24 3 1 = true := by kernel_rfl
theorem closI (l : List Int) : ∀ (i : Nat) (v : Value), ((l.flatMap iC).toArray)[i]? = some v → closN 4 v = true := by
  intro i v h
  rw [List.getElem?_toArray] at h
  obtain ⟨n, _, hn⟩ := List.mem_flatMap.1 (List.mem_of_getElem? h)
  simp only [iC, List.mem_singleton] at hn
  subst hn
  rfl
theorem entI (wl : List (List UInt8)) (o : Bool) (l : List Int) (n m b : Nat) (i : Int) (hb : b = 1 ∨ b = 2 ∨ b = 3) : EntOK 1 [1, 6, 11, 12, 13] [0, b] (32, [fnI, oS b m, ws0 n, .int .i64 n, .int .i64 i], [some (stB wl o), some (oB_I l)]) (tmA 32 (LI n i (oS 1 m))) #[stB wl o, oB_I l] := by
  refine entOK (H2 := [stB wl o, oB_I l]) rfl (by simp) (by simp; omega) ?_ ?_
  · exact .cons (.clos rfl) (.cons (.slice 1 b 0 none m m m (show (1 : Nat) < 2 by decide) rfl) (.cons (.slice 0 0 1 none n n n (show (0 : Nat) < 2 by decide) rfl) (.cons (.clos rfl) (.cons (.clos rfl) .nil))))
  · exact .some (.plain (st_clos wl)) (.some (.plain (closI l)) .nil)
theorem entI0 (wl : List (List UInt8)) (o : Bool) (n : Nat) (i : Int) : EntOK 1 [1, 6, 11, 12, 13] [0] (32, [fnI, .slice none 0 0, ws0 n, .int .i64 n, .int .i64 i], [some (stB wl o)]) (tmA 32 (LI n i (.slice none 0 0))) #[stB wl o] := by
  refine entOK (H2 := [stB wl o]) rfl (by simp) (by simp) ?_ ?_
  · exact .cons (.clos rfl) (.cons (.clos rfl) (.cons (.slice 0 0 1 none n n n (show (0 : Nat) < 1 by decide) rfl) (.cons (.clos rfl) (.cons (.clos rfl) .nil))))
  · exact .some (.plain (st_clos wl)) .nil
def badI : List Value := tmA 32 [(4, .slice none 0 0), (5, .bool false)]
theorem entIf (wl : List (List UInt8)) (o : Bool) : EntOK 1 [4, 5] [0] (32, [.slice none 0 0, .bool false], [some (stB wl o)]) badI #[stB wl o] := by
  refine entOK (H2 := [stB wl o]) rfl (by simp) (by simp) ?_ ?_
  · exact .cons (.clos rfl) (.cons (.clos rfl) .nil)
  · exact .some (.plain (st_clos wl)) .nil
section
variable {w0 : List UInt8} {ws : List (List UInt8)} {rdP : List UInt8 → Int × Bool}
theorem rdsI (hrd : ∀ x ∈ ws, Runs Tryd.prog 27 #[stL x] #[] (prV (rdP x)) #[]) (hlim : ws.length < 16777216) : ∀ (rest : List (List UInt8)) (l : List Int) (i : Nat), ws.drop i = rest → l.length = i → i ≤ ws.length → 1 ≤ i →
    match allP rdP rest with
    | some l2 => RdsB Tryd.prog 1 bodyNI (tmA 32 (LI ws.length (i : Nat) (oS 1 i))) #[stB (w0 :: ws) false, oB_I l] (.exit 0, tmA 32 (LI ws.length (ws.length : Nat) (oS 1 ws.length)), #[stB (w0 :: ws) false, oB_I (l ++ l2)])
    | none => RdsB Tryd.prog 1 bodyNI (tmA 32 (LI ws.length (i : Nat) (oS 1 i))) #[stB (w0 :: ws) false, oB_I l] (.ret, badI, #[stB (w0 :: ws) false])
  | [], l, i, hd, hl, hi, h1 => by
    have e : i = ws.length := by
      have := congrArg List.length hd
      simp at this; omega
    subst e
    simp only [allP, List.append_nil]
    exact .last (rndT_to (rI_end (stB (w0 :: ws) false) (oB_I l) ws.length ws.length (ws.length : Nat)) okI ⟨(cmp_lss _ _).trans (by simp), trivial⟩ (entI (w0 :: ws) false l _ _ 1 _ (.inl rfl))) (by simp)
  | x :: rest, l, i, hd, hl, hi, h1 => by
    have hil : i < ws.length := by
      have := congrArg List.length hd
      simp at this; omega
    have hx : ws[i]? = some x := by
      have := congrArg (·[0]?) hd
      simpa using this
    have hd2 : ws.drop (i + 1) = rest := by
      have := congrArg (List.drop 1) hd
      simpa [List.drop_drop, Nat.add_comm] using this
    have c1 : cmpV Tryd.prog .lss 3 (.int .i64 (i : Nat)) (.int .i64 (ws.length : Nat)) = some true := (cmp_lss _ _).trans (by simp; omega)
    have c2 := ixW (n := ws.length) hil
    have c3 := rdW (w0 := w0) (H := #[stB (w0 :: ws) false, oB_I l]) (o := false) rfl hx
    have c4 := hrd x (List.mem_of_getElem? hx)
    have ih := rdsI hrd hlim rest (l ++ [(rdP x).1]) (i + 1) hd2 (by simp [hl]) (by omega) (by omega)
    rw [allP]
    generalize rdP x = z at c4 ih ⊢
    obtain ⟨z, b⟩ := z
    cases b with
    | false =>
      simp only [Bool.false_eq_true, if_false]
      exact .last (rndT_to (rI_f1 (stB (w0 :: ws) false) (oB_I l) ws.length i (i : Nat) ⟨0, i + 1, none⟩ x z) okI ⟨c1, c2, c3, c4, trivial⟩ (entIf (w0 :: ws) false)) (by simp)
    | true =>
      have c5 := app_at (P := Tryd.prog) (f := iC) (n := 1) (fun _ => rfl) growI (H := #[stB (w0 :: ws) false, oB_I l, oB_I [z]]) (br := 1) (bx := 2) (k := i) (c := i) (c' := 1) (l := l) (a := z) rfl rfl rfl rfl rfl hl rfl (by simp [iC]) (by rfl) (by omega)
      have st := rndT_to (rI_1 (stB (w0 :: ws) false) (oB_I l) (oB_I (l ++ [z])) ws.length i (i : Nat) ((i + 1 : Nat) : Int) ⟨0, i + 1, none⟩ x z) okI ⟨c1, c2, c3, c4, c5, addN i (by omega), trivial⟩ (entI (w0 :: ws) false (l ++ [z]) _ _ 3 _ (.inr (.inr rfl)))
      simp only [if_true]
      cases hr : allP rdP rest with
      | none => rw [hr] at ih; exact .next st ih
      | some l2 =>
        rw [hr] at ih
        simp only [Option.map_some]
        simp only [List.append_assoc, List.singleton_append] at ih
        exact .next st ih
theorem rdsI0 (hrd : ∀ x ∈ ws, Runs Tryd.prog 27 #[stL x] #[] (prV (rdP x)) #[]) (hlim : ws.length < 16777216) (hpos : 1 ≤ ws.length) :
    match allP rdP ws with
    | some l2 => RdsB Tryd.prog 1 bodyNI (tmA 32 (LI ws.length ((0 : Nat) : Int) (.slice none 0 0))) #[stB (w0 :: ws) false] (.exit 0, tmA 32 (LI ws.length (ws.length : Nat) (oS 1 ws.length)), #[stB (w0 :: ws) false, oB_I l2])
    | none => RdsB Tryd.prog 1 bodyNI (tmA 32 (LI ws.length ((0 : Nat) : Int) (.slice none 0 0))) #[stB (w0 :: ws) false] (.ret, badI, #[stB (w0 :: ws) false]) := by
  obtain ⟨x, rest, hws⟩ : ∃ x rest, ws = x :: rest := by
    cases ws with
    | nil => simp at hpos
    | cons x r => exact ⟨x, r, rfl⟩
  have hx : ws[0]? = some x := by rw [hws]; rfl
  have c1 : cmpV Tryd.prog .lss 3 (.int .i64 ((0 : Nat) : Int)) (.int .i64 (ws.length : Nat)) = some true := (cmp_lss _ _).trans (by simp; omega)
  have c2 := ixW (n := ws.length) (i := 0) hpos
  have c3 := rdW (w0 := w0) (H := #[stB (w0 :: ws) false]) (o := false) rfl hx
  have c4 := hrd x (List.mem_of_getElem? hx)
  have ih := rdsI (w0 := w0) hrd hlim rest [(rdP x).1] 1 (by rw [hws]; rfl) rfl hpos (Nat.le_refl _)
  have ha : allP rdP ws = if (rdP x).2 then (allP rdP rest).map ((rdP x).1 :: ·) else none := by rw [hws]; rfl
  rw [ha]
  generalize rdP x = z at c4 ih ⊢
  obtain ⟨z, b⟩ := z
  cases b with
  | false =>
    simp only [Bool.false_eq_true, if_false]
    exact .last (rndT_to (rI_f0 (stB (w0 :: ws) false) ws.length ((0 : Nat) : Int) ⟨0, 1, none⟩ x z) okI ⟨c1, c2, c3, c4, trivial⟩ (entIf (w0 :: ws) false)) (by simp)
  | true =>
    have c5 := app_nil (P := Tryd.prog) (f := iC) (n := 1) (fun _ => rfl) growI (H := #[stB (w0 :: ws) false, oB_I [z]]) (bx := 1) (c' := 1) (a := z) rfl (by simp [iC]) (by rfl)
    have st := rndT_to (rI_0 (stB (w0 :: ws) false) (oB_I [z]) ws.length ((0 : Nat) : Int) ((1 : Nat) : Int) ⟨0, 1, none⟩ x z) okI ⟨c1, c2, c3, c4, c5, addN 0 (by omega), trivial⟩ (entI (w0 :: ws) false [z] _ _ 2 _ (.inr (.inl rfl)))
    simp only [if_true]
    cases hr : allP rdP rest with
    | none => rw [hr] at ih; exact .next st ih
    | some l2 => rw [hr] at ih; exact .next st ih
/-- What it tells: nothing, if a word is none; else the row, new. -/
theorem numsI_q (hrd : ∀ x ∈ ws, Runs Tryd.prog 27 #[stL x] #[] (prV (rdP x)) #[]) (hlim : ws.length < 16777216) (hpos : 1 ≤ ws.length) :
    match allP rdP ws with
    | none => Runs Tryd.prog 26 #[ws0 ws.length, fnI] #[stB (w0 :: ws) false] nilF #[stB (w0 :: ws) false]
    | some l => Runs Tryd.prog 26 #[ws0 ws.length, fnI] #[stB (w0 :: ws) false] (.tuple #[oS 1 ws.length, .bool true]) #[stB (w0 :: ws) false, oB_I l] := by
  have rds := rdsI0 (w0 := w0) hrd hlim hpos
  cases hr : allP rdP ws with
  | none =>
    rw [hr] at rds
    have lps : LpsOK Tryd.prog 1 [([1, 6, 11, 12, 13], [0])] [(bodyNI, (32, [fnI, .slice none 0 0, ws0 ws.length, .int .i64 ws.length, .int .i64 0], [some (stB (w0 :: ws) false)]), (.ret, badI, #[stB (w0 :: ws) false]))] :=
      ⟨⟨_, _, entI0 (w0 :: ws) false _ _, rds.loop⟩, trivial⟩
    obtain ⟨H', e, h⟩ := askT_to (g := fun H => H) (runI_f (stB (w0 :: ws) false) ws.length) trivial lps
    exact e ▸ h
  | some l =>
    rw [hr] at rds
    have hl := allP_len hr
    have lps : LpsOK Tryd.prog 1 [([1, 6, 11, 12, 13], [0])] [(bodyNI, (32, [fnI, .slice none 0 0, ws0 ws.length, .int .i64 ws.length, .int .i64 0], [some (stB (w0 :: ws) false)]), (.exit 0, tmA 32 (LI ws.length (ws.length : Nat) (oS 1 ws.length)), #[stB (w0 :: ws) false, oB_I l]))] :=
      ⟨⟨_, _, entI0 (w0 :: ws) false _ _, rds.loop⟩, trivial⟩
    have ap := app_all (P := Tryd.prog) growI (H := #[stB (w0 :: ws) false, oB_I l]) (b := 1) (c := ws.length) (n := ws.length) (B := ⟨(l.flatMap iC).toArray, 3, 1, true⟩) rfl (by rw [List.size_toArray, flat_len iC 1 (fun _ => rfl), hl]; omega) (by
      rw [List.all_eq_true]
      intro v hv
      obtain ⟨z, _, hz⟩ := List.mem_flatMap.1 hv
      simp only [iC, List.mem_singleton] at hz
      subst hz
      rfl) hpos (by omega)
    obtain ⟨H', e, h⟩ := askT_to (g := fun H => H) (runI (stB (w0 :: ws) false) (oB_I l) (oB_I l) ws.length ws.length (ws.length : Nat)) ⟨ap, trivial⟩ lps
    subst e
    exact h.ren (relOut (w := .bool true) rfl (st_clos _) (closI l))
end

/-! ### numbers[float64] -/
noncomputable def askNF (g : FuncId) : Nat := if g == 31 then 5 else if [1000015, 1000016, 1000028, 1000029, 1000031].contains g then 7 else 0
def cmNF : BinOp → Value → Value → Bool
  | .lss, .int _ _, _ => true
  | _, _, _ => false
noncomputable def bodyNF : Code := bodyG Tryd.prog 30 0
def fnF : Value := .func (.func 31) #[] #[]
def LF (n : Nat) (i : Int) (o : Value) : List (Nat × Value) := [(1, fnF), (6, o), (11, ws0 n), (12, .int .i64 n), (13, .int .i64 i)]
def oB_F (l : List Nat) : Option ABlk := some ⟨(l.flatMap fC).toArray, 31, 1, true⟩
noncomputable def obH_F (H : AHeap) (n : Nat) (i : Int) (p : Addr) (x : List UInt8) (z : Nat × Bool) : List Obl :=
  [obC .lss i n true, .ex (indexAddrV Tryd.prog 23 (ws0 n) (.int .i64 i) = some (.pointer (some p))), .ex (readVar Tryd.prog H 9 p = some (stL x)), .run 31 #[stL x] #[] (flV z) #[]]
theorem rF_0 (wb nb : Option ABlk) (n : Nat) (i i2 : Int) (p : Addr) (x : List UInt8) (z : Nat) :
  (rndT askNF cmNF bodyNF (tmA 32 (LF n i (.slice none 0 0))) #[wb] [yes true, anV (.pointer (some p)), anV (stL x), anV (flV (z, true)), mAnsT (oS 2 1) [wb, oB_F [z], nb], isI i2] []).map (fun r => (r.1, slG [1, 6, 11, 12, 13] [0, 2] r.2.1 r.2.2.1, r.2.2.2)) =
    some (.normal, (32, [fnF, oS 2 1, ws0 n, .int .i64 n, .int .i64 i2], [some wb, some nb]), obH_F #[wb] n i p x (z, true) ++ [.ex (appendV Tryd.prog #[wb, oB_F [z]] 30 30 (.slice none 0 0) (oS 1 1) = some (oS 2 1, #[wb, oB_F [z], nb])),
      .ex (pureV Tryd.prog (binOp .add 3 (.int .i64 i) (.int .i64 1)) = some (.int .i64 i2))], []) := by kernel_rfl
theorem rF_1 (wb ob nb : Option ABlk) (n k : Nat) (i i2 : Int) (p : Addr) (x : List UInt8) (z : Nat) :
  (rndT askNF cmNF bodyNF (tmA 32 (LF n i (oS 1 k))) #[wb, ob] [yes true, anV (.pointer (some p)), anV (stL x), anV (flV (z, true)), mAnsT (oS 3 (k + 1)) [wb, none, oB_F [z], nb], isI i2] []).map (fun r => (r.1, slG [1, 6, 11, 12, 13] [0, 3] r.2.1 r.2.2.1, r.2.2.2)) =
    some (.normal, (32, [fnF, oS 3 (k + 1), ws0 n, .int .i64 n, .int .i64 i2], [some wb, some nb]), obH_F #[wb, ob] n i p x (z, true) ++ [.ex (appendV Tryd.prog #[wb, ob, oB_F [z]] 30 30 (oS 1 k) (oS 2 1) = some (oS 3 (k + 1), #[wb, none, oB_F [z], nb])),
      .ex (pureV Tryd.prog (binOp .add 3 (.int .i64 i) (.int .i64 1)) = some (.int .i64 i2))], []) := by kernel_rfl
theorem rF_f0 (wb : Option ABlk) (n : Nat) (i : Int) (p : Addr) (x : List UInt8) (z : Nat) :
  (rndT askNF cmNF bodyNF (tmA 32 (LF n i (.slice none 0 0))) #[wb] [yes true, anV (.pointer (some p)), anV (stL x), anV (flV (z, false))] []).map (fun r => (r.1, slG [4, 5] [0] r.2.1 r.2.2.1, r.2.2.2)) =
    some (.ret, (32, [.slice none 0 0, .bool false], [some wb]), obH_F #[wb] n i p x (z, false), []) := by kernel_rfl
theorem rF_f1 (wb ob : Option ABlk) (n k : Nat) (i : Int) (p : Addr) (x : List UInt8) (z : Nat) :
  (rndT askNF cmNF bodyNF (tmA 32 (LF n i (oS 1 k))) #[wb, ob] [yes true, anV (.pointer (some p)), anV (stL x), anV (flV (z, false))] []).map (fun r => (r.1, slG [4, 5] [0] r.2.1 r.2.2.1, r.2.2.2)) =
    some (.ret, (32, [.slice none 0 0, .bool false], [some wb]), obH_F #[wb, ob] n i p x (z, false), []) := by kernel_rfl
theorem rF_end (wb ob : Option ABlk) (n k : Nat) (i : Int) :
  (rndT askNF cmNF bodyNF (tmA 32 (LF n i (oS 1 k))) #[wb, ob] [yes false] []).map (fun r => (r.1, slG [1, 6, 11, 12, 13] [0, 1] r.2.1 r.2.2.1, r.2.2.2)) =
    some (.exit 0, (32, [fnF, oS 1 k, ws0 n, .int .i64 n, .int .i64 i], [some wb, some ob]), [obC .lss i n false], []) := by kernel_rfl
theorem okF : codeOk q1 bodyNF = true := by kernel_rfl
theorem runF (wb ob cb : Option ABlk) (n k : Nat) (i : Int) :
  (askT askNF cmNF 30 #[ws0 n, fnF] #[wb] [mAnsT (oS 2 k) [wb, ob, cb]] [some ⟨.exit 0, tmA 32 (LF n i (oS 1 k)), #[wb, ob]⟩]).map (fun r => (r.1, r.2.1, r.2.2.1, slL [([1, 6, 11, 12, 13], [0])] r.2.2.2)) =
    some (.tuple #[oS 2 k, .bool true], #[wb, ob, cb], [.ex (appendV Tryd.prog #[wb, ob] 30 30 (.slice none 0 0) (oS 1 k) = some (oS 2 k, #[wb, ob, cb]))],
      [(bodyNF, (32, [fnF, .slice none 0 0, ws0 n, .int .i64 n, .int .i64 0], [some wb]), (.exit 0, tmA 32 (LF n i (oS 1 k)), #[wb, ob]))]) := by kernel_rfl
theorem runF_f (wb : Option ABlk) (n : Nat) :
  (askT askNF cmNF 30 #[ws0 n, fnF] #[wb] [] [some ⟨.ret, tmA 32 [(4, .slice none 0 0), (5, .bool false)], #[wb]⟩]).map (fun r => (r.1, r.2.1, r.2.2.1, slL [([1, 6, 11, 12, 13], [0])] r.2.2.2)) =
    some (nilF, #[wb], [], [(bodyNF, (32, [fnF, .slice none 0 0, ws0 n, .int .i64 n, .int .i64 0], [some wb]), (.ret, tmA 32 [(4, .slice none 0 0), (5, .bool false)], #[wb]))]) := by kernel_rfl
theorem growF : growOk Tryd.prog 30 31 1 = true := by kernel_rfl
theorem closF (l : List Nat) : ∀ (i : Nat) (v : Value), ((l.flatMap fC).toArray)[i]? = some v → closN 4 v = true := by
  intro i v h
  rw [List.getElem?_toArray] at h
  obtain ⟨n, _, hn⟩ := List.mem_flatMap.1 (List.mem_of_getElem? h)
  simp only [fC, List.mem_singleton] at hn
  subst hn
  rfl
theorem entF (wl : List (List UInt8)) (o : Bool) (l : List Nat) (n m b : Nat) (i : Int) (hb : b = 1 ∨ b = 2 ∨ b = 3) : EntOK 1 [1, 6, 11, 12, 13] [0, b] (32, [fnF, oS b m, ws0 n, .int .i64 n, .int .i64 i], [some (stB wl o), some (oB_F l)]) (tmA 32 (LF n i (oS 1 m))) #[stB wl o, oB_F l] := by
  refine entOK (H2 := [stB wl o, oB_F l]) rfl (by simp) (by simp; omega) ?_ ?_
  · exact .cons (.clos rfl) (.cons (.slice 1 b 0 none m m m (show (1 : Nat) < 2 by decide) rfl) (.cons (.slice 0 0 1 none n n n (show (0 : Nat) < 2 by decide) rfl) (.cons (.clos rfl) (.cons (.clos rfl) .nil))))
  · exact .some (.plain (st_clos wl)) (.some (.plain (closF l)) .nil)
theorem entF0 (wl : List (List UInt8)) (o : Bool) (n : Nat) (i : Int) : EntOK 1 [1, 6, 11, 12, 13] [0] (32, [fnF, .slice none 0 0, ws0 n, .int .i64 n, .int .i64 i], [some (stB wl o)]) (tmA 32 (LF n i (.slice none 0 0))) #[stB wl o] := by
  refine entOK (H2 := [stB wl o]) rfl (by simp) (by simp) ?_ ?_
  · exact .cons (.clos rfl) (.cons (.clos rfl) (.cons (.slice 0 0 1 none n n n (show (0 : Nat) < 1 by decide) rfl) (.cons (.clos rfl) (.cons (.clos rfl) .nil))))
  · exact .some (.plain (st_clos wl)) .nil
def badF : List Value := tmA 32 [(4, .slice none 0 0), (5, .bool false)]
theorem entFf (wl : List (List UInt8)) (o : Bool) : EntOK 1 [4, 5] [0] (32, [.slice none 0 0, .bool false], [some (stB wl o)]) badF #[stB wl o] := by
  refine entOK (H2 := [stB wl o]) rfl (by simp) (by simp) ?_ ?_
  · exact .cons (.clos rfl) (.cons (.clos rfl) .nil)
  · exact .some (.plain (st_clos wl)) .nil
section
variable {w0 : List UInt8} {ws : List (List UInt8)} {rdP : List UInt8 → Nat × Bool}
theorem rdsF (hrd : ∀ x ∈ ws, Runs Tryd.prog 31 #[stL x] #[] (flV (rdP x)) #[]) (hlim : ws.length < 16777216) : ∀ (rest : List (List UInt8)) (l : List Nat) (i : Nat), ws.drop i = rest → l.length = i → i ≤ ws.length → 1 ≤ i →
    match allP rdP rest with
    | some l2 => RdsB Tryd.prog 1 bodyNF (tmA 32 (LF ws.length (i : Nat) (oS 1 i))) #[stB (w0 :: ws) false, oB_F l] (.exit 0, tmA 32 (LF ws.length (ws.length : Nat) (oS 1 ws.length)), #[stB (w0 :: ws) false, oB_F (l ++ l2)])
    | none => RdsB Tryd.prog 1 bodyNF (tmA 32 (LF ws.length (i : Nat) (oS 1 i))) #[stB (w0 :: ws) false, oB_F l] (.ret, badF, #[stB (w0 :: ws) false])
  | [], l, i, hd, hl, hi, h1 => by
    have e : i = ws.length := by
      have := congrArg List.length hd
      simp at this; omega
    subst e
    simp only [allP, List.append_nil]
    exact .last (rndT_to (rF_end (stB (w0 :: ws) false) (oB_F l) ws.length ws.length (ws.length : Nat)) okF ⟨(cmp_lss _ _).trans (by simp), trivial⟩ (entF (w0 :: ws) false l _ _ 1 _ (.inl rfl))) (by simp)
  | x :: rest, l, i, hd, hl, hi, h1 => by
    have hil : i < ws.length := by
      have := congrArg List.length hd
      simp at this; omega
    have hx : ws[i]? = some x := by
      have := congrArg (·[0]?) hd
      simpa using this
    have hd2 : ws.drop (i + 1) = rest := by
      have := congrArg (List.drop 1) hd
      simpa [List.drop_drop, Nat.add_comm] using this
    have c1 : cmpV Tryd.prog .lss 3 (.int .i64 (i : Nat)) (.int .i64 (ws.length : Nat)) = some true := (cmp_lss _ _).trans (by simp; omega)
    have c2 := ixW (n := ws.length) hil
    have c3 := rdW (w0 := w0) (H := #[stB (w0 :: ws) false, oB_F l]) (o := false) rfl hx
    have c4 := hrd x (List.mem_of_getElem? hx)
    have ih := rdsF hrd hlim rest (l ++ [(rdP x).1]) (i + 1) hd2 (by simp [hl]) (by omega) (by omega)
    rw [allP]
    generalize rdP x = z at c4 ih ⊢
    obtain ⟨z, b⟩ := z
    cases b with
    | false =>
      simp only [Bool.false_eq_true, if_false]
      exact .last (rndT_to (rF_f1 (stB (w0 :: ws) false) (oB_F l) ws.length i (i : Nat) ⟨0, i + 1, none⟩ x z) okF ⟨c1, c2, c3, c4, trivial⟩ (entFf (w0 :: ws) false)) (by simp)
    | true =>
      have c5 := app_at (P := Tryd.prog) (f := fC) (n := 1) (fun _ => rfl) growF (H := #[stB (w0 :: ws) false, oB_F l, oB_F [z]]) (br := 1) (bx := 2) (k := i) (c := i) (c' := 1) (l := l) (a := z) rfl rfl rfl rfl rfl hl rfl (by simp [fC]) (by rfl) (by omega)
      have st := rndT_to (rF_1 (stB (w0 :: ws) false) (oB_F l) (oB_F (l ++ [z])) ws.length i (i : Nat) ((i + 1 : Nat) : Int) ⟨0, i + 1, none⟩ x z) okF ⟨c1, c2, c3, c4, c5, addN i (by omega), trivial⟩ (entF (w0 :: ws) false (l ++ [z]) _ _ 3 _ (.inr (.inr rfl)))
      simp only [if_true]
      cases hr : allP rdP rest with
      | none => rw [hr] at ih; exact .next st ih
      | some l2 =>
        rw [hr] at ih
        simp only [Option.map_some]
        simp only [List.append_assoc, List.singleton_append] at ih
        exact .next st ih
theorem rdsF0 (hrd : ∀ x ∈ ws, Runs Tryd.prog 31 #[stL x] #[] (flV (rdP x)) #[]) (hlim : ws.length < 16777216) (hpos : 1 ≤ ws.length) :
    match allP rdP ws with
    | some l2 => RdsB Tryd.prog 1 bodyNF (tmA 32 (LF ws.length ((0 : Nat) : Int) (.slice none 0 0))) #[stB (w0 :: ws) false] (.exit 0, tmA 32 (LF ws.length (ws.length : Nat) (oS 1 ws.length)), #[stB (w0 :: ws) false, oB_F l2])
    | none => RdsB Tryd.prog 1 bodyNF (tmA 32 (LF ws.length ((0 : Nat) : Int) (.slice none 0 0))) #[stB (w0 :: ws) false] (.ret, badF, #[stB (w0 :: ws) false]) := by
  obtain ⟨x, rest, hws⟩ : ∃ x rest, ws = x :: rest := by
    cases ws with
    | nil => simp at hpos
    | cons x r => exact ⟨x, r, rfl⟩
  have hx : ws[0]? = some x := by rw [hws]; rfl
  have c1 : cmpV Tryd.prog .lss 3 (.int .i64 ((0 : Nat) : Int)) (.int .i64 (ws.length : Nat)) = some true := (cmp_lss _ _).trans (by simp; omega)
  have c2 := ixW (n := ws.length) (i := 0) hpos
  have c3 := rdW (w0 := w0) (H := #[stB (w0 :: ws) false]) (o := false) rfl hx
  have c4 := hrd x (List.mem_of_getElem? hx)
  have ih := rdsF (w0 := w0) hrd hlim rest [(rdP x).1] 1 (by rw [hws]; rfl) rfl hpos (Nat.le_refl _)
  have ha : allP rdP ws = if (rdP x).2 then (allP rdP rest).map ((rdP x).1 :: ·) else none := by rw [hws]; rfl
  rw [ha]
  generalize rdP x = z at c4 ih ⊢
  obtain ⟨z, b⟩ := z
  cases b with
  | false =>
    simp only [Bool.false_eq_true, if_false]
    exact .last (rndT_to (rF_f0 (stB (w0 :: ws) false) ws.length ((0 : Nat) : Int) ⟨0, 1, none⟩ x z) okF ⟨c1, c2, c3, c4, trivial⟩ (entFf (w0 :: ws) false)) (by simp)
  | true =>
    have c5 := app_nil (P := Tryd.prog) (f := fC) (n := 1) (fun _ => rfl) growF (H := #[stB (w0 :: ws) false, oB_F [z]]) (bx := 1) (c' := 1) (a := z) rfl (by simp [fC]) (by rfl)
    have st := rndT_to (rF_0 (stB (w0 :: ws) false) (oB_F [z]) ws.length ((0 : Nat) : Int) ((1 : Nat) : Int) ⟨0, 1, none⟩ x z) okF ⟨c1, c2, c3, c4, c5, addN 0 (by omega), trivial⟩ (entF (w0 :: ws) false [z] _ _ 2 _ (.inr (.inl rfl)))
    simp only [if_true]
    cases hr : allP rdP rest with
    | none => rw [hr] at ih; exact .next st ih
    | some l2 => rw [hr] at ih; exact .next st ih
/-- What it tells: nothing, if a word is none; else the row, new. -/
theorem numsF_q (hrd : ∀ x ∈ ws, Runs Tryd.prog 31 #[stL x] #[] (flV (rdP x)) #[]) (hlim : ws.length < 16777216) (hpos : 1 ≤ ws.length) :
    match allP rdP ws with
    | none => Runs Tryd.prog 30 #[ws0 ws.length, fnF] #[stB (w0 :: ws) false] nilF #[stB (w0 :: ws) false]
    | some l => Runs Tryd.prog 30 #[ws0 ws.length, fnF] #[stB (w0 :: ws) false] (.tuple #[oS 1 ws.length, .bool true]) #[stB (w0 :: ws) false, oB_F l] := by
  have rds := rdsF0 (w0 := w0) hrd hlim hpos
  cases hr : allP rdP ws with
  | none =>
    rw [hr] at rds
    have lps : LpsOK Tryd.prog 1 [([1, 6, 11, 12, 13], [0])] [(bodyNF, (32, [fnF, .slice none 0 0, ws0 ws.length, .int .i64 ws.length, .int .i64 0], [some (stB (w0 :: ws) false)]), (.ret, badF, #[stB (w0 :: ws) false]))] :=
      ⟨⟨_, _, entF0 (w0 :: ws) false _ _, rds.loop⟩, trivial⟩
    obtain ⟨H', e, h⟩ := askT_to (g := fun H => H) (runF_f (stB (w0 :: ws) false) ws.length) trivial lps
    exact e ▸ h
  | some l =>
    rw [hr] at rds
    have hl := allP_len hr
    have lps : LpsOK Tryd.prog 1 [([1, 6, 11, 12, 13], [0])] [(bodyNF, (32, [fnF, .slice none 0 0, ws0 ws.length, .int .i64 ws.length, .int .i64 0], [some (stB (w0 :: ws) false)]), (.exit 0, tmA 32 (LF ws.length (ws.length : Nat) (oS 1 ws.length)), #[stB (w0 :: ws) false, oB_F l]))] :=
      ⟨⟨_, _, entF0 (w0 :: ws) false _ _, rds.loop⟩, trivial⟩
    have ap := app_all (P := Tryd.prog) growF (H := #[stB (w0 :: ws) false, oB_F l]) (b := 1) (c := ws.length) (n := ws.length) (B := ⟨(l.flatMap fC).toArray, 31, 1, true⟩) rfl (by rw [List.size_toArray, flat_len fC 1 (fun _ => rfl), hl]; omega) (by
      rw [List.all_eq_true]
      intro v hv
      obtain ⟨z, _, hz⟩ := List.mem_flatMap.1 hv
      simp only [fC, List.mem_singleton] at hz
      subst hz
      rfl) hpos (by omega)
    obtain ⟨H', e, h⟩ := askT_to (g := fun H => H) (runF (stB (w0 :: ws) false) (oB_F l) (oB_F l) ws.length ws.length (ws.length : Nat)) ⟨ap, trivial⟩ lps
    subst e
    exact h.ren (relOut (w := .bool true) rfl (st_clos _) (closF l))
end

end Go.Proofs.YtameamgamdaibaaDoor
