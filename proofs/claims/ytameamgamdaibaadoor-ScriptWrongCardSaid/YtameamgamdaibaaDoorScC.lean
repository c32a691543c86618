/- Parse's loops over operations and boxes: what they come to. -/
import Derived.Test.YtameamgamdaibaaDoorScB
import Derived.Test.YtameamgamdaibaaDoorScG
namespace Go.Proofs.YtameamgamdaibaaDoor
open Go
set_option linter.unusedVariables false
set_option linter.unusedSimpArgs false
set_option maxRecDepth 100000

/-! ### plain functions -/
def wOut : List UInt8 := [111, 117, 116]
def wStart : List UInt8 := [115, 116, 97, 114, 116]
def wBox : List UInt8 := [98, 111, 120]
def wd (j : Nat) : List UInt8 := match j with
  | 0 => [99, 111, 110, 115, 116]
  | 1 => [108, 111, 97, 100]
  | 2 => [97, 100, 100]
  | 3 => [115, 117, 98]
  | 4 => [109, 117, 108]
  | 5 => [100, 105, 118]
  | _ => []
/-- A line as an operation of a kind. -/
noncomputable def opAt (L : List (List UInt8)) (k j : Nat) : Option OpD := match j with
  | 0 => match takeP L k (wd 0) 1 with
    | some ws => match allP fltP ws with
      | some l => some ⟨0, 0, 0, l.getD 0 0⟩
      | none => none
    | none => none
  | 1 => match takeP L k (wd 1) 1 with
    | some ws => match allP digP ws with
      | some l => some ⟨1, l.getD 0 0, 0, 0⟩
      | none => none
    | none => none
  | j => match takeP L k (wd j) 2 with
    | some ws => match allP digP ws with
      | some l => some ⟨j, l.getD 0 0, l.getD 1 0, 0⟩
      | none => none
    | none => none
noncomputable def opP (L : List (List UInt8)) (k : Nat) : Option OpD := match (List.range 6).find? fun j => beginP L k (wd j) with
  | some j => opAt L k j
  | none => none
/-- Operations until the line of outputs: how many lines may be left; whether that line came, the operations, where. -/
noncomputable def opsP (L : List (List UInt8)) : Nat → Nat → List OpD → Bool × List OpD × Nat
  | 0, k, acc => (false, acc, k)
  | d + 1, k, acc => if beginP L k wOut then (true, acc, k) else match opP L k with
    | some o => opsP L d (k + 1) (acc ++ [o])
    | none => (false, acc, k)
noncomputable def boxAt (L : List (List UInt8)) (k : Nat) : Option (Nat × Nat) := match takeP L k wBox 2 with
  | some ws => match allP fltP ws with
    | some l => some (l.getD 0 0, l.getD 1 0)
    | none => none
  | none => none
noncomputable def boxP (L : List (List UInt8)) : Nat → Nat → List (Nat × Nat) → Bool × List (Nat × Nat) × Nat
  | 0, k, acc => (false, acc, k)
  | d + 1, k, acc => if beginP L k wStart then (true, acc, k) else match boxAt L k with
    | some b => boxP L d (k + 1) (acc ++ [b])
    | none => (false, acc, k)

theorem takeP_len {L : List (List UInt8)} {k : Nat} {f : List UInt8} {m : Int} {ws : List (List UInt8)} (h : takeP L k f m = some ws) (hm : m ≥ 0) : (ws.length : Int) = m := by
  unfold takeP at h
  split at h
  · cases h
  · split at h
    · split at h
      · rename_i hc
        injection h with h
        subst h
        exact Classical.byContradiction fun e => hc.2.1 ⟨hm, e⟩
      · cases h
    · cases h
theorem splitC_mem (sv c : Nat) : ∀ (x : List UInt8) (p : List UInt8), p ∈ splitC sv c x → p.length ≤ x.length
  | [], p, h => by simp [splitC] at h; subst h; simp
  | y :: l, p, h => by
    have ih := splitC_mem sv c l
    rw [splitC] at h
    split at h
    · rcases List.mem_cons.1 h with rfl | h
      · simp; omega
      · have := ih p h; simp; omega
    · obtain ⟨w0, ws, e⟩ := splitC_cons sv c l
      rw [e] at h ih
      simp only at h
      rcases List.mem_cons.1 h with rfl | h
      · have := ih w0 (by simp); simp; omega
      · have := ih p (by simp [h]); simp; omega
theorem takeP_mem {L : List (List UInt8)} {k : Nat} {f : List UInt8} {m : Int} {ws : List (List UInt8)} (h : takeP L k f m = some ws) (hL : ∀ x ∈ L, x.length < 4294967280) : 1 ≤ ws.length ∧ ∀ w ∈ ws, w.length < 4294967281 := by
  unfold takeP at h
  split at h
  · cases h
  · rename_i x hx
    have hxl := hL x (List.mem_of_getElem? hx)
    split at h
    · rename_i w0 ws2 hs
      split at h
      · rename_i hc
        injection h with h
        subst h
        refine ⟨hc.2.2, fun w hw => ?_⟩
        have := splitC_mem 0 32 x w (by rw [hs]; exact List.mem_cons_of_mem _ hw)
        omega
      · cases h
    · cases h

/-! ### memory -/
def opsV : List OpD → Value
  | [] => nlS
  | a :: l => oS 3 (a :: l).length
def opsB : List OpD → Option ABlk
  | [] => none
  | a :: l => some ⟨((a :: l).flatMap opC).toArray, 41, 4, true⟩
theorem opsB_snoc (acc : List OpD) (o : OpD) : opsB (acc ++ [o]) = some ⟨((acc ++ [o]).flatMap opC).toArray, 41, 4, true⟩ := by cases acc <;> rfl
theorem opsV_snoc (acc : List OpD) (o : OpD) : opsV (acc ++ [o]) = oS 3 (acc.length + 1) := by cases acc with
  | nil => rfl
  | cons a l => unfold opsV; simp [oS]
noncomputable def memO (N : Int) (acc : List OpD) (L : List (List UInt8)) (k : Nat) : List (Option ABlk) := H1 N (opsV acc) L.length (k : Nat) (stB L true) (opsB acc)
/-- What is left for an error: the parser's place. -/
def outX : Option ABlk := some ⟨(List.replicate 13 anyV).toArray, 33, 0, true⟩
def psX (k : Int) : Option ABlk := some ⟨#[anyV, .int .i64 k], 48, 0, true⟩
def memX (k : Nat) : AHeap := #[outX, psX (k : Nat)]
theorem inc_nat {k : Nat} (h : k < 4611686018427387904) : inc (k : Nat) = ((k + 1 : Nat) : Int) := by
  unfold inc
  rw [wrap_id (by omega) (by omega)]; rfl
theorem growO : growOk Tryd.prog 26 41 4 = true := by kernel_rfl
theorem growB : growOk Tryd.prog 29 59 2 = true := by kernel_rfl
theorem opC_clos (l : List OpD) : ∀ (i : Nat) (v : Value), ((l.flatMap opC).toArray)[i]? = some v → closN 4 v = true := by
  intro i v h
  rw [List.getElem?_toArray] at h
  obtain ⟨n, _, hn⟩ := List.mem_flatMap.1 (List.mem_of_getElem? h)
  simp only [opC, List.mem_cons, List.not_mem_nil, or_false] at hn
  rcases hn with rfl | rfl | rfl | rfl <;> rfl
theorem relAny {z : Nat} {ρ : Nat → Nat} : ∀ (n : Nat) (l : List Value), l.length = n → RelAs z ρ (List.replicate n anyV) l
  | 0, [], _ => .nil
  | n + 1, v :: l, h => .cons (.any v) (relAny n l (by simpa using h))
theorem entX (N : Int) (ov rv bv : Value) (n k : Nat) : EntOK 0 [2, 6] [0, 1] (206, [p0, pt 1], [some (outB N ov rv bv), some (psK n (k : Nat))]) (tmA 206 LX) (memX k) := by
  refine entOK (H2 := [outX, psX (k : Nat)]) rfl (by simp) (by simp) ?_ ?_
  · exact .cons (.ptr 0 0 0 none (show (0 : Nat) < 2 by decide) rfl) (.cons (.ptr 1 1 0 none (show (1 : Nat) < 2 by decide) rfl) .nil)
  · refine .some ?_ (.some ?_ .nil)
    · exact RelK.list (relAny 13 _ rfl)
    · exact RelK.list (l2 := [anyV, .int .i64 (k : Nat)]) (l1 := [oS 2 n, .int .i64 (k : Nat)]) (.cons (.any _) (.cons (.clos rfl) .nil))
theorem psAtF {H : List (Option ABlk)} {L : List (List UInt8)} {k : Nat} (h1 : H[1]? = some (psK L.length (k : Nat))) (h2 : H[2]? = some (stB L true)) : PsAt (froze H.toArray) 1 2 L k := by
  have g : ∀ (i : Nat) (B : ABlk), H[i]? = some (some B) → (froze H.toArray)[i]? = some (some { B with own := false }) := by
    intro i B h
    unfold froze
    simp [h, fz]
  exact ⟨by decide, ⟨false, _, g 1 _ h1⟩, ⟨false, g 2 _ h2⟩⟩
theorem frozeAt {H : List (Option ABlk)} {W : List (List UInt8)} {b : Nat} (h : H[b]? = some (stB W true)) : (froze H.toArray)[b]? = some (stB W false) := by
  unfold froze
  unfold stB at h ⊢
  simp [h, fz]
theorem froze_len (H : List (Option ABlk)) : (froze H.toArray).size = H.length := by simp [froze]

section
variable {L : List (List UInt8)} {k : Nat}
theorem bgQ (hL : ∀ x ∈ L, x.length < 4294967280) (hk : k < 4611686018427387904) {H : List (Option ABlk)} (h1 : H[1]? = some (psK L.length (k : Nat))) (h2 : H[2]? = some (stB L true)) (f : List UInt8) {c : Bool} (hc : beginP L k f = c) : (obBg H f c).ok Tryd.prog := by
  subst hc
  exact begins_at (psAtF h1 h2) hL (by omega)
theorem tkQN (hL : ∀ x ∈ L, x.length < 4294967280) (hk : k < 4611686018427387904) {H : List (Option ABlk)} (h1 : H[1]? = some (psK L.length (k : Nat))) (h2 : H[2]? = some (stB L true)) {f : List UInt8} {m : Int} (ht : takeP L k f m = none) : (obTkN H f m).ok Tryd.prog := by
  have := take_none (psAtF h1 h2) hL (by omega) ht
  show Runs _ _ _ _ _ (_ ++ #[])
  rw [Array.append_empty]
  exact this
theorem tkQS (hL : ∀ x ∈ L, x.length < 4294967280) (hk : k < 4611686018427387904) {H : List (Option ABlk)} (h1 : H[1]? = some (psK L.length (k : Nat))) (h2 : H[2]? = some (stB L true)) {f : List UInt8} {m : Int} {ws : List (List UInt8)} (ht : takeP L k f m = some ws) {b n : Nat} (hb : H.length = b) (hn : ws.length = n) : (obTkS H f m b n ws).ok Tryd.prog := by
  have := take_some (psAtF h1 h2) (froze_all _) hL (by omega) ht
  rw [froze_len, hb, hn] at this
  exact this
theorem nmIN {H : List (Option ABlk)} {b n : Nat} {w0 : List UInt8} {ws : List (List UInt8)} (hb : H[b]? = some (stB (w0 :: ws) true)) (hw : ∀ w ∈ ws, w.length < 4294967281) (hl : ws.length < 16777216) (h1 : 1 ≤ ws.length) (hn : ws.length = n) (ha : allP digP ws = none) : (obNmN nuI fnI H b n).ok Tryd.prog := by
  have := numsI_none (frozeAt hb) (fun x hx => digits_runs x (hw x hx) #[]) hl h1 ha
  rw [hn] at this
  show Runs _ _ _ _ _ (_ ++ #[])
  rw [Array.append_empty]
  exact this
theorem nmFN {H : List (Option ABlk)} {b n : Nat} {w0 : List UInt8} {ws : List (List UInt8)} (hb : H[b]? = some (stB (w0 :: ws) true)) (hw : ∀ w ∈ ws, w.length < 4294967281) (hl : ws.length < 16777216) (h1 : 1 ≤ ws.length) (hn : ws.length = n) (ha : allP fltP ws = none) : (obNmN nuF fnF H b n).ok Tryd.prog := by
  have := numsF_none (frozeAt hb) (fun x hx => float_q x (hw x hx)) hl h1 ha
  rw [hn] at this
  show Runs _ _ _ _ _ (_ ++ #[])
  rw [Array.append_empty]
  exact this
theorem nmIS {H : List (Option ABlk)} {b n c : Nat} {w0 : List UInt8} {ws : List (List UInt8)} (hb : H[b]? = some (stB (w0 :: ws) true)) (hw : ∀ w ∈ ws, w.length < 4294967281) (hl : ws.length < 16777216) (h1 : 1 ≤ ws.length) (hn : ws.length = n) (hc : H.length = c) {l : List Int} (ha : allP digP ws = some l) : (obNmS nuI fnI H b n c (oB_I l)).ok Tryd.prog := by
  have := numsI_some (frozeAt hb) (froze_all _) (fun x hx => digits_runs x (hw x hx) #[]) hl h1 ha
  rw [froze_len, hn, hc] at this
  exact this
theorem nmFS {H : List (Option ABlk)} {b n c : Nat} {w0 : List UInt8} {ws : List (List UInt8)} (hb : H[b]? = some (stB (w0 :: ws) true)) (hw : ∀ w ∈ ws, w.length < 4294967281) (hl : ws.length < 16777216) (h1 : 1 ≤ ws.length) (hn : ws.length = n) (hc : H.length = c) {l : List Nat} (ha : allP fltP ws = some l) : (obNmS nuF fnF H b n c (oB_F l)).ok Tryd.prog := by
  have := numsF_some (frozeAt hb) (froze_all _) (fun x hx => float_q x (hw x hx)) hl h1 ha
  rw [froze_len, hn, hc] at this
  exact this
end
theorem apO {H : List (Option ABlk)} {bx : Nat} {acc : List OpD} {o : OpD} (h3 : H[3]? = some (opsB acc)) (hx : H[bx]? = some (opT o)) (hlim : acc.length + 1 ≤ 16777216) {H2 : List (Option ABlk)} (h2 : H2 = H.set 3 none ++ [opsB (acc ++ [o])]) (b : Nat) (hb : H.length = b) (hbx : bx ≠ 3) :
    (obAp 26 H (opsV acc) (oS bx 1) (oS b (acc.length + 1)) H2).ok Tryd.prog := by
  subst h2 hb
  show appendV Tryd.prog H.toArray 26 26 (opsV acc) (oS bx 1) = some (oS H.length (acc.length + 1), (H.set 3 none ++ [opsB (acc ++ [o])]).toArray)
  have hx' : H[bx]? = some (some ⟨(opC o).toArray, 41, 4, true⟩) := hx
  have hx2 : H.toArray[bx]? = some (some ⟨(opC o).toArray, 41, 4, true⟩) := by simpa using hx'
  rw [opsB_snoc]
  cases acc with
  | nil =>
    have := app_nil (P := Tryd.prog) (f := opC) (n := 4) (fun _ => rfl) growO (H := H.toArray) (bx := bx) (c' := 1) (a := o) hx2 rfl (by rfl)
    have e : H.set 3 none = H := by
      have h3' : H[3]? = some none := h3
      obtain ⟨hl, h4⟩ := List.getElem?_eq_some_iff.1 h3'
      rw [← h4, List.set_getElem_self]
    rw [e]
    simp only [List.push_toArray, List.size_toArray] at this
    have e2 : ([] ++ [o]).flatMap opC = opC o := by simp
    rw [e2]
    exact this
  | cons a l =>
    have h3' : H.toArray[3]? = some (some ⟨((a :: l).flatMap opC).toArray, 41, 4, true⟩) := by simpa [opsB] using h3
    have := app_at (P := Tryd.prog) (f := opC) (n := 4) (fun _ => rfl) growO (H := H.toArray) (br := 3) (bx := bx) (k := (a :: l).length) (c := (a :: l).length) (c' := 1) (l := a :: l) (a := o) h3' rfl rfl rfl rfl rfl hx2 rfl (by rfl) hlim
    simp only [List.push_toArray, List.size_toArray, List.setIfInBounds_toArray] at this
    exact this

theorem entO (s : List UInt8) (N : Int) (acc : List OpD) (o : OpD) (L : List (List UInt8)) (k : Nat) :
    EntOK 0 [0, 2, 6] [0, 1, 2, 10] (206, [stL s, p0, pt 1], [some (outB N (oS 10 (acc.length + 1)) nlS nlS), some (psK L.length (k : Nat)), some (stB L true), some (opsB (acc ++ [o]))]) (tmA 206 (L1 s)) (memO N (acc ++ [o]) L k).toArray := by
  unfold memO H1
  rw [opsV_snoc, opsB_snoc]
  refine entOK rfl (by simp) (by simp) ?_ ?_
  · exact .cons (.clos rfl) (.cons (.ptr 0 0 0 none (show (0 : Nat) < 4 by decide) rfl) (.cons (.ptr 1 1 0 none (show (1 : Nat) < 4 by decide) rfl) .nil))
  · refine .some ?_ (.some ?_ (.some (.plain (st_clos L)) (.some (.plain (opC_clos _)) .nil)))
    · exact RelK.list (l2 := [.int .i64 N, oS 3 (acc.length + 1), nlS, nlS, nlS, .int .i64 0, .int .i64 0, .int .i64 0, .float .f64 0, .float .f64 0, .float .f64 0, .int .i64 0, nlS])
        (l1 := [.int .i64 N, oS 10 (acc.length + 1), nlS, nlS, nlS, .int .i64 0, .int .i64 0, .int .i64 0, .float .f64 0, .float .f64 0, .float .f64 0, .int .i64 0, nlS])
        (.cons (.clos rfl) (.cons (.slice 3 10 0 none _ _ _ (show (3 : Nat) < 4 by decide) rfl) (.cons (.clos rfl) (.cons (.clos rfl) (.cons (.clos rfl) (.cons (.clos rfl) (.cons (.clos rfl) (.cons (.clos rfl) (.cons (.clos rfl) (.cons (.clos rfl) (.cons (.clos rfl) (.cons (.clos rfl) (.cons (.clos rfl) .nil)))))))))))))
    · exact RelK.list (l2 := [oS 2 L.length, .int .i64 (k : Nat)]) (l1 := [oS 2 L.length, .int .i64 (k : Nat)]) (.cons (.slice 2 2 0 none _ _ _ (show (2 : Nat) < 4 by decide) rfl) (.cons (.clos rfl) .nil))
theorem entOe (s : List UInt8) (N : Int) (acc : List OpD) (L : List (List UInt8)) (k : Nat) :
    EntOK 0 [0, 2, 6] [0, 1, 2, 3] (206, [stL s, p0, pt 1], [some (outB N (opsV acc) nlS nlS), some (psK L.length (k : Nat)), some (stB L true), some (opsB acc)]) (tmA 206 (L1 s)) (memO N acc L k).toArray := by
  unfold memO H1
  refine entOK rfl (by simp) (by simp) ?_ ?_
  · exact .cons (.clos rfl) (.cons (.ptr 0 0 0 none (show (0 : Nat) < 4 by decide) rfl) (.cons (.ptr 1 1 0 none (show (1 : Nat) < 4 by decide) rfl) .nil))
  · have ov : RelA 4 (fun b => [0, 1, 2, 3].getD b 0) (opsV acc) (opsV acc) := by
      cases acc with
      | nil => exact .clos rfl
      | cons a l => exact .slice 3 3 0 none _ _ _ (by decide) rfl
    refine .some ?_ (.some ?_ (.some (.plain (st_clos L)) ?_))
    · exact RelK.list (l2 := [.int .i64 N, opsV acc, nlS, nlS, nlS, .int .i64 0, .int .i64 0, .int .i64 0, .float .f64 0, .float .f64 0, .float .f64 0, .int .i64 0, nlS])
        (l1 := [.int .i64 N, opsV acc, nlS, nlS, nlS, .int .i64 0, .int .i64 0, .int .i64 0, .float .f64 0, .float .f64 0, .float .f64 0, .int .i64 0, nlS])
        (.cons (.clos rfl) (.cons ov (.cons (.clos rfl) (.cons (.clos rfl) (.cons (.clos rfl) (.cons (.clos rfl) (.cons (.clos rfl) (.cons (.clos rfl) (.cons (.clos rfl) (.cons (.clos rfl) (.cons (.clos rfl) (.cons (.clos rfl) (.cons (.clos rfl) .nil)))))))))))))
    · exact RelK.list (l2 := [oS 2 L.length, .int .i64 (k : Nat)]) (l1 := [oS 2 L.length, .int .i64 (k : Nat)]) (.cons (.slice 2 2 0 none _ _ _ (show (2 : Nat) < 4 by decide) rfl) (.cons (.clos rfl) .nil))
    · cases acc with
      | nil => exact .none _ .nil
      | cons a l => exact .some (.plain (opC_clos _)) .nil

section
variable {s : List UInt8} {N : Int} {acc : List OpD} {L : List (List UInt8)} {k : Nat}
/-- What a round comes to. -/
def RdO (s : List UInt8) (N : Int) (acc : List OpD) (L : List (List UInt8)) (k : Nat) : Option OpD → Prop
  | some o => CodeB Tryd.prog 0 bodyL1 (tmA 206 (L1 s)) (memO N acc L k).toArray (.normal, tmA 206 (L1 s), (memO N (acc ++ [o]) L (k + 1)).toArray)
  | none => CodeB Tryd.prog 0 bodyL1 (tmA 206 (L1 s)) (memO N acc L k).toArray (.goto 0, tmA 206 LX, memX k)
theorem rdO_0 (hL : ∀ x ∈ L, x.length < 4294967280) (hk : k < 4611686018427387904) (hlim : acc.length + 1 ≤ 16777216) (hout : beginP L k wOut = false)  (hj : beginP L k (wd 0) = true) : RdO s N acc L k (opAt L k 0) := by
  cases ht : takeP L k (wd 0) 1 with
  | none =>
    have e : opAt L k 0 = none := by simp only [opAt, ht]
    rw [e]
    exact rndT_to (l1_t0 s [] N (opsV acc) L.length (k : Nat) (stB L true) (opsB acc)) okL1 ⟨bgQ hL hk rfl rfl _ hout, bgQ hL hk rfl rfl _ hj, tkQN hL hk rfl rfl ht, trivial⟩ (entX _ _ _ _ _ _)
  | some ws =>
    obtain ⟨w1, w2⟩ := takeP_mem ht hL
    have wl : ws.length = 1 := by have := takeP_len ht (by decide); omega
    cases ha : allP fltP ws with
    | none =>
      have e : opAt L k 0 = none := by simp only [opAt, ht, ha]
      rw [e]
      exact rndT_to (l1_n0 s ws N (opsV acc) L.length (k : Nat) (stB L true) (opsB acc)) okL1 ⟨bgQ hL hk rfl rfl _ hout, bgQ hL hk rfl rfl _ hj, tkQS hL hk rfl rfl ht rfl wl, nmFN (w0 := wd 0) rfl w2 (by omega) w1 wl ha, trivial⟩ (entX _ _ _ _ _ _)
    | some l =>
      have e : opAt L k 0 = some ⟨0, 0, 0, l.getD 0 0⟩ := by simp only [opAt, ht, ha]
      have ll := allP_len ha
      rw [wl] at ll
      rw [e]
      obtain ⟨x, rfl⟩ : ∃ x, l = [x] := by
        match l, ll with
        | [x], _ => exact ⟨x, rfl⟩
      have en := entO s N acc ⟨0, 0, 0, x⟩ L (k + 1)
      rw [← inc_nat hk] at en
      exact rndT_to (l1_ok0 s ws N (opsV acc) L.length acc.length (k : Nat) (stB L true) (opsB acc) (opsB (acc ++ [⟨0, 0, 0, x⟩])) 0 0 x) okL1
        ⟨bgQ hL hk rfl rfl _ hout, bgQ hL hk rfl rfl _ hj, tkQS hL hk rfl rfl ht rfl wl, nmFS (w0 := wd 0) rfl w2 (by omega) w1 wl rfl ha, apO (acc := acc) rfl rfl hlim rfl _ rfl (by decide), trivial⟩ en
theorem rdO_1 (hL : ∀ x ∈ L, x.length < 4294967280) (hk : k < 4611686018427387904) (hlim : acc.length + 1 ≤ 16777216) (hout : beginP L k wOut = false) (h0 : beginP L k (wd 0) = false) (hj : beginP L k (wd 1) = true) : RdO s N acc L k (opAt L k 1) := by
  cases ht : takeP L k (wd 1) 1 with
  | none =>
    have e : opAt L k 1 = none := by simp only [opAt, ht]
    rw [e]
    exact rndT_to (l1_t1 s [] N (opsV acc) L.length (k : Nat) (stB L true) (opsB acc)) okL1 ⟨bgQ hL hk rfl rfl _ hout, bgQ hL hk rfl rfl _ h0, addN 0 (by decide), bgQ hL hk rfl rfl _ hj, tkQN hL hk rfl rfl ht, trivial⟩ (entX _ _ _ _ _ _)
  | some ws =>
    obtain ⟨w1, w2⟩ := takeP_mem ht hL
    have wl : ws.length = 1 := by have := takeP_len ht (by decide); omega
    cases ha : allP digP ws with
    | none =>
      have e : opAt L k 1 = none := by simp only [opAt, ht, ha]
      rw [e]
      exact rndT_to (l1_n1 s ws N (opsV acc) L.length (k : Nat) (stB L true) (opsB acc)) okL1 ⟨bgQ hL hk rfl rfl _ hout, bgQ hL hk rfl rfl _ h0, addN 0 (by decide), bgQ hL hk rfl rfl _ hj, tkQS hL hk rfl rfl ht rfl wl, nmIN (w0 := wd 1) rfl w2 (by omega) w1 wl ha, trivial⟩ (entX _ _ _ _ _ _)
    | some l =>
      have e : opAt L k 1 = some ⟨1, l.getD 0 0, 0, 0⟩ := by simp only [opAt, ht, ha]
      have ll := allP_len ha
      rw [wl] at ll
      rw [e]
      obtain ⟨x, rfl⟩ : ∃ x, l = [x] := by
        match l, ll with
        | [x], _ => exact ⟨x, rfl⟩
      have en := entO s N acc ⟨1, x, 0, 0⟩ L (k + 1)
      rw [← inc_nat hk] at en
      exact rndT_to (l1_ok1 s ws N (opsV acc) L.length acc.length (k : Nat) (stB L true) (opsB acc) (opsB (acc ++ [⟨1, x, 0, 0⟩])) x 0 0) okL1
        ⟨bgQ hL hk rfl rfl _ hout, bgQ hL hk rfl rfl _ h0, addN 0 (by decide), bgQ hL hk rfl rfl _ hj, tkQS hL hk rfl rfl ht rfl wl, nmIS (w0 := wd 1) rfl w2 (by omega) w1 wl rfl ha, apO (acc := acc) rfl rfl hlim rfl _ rfl (by decide), trivial⟩ en
theorem rdO_2 (hL : ∀ x ∈ L, x.length < 4294967280) (hk : k < 4611686018427387904) (hlim : acc.length + 1 ≤ 16777216) (hout : beginP L k wOut = false) (h0 : beginP L k (wd 0) = false) (h1 : beginP L k (wd 1) = false) (hj : beginP L k (wd 2) = true) : RdO s N acc L k (opAt L k 2) := by
  cases ht : takeP L k (wd 2) 2 with
  | none =>
    have e : opAt L k 2 = none := by simp only [opAt, ht]
    rw [e]
    exact rndT_to (l1_t2 s [] N (opsV acc) L.length (k : Nat) (stB L true) (opsB acc)) okL1 ⟨bgQ hL hk rfl rfl _ hout, bgQ hL hk rfl rfl _ h0, addN 0 (by decide), bgQ hL hk rfl rfl _ h1, addN 1 (by decide), bgQ hL hk rfl rfl _ hj, tkQN hL hk rfl rfl ht, trivial⟩ (entX _ _ _ _ _ _)
  | some ws =>
    obtain ⟨w1, w2⟩ := takeP_mem ht hL
    have wl : ws.length = 2 := by have := takeP_len ht (by decide); omega
    cases ha : allP digP ws with
    | none =>
      have e : opAt L k 2 = none := by simp only [opAt, ht, ha]
      rw [e]
      exact rndT_to (l1_n2 s ws N (opsV acc) L.length (k : Nat) (stB L true) (opsB acc)) okL1 ⟨bgQ hL hk rfl rfl _ hout, bgQ hL hk rfl rfl _ h0, addN 0 (by decide), bgQ hL hk rfl rfl _ h1, addN 1 (by decide), bgQ hL hk rfl rfl _ hj, tkQS hL hk rfl rfl ht rfl wl, nmIN (w0 := wd 2) rfl w2 (by omega) w1 wl ha, trivial⟩ (entX _ _ _ _ _ _)
    | some l =>
      have e : opAt L k 2 = some ⟨2, l.getD 0 0, l.getD 1 0, 0⟩ := by simp only [opAt, ht, ha]; rfl
      have ll := allP_len ha
      rw [wl] at ll
      rw [e]
      obtain ⟨x, y, rfl⟩ : ∃ x y, l = [x, y] := by
        match l, ll with
        | [x, y], _ => exact ⟨x, y, rfl⟩
      have en := entO s N acc ⟨2, x, y, 0⟩ L (k + 1)
      rw [← inc_nat hk] at en
      exact rndT_to (l1_ok2 s ws N (opsV acc) L.length acc.length (k : Nat) (stB L true) (opsB acc) (opsB (acc ++ [⟨2, x, y, 0⟩])) x y 0) okL1
        ⟨bgQ hL hk rfl rfl _ hout, bgQ hL hk rfl rfl _ h0, addN 0 (by decide), bgQ hL hk rfl rfl _ h1, addN 1 (by decide), bgQ hL hk rfl rfl _ hj, tkQS hL hk rfl rfl ht rfl wl, nmIS (w0 := wd 2) rfl w2 (by omega) w1 wl rfl ha, apO (acc := acc) rfl rfl hlim rfl _ rfl (by decide), trivial⟩ en
theorem rdO_3 (hL : ∀ x ∈ L, x.length < 4294967280) (hk : k < 4611686018427387904) (hlim : acc.length + 1 ≤ 16777216) (hout : beginP L k wOut = false) (h0 : beginP L k (wd 0) = false) (h1 : beginP L k (wd 1) = false) (h2 : beginP L k (wd 2) = false) (hj : beginP L k (wd 3) = true) : RdO s N acc L k (opAt L k 3) := by
  cases ht : takeP L k (wd 3) 2 with
  | none =>
    have e : opAt L k 3 = none := by simp only [opAt, ht]
    rw [e]
    exact rndT_to (l1_t3 s [] N (opsV acc) L.length (k : Nat) (stB L true) (opsB acc)) okL1 ⟨bgQ hL hk rfl rfl _ hout, bgQ hL hk rfl rfl _ h0, addN 0 (by decide), bgQ hL hk rfl rfl _ h1, addN 1 (by decide), bgQ hL hk rfl rfl _ h2, addN 2 (by decide), bgQ hL hk rfl rfl _ hj, tkQN hL hk rfl rfl ht, trivial⟩ (entX _ _ _ _ _ _)
  | some ws =>
    obtain ⟨w1, w2⟩ := takeP_mem ht hL
    have wl : ws.length = 2 := by have := takeP_len ht (by decide); omega
    cases ha : allP digP ws with
    | none =>
      have e : opAt L k 3 = none := by simp only [opAt, ht, ha]
      rw [e]
      exact rndT_to (l1_n3 s ws N (opsV acc) L.length (k : Nat) (stB L true) (opsB acc)) okL1 ⟨bgQ hL hk rfl rfl _ hout, bgQ hL hk rfl rfl _ h0, addN 0 (by decide), bgQ hL hk rfl rfl _ h1, addN 1 (by decide), bgQ hL hk rfl rfl _ h2, addN 2 (by decide), bgQ hL hk rfl rfl _ hj, tkQS hL hk rfl rfl ht rfl wl, nmIN (w0 := wd 3) rfl w2 (by omega) w1 wl ha, trivial⟩ (entX _ _ _ _ _ _)
    | some l =>
      have e : opAt L k 3 = some ⟨3, l.getD 0 0, l.getD 1 0, 0⟩ := by simp only [opAt, ht, ha]; rfl
      have ll := allP_len ha
      rw [wl] at ll
      rw [e]
      obtain ⟨x, y, rfl⟩ : ∃ x y, l = [x, y] := by
        match l, ll with
        | [x, y], _ => exact ⟨x, y, rfl⟩
      have en := entO s N acc ⟨3, x, y, 0⟩ L (k + 1)
      rw [← inc_nat hk] at en
      exact rndT_to (l1_ok3 s ws N (opsV acc) L.length acc.length (k : Nat) (stB L true) (opsB acc) (opsB (acc ++ [⟨3, x, y, 0⟩])) x y 0) okL1
        ⟨bgQ hL hk rfl rfl _ hout, bgQ hL hk rfl rfl _ h0, addN 0 (by decide), bgQ hL hk rfl rfl _ h1, addN 1 (by decide), bgQ hL hk rfl rfl _ h2, addN 2 (by decide), bgQ hL hk rfl rfl _ hj, tkQS hL hk rfl rfl ht rfl wl, nmIS (w0 := wd 3) rfl w2 (by omega) w1 wl rfl ha, apO (acc := acc) rfl rfl hlim rfl _ rfl (by decide), trivial⟩ en
theorem rdO_4 (hL : ∀ x ∈ L, x.length < 4294967280) (hk : k < 4611686018427387904) (hlim : acc.length + 1 ≤ 16777216) (hout : beginP L k wOut = false) (h0 : beginP L k (wd 0) = false) (h1 : beginP L k (wd 1) = false) (h2 : beginP L k (wd 2) = false) (h3 : beginP L k (wd 3) = false) (hj : beginP L k (wd 4) = true) : RdO s N acc L k (opAt L k 4) := by
  cases ht : takeP L k (wd 4) 2 with
  | none =>
    have e : opAt L k 4 = none := by simp only [opAt, ht]
    rw [e]
    exact rndT_to (l1_t4 s [] N (opsV acc) L.length (k : Nat) (stB L true) (opsB acc)) okL1 ⟨bgQ hL hk rfl rfl _ hout, bgQ hL hk rfl rfl _ h0, addN 0 (by decide), bgQ hL hk rfl rfl _ h1, addN 1 (by decide), bgQ hL hk rfl rfl _ h2, addN 2 (by decide), bgQ hL hk rfl rfl _ h3, addN 3 (by decide), bgQ hL hk rfl rfl _ hj, tkQN hL hk rfl rfl ht, trivial⟩ (entX _ _ _ _ _ _)
  | some ws =>
    obtain ⟨w1, w2⟩ := takeP_mem ht hL
    have wl : ws.length = 2 := by have := takeP_len ht (by decide); omega
    cases ha : allP digP ws with
    | none =>
      have e : opAt L k 4 = none := by simp only [opAt, ht, ha]
      rw [e]
      exact rndT_to (l1_n4 s ws N (opsV acc) L.length (k : Nat) (stB L true) (opsB acc)) okL1 ⟨bgQ hL hk rfl rfl _ hout, bgQ hL hk rfl rfl _ h0, addN 0 (by decide), bgQ hL hk rfl rfl _ h1, addN 1 (by decide), bgQ hL hk rfl rfl _ h2, addN 2 (by decide), bgQ hL hk rfl rfl _ h3, addN 3 (by decide), bgQ hL hk rfl rfl _ hj, tkQS hL hk rfl rfl ht rfl wl, nmIN (w0 := wd 4) rfl w2 (by omega) w1 wl ha, trivial⟩ (entX _ _ _ _ _ _)
    | some l =>
      have e : opAt L k 4 = some ⟨4, l.getD 0 0, l.getD 1 0, 0⟩ := by simp only [opAt, ht, ha]; rfl
      have ll := allP_len ha
      rw [wl] at ll
      rw [e]
      obtain ⟨x, y, rfl⟩ : ∃ x y, l = [x, y] := by
        match l, ll with
        | [x, y], _ => exact ⟨x, y, rfl⟩
      have en := entO s N acc ⟨4, x, y, 0⟩ L (k + 1)
      rw [← inc_nat hk] at en
      exact rndT_to (l1_ok4 s ws N (opsV acc) L.length acc.length (k : Nat) (stB L true) (opsB acc) (opsB (acc ++ [⟨4, x, y, 0⟩])) x y 0) okL1
        ⟨bgQ hL hk rfl rfl _ hout, bgQ hL hk rfl rfl _ h0, addN 0 (by decide), bgQ hL hk rfl rfl _ h1, addN 1 (by decide), bgQ hL hk rfl rfl _ h2, addN 2 (by decide), bgQ hL hk rfl rfl _ h3, addN 3 (by decide), bgQ hL hk rfl rfl _ hj, tkQS hL hk rfl rfl ht rfl wl, nmIS (w0 := wd 4) rfl w2 (by omega) w1 wl rfl ha, apO (acc := acc) rfl rfl hlim rfl _ rfl (by decide), trivial⟩ en
theorem rdO_5 (hL : ∀ x ∈ L, x.length < 4294967280) (hk : k < 4611686018427387904) (hlim : acc.length + 1 ≤ 16777216) (hout : beginP L k wOut = false) (h0 : beginP L k (wd 0) = false) (h1 : beginP L k (wd 1) = false) (h2 : beginP L k (wd 2) = false) (h3 : beginP L k (wd 3) = false) (h4 : beginP L k (wd 4) = false) (hj : beginP L k (wd 5) = true) : RdO s N acc L k (opAt L k 5) := by
  cases ht : takeP L k (wd 5) 2 with
  | none =>
    have e : opAt L k 5 = none := by simp only [opAt, ht]
    rw [e]
    exact rndT_to (l1_t5 s [] N (opsV acc) L.length (k : Nat) (stB L true) (opsB acc)) okL1 ⟨bgQ hL hk rfl rfl _ hout, bgQ hL hk rfl rfl _ h0, addN 0 (by decide), bgQ hL hk rfl rfl _ h1, addN 1 (by decide), bgQ hL hk rfl rfl _ h2, addN 2 (by decide), bgQ hL hk rfl rfl _ h3, addN 3 (by decide), bgQ hL hk rfl rfl _ h4, addN 4 (by decide), bgQ hL hk rfl rfl _ hj, tkQN hL hk rfl rfl ht, trivial⟩ (entX _ _ _ _ _ _)
  | some ws =>
    obtain ⟨w1, w2⟩ := takeP_mem ht hL
    have wl : ws.length = 2 := by have := takeP_len ht (by decide); omega
    cases ha : allP digP ws with
    | none =>
      have e : opAt L k 5 = none := by simp only [opAt, ht, ha]
      rw [e]
      exact rndT_to (l1_n5 s ws N (opsV acc) L.length (k : Nat) (stB L true) (opsB acc)) okL1 ⟨bgQ hL hk rfl rfl _ hout, bgQ hL hk rfl rfl _ h0, addN 0 (by decide), bgQ hL hk rfl rfl _ h1, addN 1 (by decide), bgQ hL hk rfl rfl _ h2, addN 2 (by decide), bgQ hL hk rfl rfl _ h3, addN 3 (by decide), bgQ hL hk rfl rfl _ h4, addN 4 (by decide), bgQ hL hk rfl rfl _ hj, tkQS hL hk rfl rfl ht rfl wl, nmIN (w0 := wd 5) rfl w2 (by omega) w1 wl ha, trivial⟩ (entX _ _ _ _ _ _)
    | some l =>
      have e : opAt L k 5 = some ⟨5, l.getD 0 0, l.getD 1 0, 0⟩ := by simp only [opAt, ht, ha]; rfl
      have ll := allP_len ha
      rw [wl] at ll
      rw [e]
      obtain ⟨x, y, rfl⟩ : ∃ x y, l = [x, y] := by
        match l, ll with
        | [x, y], _ => exact ⟨x, y, rfl⟩
      have en := entO s N acc ⟨5, x, y, 0⟩ L (k + 1)
      rw [← inc_nat hk] at en
      exact rndT_to (l1_ok5 s ws N (opsV acc) L.length acc.length (k : Nat) (stB L true) (opsB acc) (opsB (acc ++ [⟨5, x, y, 0⟩])) x y 0) okL1
        ⟨bgQ hL hk rfl rfl _ hout, bgQ hL hk rfl rfl _ h0, addN 0 (by decide), bgQ hL hk rfl rfl _ h1, addN 1 (by decide), bgQ hL hk rfl rfl _ h2, addN 2 (by decide), bgQ hL hk rfl rfl _ h3, addN 3 (by decide), bgQ hL hk rfl rfl _ h4, addN 4 (by decide), bgQ hL hk rfl rfl _ hj, tkQS hL hk rfl rfl ht rfl wl, nmIS (w0 := wd 5) rfl w2 (by omega) w1 wl rfl ha, apO (acc := acc) rfl rfl hlim rfl _ rfl (by decide), trivial⟩ en
theorem rdO_x (hL : ∀ x ∈ L, x.length < 4294967280) (hk : k < 4611686018427387904) (hout : beginP L k wOut = false) (h0 : beginP L k (wd 0) = false) (h1 : beginP L k (wd 1) = false) (h2 : beginP L k (wd 2) = false) (h3 : beginP L k (wd 3) = false) (h4 : beginP L k (wd 4) = false) (h5 : beginP L k (wd 5) = false) : RdO s N acc L k none :=
  rndT_to (l1_x s N (opsV acc) L.length (k : Nat) (stB L true) (opsB acc)) okL1 ⟨bgQ hL hk rfl rfl _ hout, bgQ hL hk rfl rfl _ h0, addN 0 (by decide), bgQ hL hk rfl rfl _ h1, addN 1 (by decide), bgQ hL hk rfl rfl _ h2, addN 2 (by decide), bgQ hL hk rfl rfl _ h3, addN 3 (by decide), bgQ hL hk rfl rfl _ h4, addN 4 (by decide), bgQ hL hk rfl rfl _ h5, addN 5 (by decide), trivial⟩ (entX _ _ _ _ _ _)
theorem rdO (hL : ∀ x ∈ L, x.length < 4294967280) (hk : k < 4611686018427387904) (hlim : acc.length + 1 ≤ 16777216) (hout : beginP L k wOut = false) : RdO s N acc L k (opP L k) := by
  have hr : List.range 6 = [0, 1, 2, 3, 4, 5] := by decide
  unfold opP
  rw [hr]
  rw [List.find?_cons]
  cases h0 : beginP L k (wd 0) with
  | true => exact rdO_0 hL hk hlim hout  h0
  | false =>
  simp only
  rw [List.find?_cons]
  cases h1 : beginP L k (wd 1) with
  | true => exact rdO_1 hL hk hlim hout h0 h1
  | false =>
  simp only
  rw [List.find?_cons]
  cases h2 : beginP L k (wd 2) with
  | true => exact rdO_2 hL hk hlim hout h0 h1 h2
  | false =>
  simp only
  rw [List.find?_cons]
  cases h3 : beginP L k (wd 3) with
  | true => exact rdO_3 hL hk hlim hout h0 h1 h2 h3
  | false =>
  simp only
  rw [List.find?_cons]
  cases h4 : beginP L k (wd 4) with
  | true => exact rdO_4 hL hk hlim hout h0 h1 h2 h3 h4
  | false =>
  simp only
  rw [List.find?_cons]
  cases h5 : beginP L k (wd 5) with
  | true => exact rdO_5 hL hk hlim hout h0 h1 h2 h3 h4 h5
  | false =>
  simp only
  rw [List.find?_nil]
  exact rdO_x hL hk hout h0 h1 h2 h3 h4 h5
/-- Where the operations end. -/
theorem ops_rds (hL : ∀ x ∈ L, x.length < 4294967280) (hn : L.length < 16777000) : ∀ (d k : Nat) (acc : List OpD), L.length < d + k → k ≤ L.length → acc.length ≤ k →
    match opsP L d k acc with
    | (true, acc', k') => RdsB Tryd.prog 0 bodyL1 (tmA 206 (L1 s)) (memO N acc L k).toArray (.exit 2, tmA 206 (L1 s), (memO N acc' L k').toArray)
    | (false, _, k') => RdsB Tryd.prog 0 bodyL1 (tmA 206 (L1 s)) (memO N acc L k).toArray (.goto 0, tmA 206 LX, memX k')
  | 0, k, acc, h1, h2, h3 => by omega
  | d + 1, k, acc, h1, h2, h3 => by
    rw [opsP]
    cases hb : beginP L k wOut with
    | true =>
      simp only [if_true]
      exact .last (rndT_to (l1_end s N (opsV acc) L.length (k : Nat) (stB L true) (opsB acc)) okL1 ⟨bgQ hL (by omega) rfl rfl _ hb, trivial⟩ (entOe s N acc L k)) (by simp)
    | false =>
      simp only [Bool.false_eq_true, if_false]
      have hr := rdO (s := s) (N := N) (acc := acc) hL (by omega) (by omega) hb
      cases ho : opP L k with
      | none => rw [ho] at hr; exact .last hr (by simp)
      | some o =>
        rw [ho] at hr
        simp only
        have hkl : k < L.length := by
          rcases Nat.lt_or_ge k L.length with h | h
          · exact h
          · exfalso
            have hnone : L[k]? = none := List.getElem?_eq_none h
            have hf : ∀ f, beginP L k f = false := fun f => by unfold beginP; rw [hnone]
            unfold opP at ho
            have : (List.range 6).find? (fun j => beginP L k (wd j)) = none := by
              rw [List.find?_eq_none]; intro x _; rw [hf]; simp
            rw [this] at ho
            cases ho
        have ih := ops_rds hL hn d (k + 1) (acc ++ [o]) (by omega) (by omega) (by simp; omega)
        generalize opsP L d (k + 1) (acc ++ [o]) = r at ih ⊢
        obtain ⟨b, a, k'⟩ := r
        cases b with
        | true => exact .next hr ih
        | false => exact .next hr ih
end

end Go.Proofs.YtameamgamdaibaaDoor
