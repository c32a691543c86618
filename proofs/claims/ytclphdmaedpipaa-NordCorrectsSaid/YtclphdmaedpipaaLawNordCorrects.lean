/- The law NordCorrects returns true, whatever the numbers. -/
import Derived.Test.YtclphdmaedpipaaNordScaleQ
import Derived.Test.YtclphdmaedpipaaTpA
import Derived.Test.YtclphdmaedpipaaNordMakeQ1
import Derived.Test.YtclphdmaedpipaaNordMakeQ2
import Derived.Test.YtclphdmaedpipaaNordMakeQ3
import Derived.Test.YtclphdmaedpipaaNordMakeQ4
import Derived.Test.YtclphdmaedpipaaNordNc1
import Derived.Test.YtclphdmaedpipaaNordNc2
import Derived.Test.YtclphdmaedpipaaNordNc3
import Derived.Test.YtclphdmaedpipaaNordNc3k
import Derived.Test.YtclphdmaedpipaaNordNc4
import Derived.Test.YtclphdmaedpipaaNordNc4k
namespace Go.Proofs.Ytclphdmaedpipaa
open Go
set_option linter.unusedVariables false
set_option linter.unusedSimpArgs false
set_option maxRecDepth 100000

/-! words that are whole numbers -/
inductive ColY (B : Nat) : List Nat → List Int → Prop
  | nil : ColY B [] []
  | cons {x : Nat} {n : Int} {l : List Nat} {L : List Int} (h : Dy 0 n x) (hb : n.natAbs ≤ B) (t : ColY B l L) : ColY B (x :: l) (n :: L)
theorem atL_dy {s : Nat} {x : Int} (hs : Dy 0 x s) (hx : x.natAbs ≤ 5) : ∀ {l : List Nat} {L : List Int} {B : Nat}, ColY B l L → l ≠ [] → B * 6 ^ l.length < 9007199254740992 → Dy 0 (atZ x L) (atL s l) ∧ (atZ x L).natAbs ≤ B * 6 ^ l.length
  | _, _, _, .nil, hne, _ => absurd rfl hne
  | _, _, B, .cons (x := a) (n := k) h hb .nil, _, _ => by
    simp only [atL, atZ]
    refine ⟨by simpa using h, ?_⟩
    simp
    omega
  | _, _, B, .cons (x := a) (n := k) (l := _) h hb (.cons (x := b) (n := j) (l := l) (L := L) g gb t), _, hlt => by
    have e : B * 6 ^ (a :: b :: l).length = B * 6 ^ (b :: l).length * 6 := by simp [Nat.pow_succ, Nat.mul_assoc]
    have hp : 0 < 6 ^ (b :: l).length := Nat.pow_pos (by decide)
    have hB : B ≤ B * 6 ^ (b :: l).length := Nat.le_mul_of_pos_right _ hp
    obtain ⟨i1, i2⟩ := atL_dy hs hx (.cons g gb t) (by simp) (by omega)
    have hm : (atZ x (j :: L) * x).natAbs ≤ B * 6 ^ (b :: l).length * 5 := by
      rw [Int.natAbs_mul]
      exact Nat.mul_le_mul i2 hx
    have hs2 : (atZ x (j :: L) * x + k).natAbs ≤ B * 6 ^ (a :: b :: l).length := by omega
    rw [show atZ x (k :: j :: L) = atZ x (j :: L) * x + k from rfl]
    exact ⟨(i1.mul hs (by omega) (by decide)).add h (by omega) (by decide), hs2⟩
theorem colY_map {B : Nat} {f : Nat → Nat} {g : Nat → Int} : ∀ l : List Nat, (∀ j ∈ l, Dy 0 (g j) (f j) ∧ (g j).natAbs ≤ B) → ColY B (l.map f) (l.map g)
  | [], _ => .nil
  | a :: l, h => .cons (h a (List.mem_cons_self ..)).1 (h a (List.mem_cons_self ..)).2 (colY_map l fun j hj => h j (List.mem_cons_of_mem _ hj))
theorem lq_dec : ∀ q, q < 5 → ∀ j, j < 5 → ∀ a : Nat, a < 9 → 1 ≤ q → j ≤ q → fop .mul .f64 (lQ q j) (fop .mul .f64 (F ((a : Int) - 4)) (F (dN q))) = F (((a : Int) - 4) * mU q j) := by decide +kernel
theorem lq_zero : ∀ q, q < 5 → ∀ j, j < 5 → 1 ≤ q → j ≤ q → fop .mul .f64 (lQ q j) 0 = F (0 * mU q j) := by decide +kernel
theorem mu_bd : ∀ q, q < 5 → ∀ j, j < 5 → (mU q j).natAbs ≤ 62500 := by decide +kernel
theorem tJ_eq : ∀ j, j < 4 → tJ j = F (-((j : Int) + 1)) := by decide +kernel
theorem roots_1_0 (z : Nat → Int) (e : Int) : atZ (-((0 : Nat) + 1 : Int)) ((List.range (1 + 1)).map fun i => z i + e * mU 1 i) = atZ (-((0 : Nat) + 1 : Int)) ((List.range (1 + 1)).map z) := by
  show atZ (-1) [z 0 + e * 1, z 1 + e * 1] = atZ (-1) [z 0, z 1]
  simp only [atZ]
  omega
theorem roots_2_0 (z : Nat → Int) (e : Int) : atZ (-((0 : Nat) + 1 : Int)) ((List.range (2 + 1)).map fun i => z i + e * mU 2 i) = atZ (-((0 : Nat) + 1 : Int)) ((List.range (2 + 1)).map z) := by
  show atZ (-1) [z 0 + e * 6, z 1 + e * 9, z 2 + e * 3] = atZ (-1) [z 0, z 1, z 2]
  simp only [atZ]
  omega
theorem roots_2_1 (z : Nat → Int) (e : Int) : atZ (-((1 : Nat) + 1 : Int)) ((List.range (2 + 1)).map fun i => z i + e * mU 2 i) = atZ (-((1 : Nat) + 1 : Int)) ((List.range (2 + 1)).map z) := by
  show atZ (-2) [z 0 + e * 6, z 1 + e * 9, z 2 + e * 3] = atZ (-2) [z 0, z 1, z 2]
  simp only [atZ]
  omega
theorem roots_3_0 (z : Nat → Int) (e : Int) : atZ (-((0 : Nat) + 1 : Int)) ((List.range (3 + 1)).map fun i => z i + e * mU 3 i) = atZ (-((0 : Nat) + 1 : Int)) ((List.range (3 + 1)).map z) := by
  show atZ (-1) [z 0 + e * 726, z 1 + e * 1331, z 2 + e * 726, z 3 + e * 121] = atZ (-1) [z 0, z 1, z 2, z 3]
  simp only [atZ]
  omega
theorem roots_3_1 (z : Nat → Int) (e : Int) : atZ (-((1 : Nat) + 1 : Int)) ((List.range (3 + 1)).map fun i => z i + e * mU 3 i) = atZ (-((1 : Nat) + 1 : Int)) ((List.range (3 + 1)).map z) := by
  show atZ (-2) [z 0 + e * 726, z 1 + e * 1331, z 2 + e * 726, z 3 + e * 121] = atZ (-2) [z 0, z 1, z 2, z 3]
  simp only [atZ]
  omega
theorem roots_3_2 (z : Nat → Int) (e : Int) : atZ (-((2 : Nat) + 1 : Int)) ((List.range (3 + 1)).map fun i => z i + e * mU 3 i) = atZ (-((2 : Nat) + 1 : Int)) ((List.range (3 + 1)).map z) := by
  show atZ (-3) [z 0 + e * 726, z 1 + e * 1331, z 2 + e * 726, z 3 + e * 121] = atZ (-3) [z 0, z 1, z 2, z 3]
  simp only [atZ]
  omega
theorem roots_4_0 (z : Nat → Int) (e : Int) : atZ (-((0 : Nat) + 1 : Int)) ((List.range (4 + 1)).map fun i => z i + e * mU 4 i) = atZ (-((0 : Nat) + 1 : Int)) ((List.range (4 + 1)).map z) := by
  show atZ (-1) [z 0 + e * 30000, z 1 + e * 62500, z 2 + e * 43750, z 3 + e * 12500, z 4 + e * 1250] = atZ (-1) [z 0, z 1, z 2, z 3, z 4]
  simp only [atZ]
  omega
theorem roots_4_1 (z : Nat → Int) (e : Int) : atZ (-((1 : Nat) + 1 : Int)) ((List.range (4 + 1)).map fun i => z i + e * mU 4 i) = atZ (-((1 : Nat) + 1 : Int)) ((List.range (4 + 1)).map z) := by
  show atZ (-2) [z 0 + e * 30000, z 1 + e * 62500, z 2 + e * 43750, z 3 + e * 12500, z 4 + e * 1250] = atZ (-2) [z 0, z 1, z 2, z 3, z 4]
  simp only [atZ]
  omega
theorem roots_4_2 (z : Nat → Int) (e : Int) : atZ (-((2 : Nat) + 1 : Int)) ((List.range (4 + 1)).map fun i => z i + e * mU 4 i) = atZ (-((2 : Nat) + 1 : Int)) ((List.range (4 + 1)).map z) := by
  show atZ (-3) [z 0 + e * 30000, z 1 + e * 62500, z 2 + e * 43750, z 3 + e * 12500, z 4 + e * 1250] = atZ (-3) [z 0, z 1, z 2, z 3, z 4]
  simp only [atZ]
  omega
theorem roots_4_3 (z : Nat → Int) (e : Int) : atZ (-((3 : Nat) + 1 : Int)) ((List.range (4 + 1)).map fun i => z i + e * mU 4 i) = atZ (-((3 : Nat) + 1 : Int)) ((List.range (4 + 1)).map z) := by
  show atZ (-4) [z 0 + e * 30000, z 1 + e * 62500, z 2 + e * 43750, z 3 + e * 12500, z 4 + e * 1250] = atZ (-4) [z 0, z 1, z 2, z 3, z 4]
  simp only [atZ]
  omega
theorem roots {q : Nat} (h1 : 1 ≤ q) (h4 : q ≤ 4) {j : Nat} (hj : j < q) (z : Nat → Int) (e : Int) : atZ (-((j : Int) + 1)) ((List.range (q + 1)).map fun i => z i + e * mU q i) = atZ (-((j : Int) + 1)) ((List.range (q + 1)).map z) := by
  have : (q = 1 ∧ j = 0) ∨ (q = 2 ∧ j = 0) ∨ (q = 2 ∧ j = 1) ∨ (q = 3 ∧ j = 0) ∨ (q = 3 ∧ j = 1) ∨ (q = 3 ∧ j = 2) ∨ (q = 4 ∧ j = 0) ∨ (q = 4 ∧ j = 1) ∨ (q = 4 ∧ j = 2) ∨ (q = 4 ∧ j = 3) := by omega
  rcases this with ⟨rfl, rfl⟩ | ⟨rfl, rfl⟩ | ⟨rfl, rfl⟩ | ⟨rfl, rfl⟩ | ⟨rfl, rfl⟩ | ⟨rfl, rfl⟩ | ⟨rfl, rfl⟩ | ⟨rfl, rfl⟩ | ⟨rfl, rfl⟩ | ⟨rfl, rfl⟩
  · exact roots_1_0 z e
  · exact roots_2_0 z e
  · exact roots_2_1 z e
  · exact roots_3_0 z e
  · exact roots_3_1 z e
  · exact roots_3_2 z e
  · exact roots_4_0 z e
  · exact roots_4_1 z e
  · exact roots_4_2 z e
  · exact roots_4_3 z e
theorem abs_p : (askN noF noC 12 23 #[fW 0] #[] []).map (fun r => (r.1, r.2.2)) = some (fW 0, []) := by kernel_rfl
theorem abs_m : (askN noF noC 12 23 #[fW 9223372036854775808] #[] []).map (fun r => (r.1, r.2.2)) = some (fW 0, []) := by kernel_rfl
theorem abs_none {x : Nat} (h : Dy 0 0 x) : Runs Try.prog 23 #[fW x] #[] (fW 0) #[] := by
  have e := h.eq
  rw [Int.zero_mul] at e
  have hx := h.fi.1
  have e2 : kv x = 0 := by
    rcases Int.mul_eq_zero.1 e with e | e
    · exact e
    · exact absurd e (Int.ne_of_gt (pwi_pos 0))
  have e3 : ix x = 0 := by
    have := rk_inj (show rk (ix x) = rk 0 from e2.trans (by decide))
    exact this
  have : x = 0 ∨ x = 9223372036854775808 := by
    unfold ix at e3
    split at e3 <;> omega
  rcases this with rfl | rfl
  · exact quiet_of' abs_p trivial rfl rfl
  · exact quiet_of' abs_m trivial rfl rfl
theorem gt_0 : (Obl.cmp .gtr 28 (fW 0) (fW 4562254508917369340) false).ok Try.prog := by
  show cmpV Try.prog .gtr 28 (.float .f64 0) (.float .f64 4562254508917369340) = some false
  kernel_rfl

/-! what it asks -/
theorem cvI_ok (c : Int) : (cvI c (F c)).ok Try.prog := by
  show convV Try.prog 3 28 (.int .i64 c) = some (.float .f64 (floatOfInt .f64 c))
  kernel_rfl
theorem suI_ok (w : Int) : (suI w (IntKind.i64.wrap (w - 4))).ok Try.prog := by
  show pureV Try.prog (binOp .sub 3 (.int .i64 w) (.int .i64 4)) = some (.int .i64 (IntKind.i64.wrap (w - 4)))
  kernel_rfl
theorem lsI_ok {i len : Nat} {c : Bool} (h : decide (i < len) = c) : (lsI i len c).ok Try.prog := by
  have e : pureV Try.prog (binOp .lss 3 (.int .i64 (Int.ofNat i)) (.int .i64 (Int.ofNat len))) = some (.bool (decide (Int.ofNat i < Int.ofNat len))) := by kernel_rfl
  show pureV _ _ = some (.bool c)
  have e2 : decide (Int.ofNat i < Int.ofNat len) = decide (i < len) := decide_eq_decide.2 Int.ofNat_lt
  rw [e, e2, h]
theorem handGG {H : AHeap} {zs : List Int} {v : Value} (h : Handed H zs v) (L : List (Option ABlk)) : Handed (froze (G H L)) zs v := by
  rcases h with h | ⟨b, B, h1, h2, h3, h4⟩
  · exact .inl h
  · refine .inr ⟨b, { B with own := false }, h1, h2, ?_, h4⟩
    have hb := (Array.getElem?_eq_some_iff.1 h3).1
    have h3' : H.toList[b]? = some (some B) := by rw [Array.getElem?_toList]; exact h3
    unfold froze G
    rw [List.getElem?_toArray, List.getElem?_map, List.toList_toArray, List.getElem?_append_left (by rw [Array.length_toList]; exact hb), h3']
    rfl
theorem okFlat {P : Program} : ∀ (l : List Nat) (f : Nat → List Obl), (∀ i ∈ l, okAll P (f i)) → okAll P (l.flatMap f)
  | [], _, _ => trivial
  | a :: l, f, h => by
    rw [List.flatMap_cons]
    exact okAll_append (h a (List.mem_cons_self ..)) (okFlat l f fun i hi => h i (List.mem_cons_of_mem _ hi))
noncomputable def okJ : Bool := (match Try.prog.underlying 22 with
  | some (.slice e) => e == 3
  | _ => false) && (match Try.prog.underlying 3 with
  | some (.struct _) | some (.array _ _) | none => false
  | some _ => true) && (match Try.prog.info? 3 with
  | some i => i.size == 1
  | none => false)
theorem okJ_t : okJ = true := by kernel_rfl
theorem okJ_sl : Try.prog.underlying 22 = some (.slice 3) := by
  have h := okJ_t
  unfold okJ at h
  simp only [Bool.and_eq_true] at h
  have h1 := h.1.1
  split at h1
  · rename_i e he; rw [he, eq_of_beq h1]
  · cases h1
theorem okJ_pl : ∃ u, Try.prog.underlying 3 = some u ∧ (∀ fs, u ≠ .struct fs) ∧ ∀ n e, u ≠ .array n e := by
  have h := okJ_t
  unfold okJ at h
  simp only [Bool.and_eq_true] at h
  have h1 := h.1.2
  cases hu : Try.prog.underlying 3 with
  | none => rw [hu] at h1; cases h1
  | some u =>
    rw [hu] at h1
    refine ⟨u, rfl, ?_, ?_⟩
    · rintro fs rfl; cases h1
    · rintro n e rfl; cases h1
theorem okJ_sz : ∃ i, Try.prog.info? 3 = some i ∧ i.size = 1 := by
  have h := okJ_t
  unfold okJ at h
  simp only [Bool.and_eq_true] at h
  have h1 := h.2
  split at h1
  · rename_i i hi; exact ⟨i, hi, eq_of_beq h1⟩
  · cases h1
theorem map_flatJ {α β : Type} (f : α → β) : ∀ l : List α, l.map f = l.flatMap fun x => [f x]
  | [] => rfl
  | a :: l => by rw [List.map_cons, List.flatMap_cons, map_flatJ f l]; rfl
theorem handJ {H : AHeap} {zs : List Int} {v : Value} (h : Handed H zs v) {i : Nat} (hi : i < zs.length) : ∃ p, indexAddrV Try.prog 22 v (.int .i64 (Int.ofNat i)) = some (.pointer (some p)) ∧ ∀ L : List (Option ABlk), readVar Try.prog (G H L) 3 p = some (.int .i64 (zs.getD i 0)) := by
  rcases h with ⟨rfl, rfl⟩ | ⟨b, B, _, rfl, hb, hc⟩
  · simp at hi
  · obtain ⟨i0, g1, g2⟩ := okJ_sz
    refine ⟨⟨b, i, none⟩, ix_slice okJ_sl g1 g2 (by simp) (by simpa using hi) (by simp), fun L => ?_⟩
    refine rd_one (g := fun x => .int .i64 x) okJ_pl (B := B) (l := zs) (k := i) (a := zs.getD i 0) ?_ ?_ ?_ rfl
    · have h3' : H.toList[b]? = some (some B) := by rw [Array.getElem?_toList]; exact hb
      unfold G
      rw [List.getElem?_toArray, List.getElem?_append_left (by rw [Array.length_toList]; exact (Array.getElem?_eq_some_iff.1 hb).1), h3']
    · rw [hc, map_flatJ]
    · rw [List.getD_eq_getElem?_getD, List.getElem?_eq_getElem hi]; rfl
theorem preN_len (q k : Nat) (X : Nat → Nat → Nat) : (preN q k X).length + 2 = cfP q := by
  unfold preN cfP cfN
  rw [List.length_append, List.length_append, List.length_cons, rowsX_len]
  omega
theorem inL_cor {Q : List (Option ABlk)} {d : Option ABlk} {q k p : Nat} {C : Nat → Nat → Nat} (h : Q.length + 2 = p) : InL (Q ++ (d :: corB q k p C)) 2 (p + 1) (p + 2) q k C := by
  subst h
  refine ⟨fun j hj => ?_, ?_⟩
  · rw [List.getElem?_append_right (by omega), show Q.length + 2 + 2 + j - Q.length = j + 1 + 1 + 1 + 1 by omega]
    unfold corB
    rw [List.getElem?_cons_succ, List.cons_append, List.cons_append, List.cons_append, List.nil_append, List.getElem?_cons_succ, List.getElem?_cons_succ, List.getElem?_cons_succ, List.getElem?_map, List.getElem?_range (by omega)]
    rfl
  · rw [List.getElem?_append_right (by omega), show Q.length + 2 + 1 - Q.length = 3 by omega]
    unfold corB
    show some (outW true q k (Q.length + 2 + 4)) = _
    rw [show Q.length + 2 + 4 = 2 + (Q.length + 2 + 2) by omega]
theorem atG_of {H : AHeap} {L : List (Option ABlk)} {q k e o r p : Nat} {X : Nat → Nat → Nat} {t : Nat} (hA : AtAt q k) (h : InL L H.size o r q k X) (he : e = H.size + o) (hp : p = H.size + L.length) : (atG H L q k e p (fun i => atL t (colX q X i)) t).ok Try.prog := by
  have := at_inG hA (h.g he rfl) (t := t)
  rw [fg_size, ← hp] at this
  exact this
theorem abB_len (k : Nat) (V : NcV) : ∀ j, (abB k V j).length = 2 * j
  | 0 => rfl
  | j + 1 => by
    unfold abB
    rw [List.range_succ, List.flatMap_append, List.length_append]
    have := abB_len k V j
    unfold abB at this
    rw [this]
    rfl
theorem ncL_len (q k m : Nat) (V : NcV) (X : Nat → Nat → Nat) : (ncL q k m V X).length + 2 = cfP q + 4 + (q + 1) := by
  have := preN_len q k X
  unfold ncL corB
  simp only [List.length_append, List.length_cons, List.length_nil, List.length_map, List.length_range]
  omega

/-! the law -/
theorem nc_at {q k m : Nat} (h1 : 1 ≤ q) (h4 : q ≤ 4) (hk : 0 < k) (hK : Kept q k) (hZ : ZRows q k) (hA : AtAt q k) {zs ms : List Int} (hmk : MakeOK q k zs) {o o2 : Option ABlk} {va vb : Value} (hv : Handed #[o, o2] zs va) (hu : Handed #[o, o2] ms vb) (hmm : m ≤ k ∧ m ≤ ms.length ∧ (m < k → m = ms.length)) (hr : NcRun q k m)
    (order n : Int) (ho : order % Int.ofNat (3 + 1) = Int.ofNat (q - 1)) (hn : n % Int.ofNat (2 + 1) = Int.ofNat (k - 1)) :
    Tells 6 #[.int .i64 order, .int .i64 n, va, vb] #[o, o2] (.bool true) := by
  obtain ⟨ra, la, ba, runA⟩ := make_keptA hk hK hmk n hn
  have hza : ∀ e, zBs2 e q k ra = rowsX q k e (xT q k fun i => ra.getD i 0) := fun e => by
    have := hZ e (fun i => ra.getD i 0)
    rw [tab_eq la] at this
    exact this
  have bf : ∀ i, 0 ≤ ra.getD i 0 ∧ ra.getD i 0 ≤ 200 := by
    intro i
    rw [List.getD_eq_getElem?_getD]
    cases hg : ra[i]? with
    | none => exact ⟨by decide, by decide⟩
    | some r => exact ba r (List.mem_of_getElem? hg)
  have hX0 : ∀ j i, Dy 0 (nT q k (fun i => ra.getD i 0) j i) (xT q k (fun i => ra.getD i 0) j i) ∧ (nT q k (fun i => ra.getD i 0) j i).natAbs ≤ 100 := fun j i => by
    obtain ⟨s1, s2⟩ := xT_sc bf j i
    have := Sc.dy (j := 0) s1
    rw [show ((pw 0 : Nat) : Int) = 1 from rfl, Int.mul_one] at this
    exact ⟨this, s2⟩
  generalize hX : (xT q k fun i => ra.getD i 0) = X at hza hX0
  generalize hN : (nT q k fun i => ra.getD i 0) = N at hX0
  obtain ⟨p, hp⟩ := Classical.axiomOfChoice (fun i : Nat => (show ∃ p, i < ms.length → (indexAddrV Try.prog 22 vb (.int .i64 (Int.ofNat i)) = some (.pointer (some p)) ∧ ∀ L : List (Option ABlk), readVar Try.prog (G #[o, o2] L) 3 p = some (.int .i64 (ms.getD i 0))) from by
    by_cases h : i < ms.length
    · obtain ⟨p, hp⟩ := handJ hu h
      exact ⟨p, fun _ => hp⟩
    · exact ⟨⟨0, 0, none⟩, fun h' => absurd h' h⟩))
  let w : Nat → Int := fun i => ms.getD i 0 % 9
  have hw : ∀ i, 0 ≤ w i ∧ w i < 9 := fun i => ⟨Int.emod_nonneg _ (by decide), Int.emod_lt_of_pos _ (by decide)⟩
  let V0 : NcV := { w := w, b := fun i => w i - 4, n := fun i => ms.getD i 0, f := fun i => F (w i - 4), p := p, g := F (dN q), A := fun _ _ => 0, B := fun _ _ => 0, U := fun _ _ => 0 }
  let V : NcV := { w := w, b := fun i => w i - 4, n := fun i => ms.getD i 0, f := fun i => F (w i - 4), p := p, g := F (dN q), A := fun j i => atL (tJ j) (colX q (cX q m V0 X) i), B := fun j i => atL (tJ j) (colX q X i), U := fun _ _ => 0 }
  have hC : cX q m V X = cX q m V0 X := rfl
  obtain ⟨a, len, cap, hvb, hlen⟩ : ∃ a len cap, vb = .slice a len cap ∧ len = ms.length := by
    rcases hu with ⟨rfl, rfl⟩ | ⟨b, B, _, rfl, _, _⟩
    · exact ⟨_, _, _, rfl, rfl⟩
    · exact ⟨_, _, _, rfl, rfl⟩
  have h := hr o o2 order n va a len cap X V
  rw [← hvb] at h
  have ho5 := within8 order 3 (by decide)
  rw [ho] at ho5
  have sz : (#[o, o2] : AHeap).size = 2 := rfl
  have m1 : (mkO q k 2 n va #[o, o2] X).ok Try.prog := by
    have := runA (froze #[o, o2]) va (froze_all _) hv.froze
    rw [froze_size, hza] at this
    exact this
  let e : Nat → Int := fun i => if i < m then w i - 4 else 0
  have he : ∀ i, (e i).natAbs ≤ 4 := fun i => by
    show (if i < m then w i - 4 else 0 : Int).natAbs ≤ 4
    have := hw i
    split <;> omega
  have hcX : ∀ j, j ≤ q → ∀ i, Dy 0 (N j i + e i * mU q j) (cX q m V0 X j i) ∧ (N j i + e i * mU q j).natAbs ≤ 250100 := fun j hj i => by
    have b1 := mu_bd q (by omega) j (by omega)
    have b2 := he i
    have b3 : (e i * mU q j).natAbs ≤ 4 * 62500 := by rw [Int.natAbs_mul]; exact Nat.mul_le_mul b2 b1
    obtain ⟨x1, x2⟩ := hX0 j i
    have hpr : fop .mul .f64 (lQ q j) (V0.d m i) = F (e i * mU q j) := by
      by_cases c : i < m
      · have e1 : V0.d m i = fop .mul .f64 (F (w i - 4)) (F (dN q)) := by
          unfold NcV.d
          rw [Nat.blt_eq.mpr c]
          rfl
        have e2 : e i = w i - 4 := if_pos c
        have := lq_dec q (by omega) j (by omega) (w i).toNat (by have := hw i; omega) h1 hj
        rw [show (((w i).toNat : Nat) : Int) = w i by have := hw i; omega] at this
        rw [e1, e2]
        exact this
      · have e1 : V0.d m i = 0 := by
          unfold NcV.d
          rw [show Nat.blt i m = false from Bool.eq_false_iff.2 fun h => c (Nat.blt_eq.mp h)]
          rfl
        have e2 : e i = 0 := if_neg c
        rw [e1, e2]
        exact lq_zero q (by omega) j (by omega) h1 hj
    refine ⟨?_, by omega⟩
    show Dy 0 _ (fop .add .f64 (X j i) (fop .mul .f64 (lQ q j) (V0.d m i)))
    rw [hpr]
    exact x1.add (Dy.F (by omega)) (by omega) (by decide)
  have h6 : 6 ^ (q + 1) ≤ 7776 := by
    have : q = 1 ∨ q = 2 ∨ q = 3 ∨ q = 4 := by omega
    rcases this with rfl | rfl | rfl | rfl <;> decide
  have hAB : ∀ j, j < q → ∀ i, Dy 0 0 (fop .sub .f64 (V.A j i) (V.B j i)) := fun j hj i => by
    have ht : Dy 0 (-((j : Int) + 1)) (tJ j) := by
      rw [tJ_eq j (by omega)]
      exact Dy.F (by omega)
    have c1 : ColY 250100 (colX q (cX q m V0 X) i) ((List.range (q + 1)).map fun t => N t i + e i * mU q t) := colY_map _ fun t ht => hcX t (by have := List.mem_range.1 ht; omega) i
    have c2 : ColY 250100 (colX q X i) ((List.range (q + 1)).map fun t => N t i) := colY_map _ fun t _ => ⟨(hX0 t i).1, by have := (hX0 t i).2; omega⟩
    have l1 : (colX q (cX q m V0 X) i).length = q + 1 := by unfold colX; simp
    have l2 : (colX q X i).length = q + 1 := by unfold colX; simp
    have n1 : ∀ {l : List Nat}, l.length = q + 1 → l ≠ [] := fun hl he => by rw [he] at hl; simp at hl
    obtain ⟨d1, d2⟩ := atL_dy ht (by omega) c1 (n1 l1) (by rw [l1]; omega)
    obtain ⟨d3, d4⟩ := atL_dy ht (by omega) c2 (n1 l2) (by rw [l2]; omega)
    rw [roots h1 h4 hj (fun t => N t i) (e i)] at d1
    have := d1.sub d3 (by rw [Int.sub_self]; decide) (by decide)
    rw [Int.sub_self] at this
    exact this
  have iX : InL (ncL q k m V X) 2 (q + 1) 0 q k X := by
    have := ((inL_rows q k 2 X).app (R := cfA q ++ cfT q :: cfB q)).app (R := rowW true k (V.d m) :: corB q k (cfP q) (cX q m V X))
    exact this
  have iC : InL (ncL q k m V X) 2 (cfP q + 1) (cfP q + 2) q k (cX q m V0 X) := inL_cor (preN_len q k X)
  have ll := ncL_len q k m V X
  refine tells_of h (okAll_append (okAll_append (okAll_append ⟨nord_known, ho5, m1, trivial⟩ (okFlat _ _ fun i hi => ?_)) ?_) (okFlat _ _ fun j hj => ?_))
  · have hi' := List.mem_range.1 hi
    obtain ⟨p1, p2⟩ := hp i (by omega)
    have := hw i
    have hsu := suI_ok (w i)
    rw [show IntKind.i64.wrap (w i - 4) = w i - 4 from wrap_id (by omega) (by omega)] at hsu
    exact ⟨lsI_ok (decide_eq_true (by omega)), p1, p2 _, within8 _ 8 (by decide), hsu, cvI_ok _, cvI_ok _, trivial⟩
  · cases hb : Nat.blt m k with
    | true => exact ⟨lsI_ok (decide_eq_false (by have := hmm.2.2 (Nat.blt_eq.mp hb); omega)), trivial⟩
    | false => trivial
  · have hj' := List.mem_range.1 hj
    have la := abB_len k V j
    refine okAll_append ⟨?_, ?_, trivial⟩ (okFlat _ _ fun i hi => ⟨abs_none (hAB j hj' i), gt_0, trivial⟩)
    · exact atG_of (o := cfP q + 1) hA (iC.app (R := abB k V j)) (by rw [sz]; omega) (by rw [sz, List.length_append]; omega)
    · exact atG_of (o := q + 1) hA ((iX.app (R := abB k V j)).app (R := aB k (V.A j))) (by rw [sz]) (by rw [sz, List.length_append, List.length_append, show (aB k (V.A j)).length = 1 from rfl]; omega)
theorem nordCorrects_pad {o o2 : Option ABlk} {va vb : Value} {zs ms : List Int} (ha : Handed #[o, o2] zs va) (hb : Handed #[o, o2] ms vb) (order n : Int) : Tells 6 #[.int .i64 order, .int .i64 n, va, vb] #[o, o2] (.bool true) := by
  have h1 := Int.emod_nonneg order (b := 4) (by decide)
  have h2 := Int.emod_lt_of_pos order (b := 4) (by decide)
  have h3 := Int.emod_nonneg n (b := 3) (by decide)
  have h4 := Int.emod_lt_of_pos n (b := 3) (by decide)
  have e5 : Int.ofNat (3 + 1) = 4 := rfl
  have e3 : Int.ofNat (2 + 1) = 3 := rfl
  have ho : order % Int.ofNat (3 + 1) = Int.ofNat (1 - 1) ∨ order % Int.ofNat (3 + 1) = Int.ofNat (2 - 1) ∨ order % Int.ofNat (3 + 1) = Int.ofNat (3 - 1) ∨ order % Int.ofNat (3 + 1) = Int.ofNat (4 - 1) := by
    rw [e5]; simp; omega
  have hn : n % Int.ofNat (2 + 1) = Int.ofNat (1 - 1) ∨ n % Int.ofNat (2 + 1) = Int.ofNat (2 - 1) ∨ n % Int.ofNat (2 + 1) = Int.ofNat (3 - 1) := by
    rw [e3]; simp; omega
  have hm1 : ms.length = 0 ∨ 1 ≤ ms.length := by omega
  have hm2 : ms.length = 0 ∨ ms.length = 1 ∨ 2 ≤ ms.length := by omega
  have hm3 : ms.length = 0 ∨ ms.length = 1 ∨ ms.length = 2 ∨ 3 ≤ ms.length := by omega
  rcases ho with ho | ho | ho | ho <;> rcases hn with hn | hn | hn
  · rcases hm1 with hm | hm
    · exact nc_at (q := 1) (k := 1) (m := 0) (by decide) (by decide) (by decide) kept_1_1 zrows_1_1 att_1_1 (make_1_1 zs) ha hb ⟨by decide, by omega, by omega⟩ ncN_1_1_0 order n ho hn
    · exact nc_at (q := 1) (k := 1) (m := 1) (by decide) (by decide) (by decide) kept_1_1 zrows_1_1 att_1_1 (make_1_1 zs) ha hb ⟨by decide, by omega, by omega⟩ ncN_1_1_1 order n ho hn
  · rcases hm2 with hm | hm | hm
    · exact nc_at (q := 1) (k := 2) (m := 0) (by decide) (by decide) (by decide) kept_1_2 zrows_1_2 att_1_2 (make_1_2 zs) ha hb ⟨by decide, by omega, by omega⟩ ncN_1_2_0 order n ho hn
    · exact nc_at (q := 1) (k := 2) (m := 1) (by decide) (by decide) (by decide) kept_1_2 zrows_1_2 att_1_2 (make_1_2 zs) ha hb ⟨by decide, by omega, by omega⟩ ncN_1_2_1 order n ho hn
    · exact nc_at (q := 1) (k := 2) (m := 2) (by decide) (by decide) (by decide) kept_1_2 zrows_1_2 att_1_2 (make_1_2 zs) ha hb ⟨by decide, by omega, by omega⟩ ncN_1_2_2 order n ho hn
  · rcases hm3 with hm | hm | hm | hm
    · exact nc_at (q := 1) (k := 3) (m := 0) (by decide) (by decide) (by decide) kept_1_3 zrows_1_3 att_1_3 (make_1_3 zs) ha hb ⟨by decide, by omega, by omega⟩ ncN_1_3_0 order n ho hn
    · exact nc_at (q := 1) (k := 3) (m := 1) (by decide) (by decide) (by decide) kept_1_3 zrows_1_3 att_1_3 (make_1_3 zs) ha hb ⟨by decide, by omega, by omega⟩ ncN_1_3_1 order n ho hn
    · exact nc_at (q := 1) (k := 3) (m := 2) (by decide) (by decide) (by decide) kept_1_3 zrows_1_3 att_1_3 (make_1_3 zs) ha hb ⟨by decide, by omega, by omega⟩ ncN_1_3_2 order n ho hn
    · exact nc_at (q := 1) (k := 3) (m := 3) (by decide) (by decide) (by decide) kept_1_3 zrows_1_3 att_1_3 (make_1_3 zs) ha hb ⟨by decide, by omega, by omega⟩ ncN_1_3_3 order n ho hn
  · rcases hm1 with hm | hm
    · exact nc_at (q := 2) (k := 1) (m := 0) (by decide) (by decide) (by decide) kept_2_1 zrows_2_1 att_2_1 (make_2_1 zs) ha hb ⟨by decide, by omega, by omega⟩ ncN_2_1_0 order n ho hn
    · exact nc_at (q := 2) (k := 1) (m := 1) (by decide) (by decide) (by decide) kept_2_1 zrows_2_1 att_2_1 (make_2_1 zs) ha hb ⟨by decide, by omega, by omega⟩ ncN_2_1_1 order n ho hn
  · rcases hm2 with hm | hm | hm
    · exact nc_at (q := 2) (k := 2) (m := 0) (by decide) (by decide) (by decide) kept_2_2 zrows_2_2 att_2_2 (make_2_2 zs) ha hb ⟨by decide, by omega, by omega⟩ ncN_2_2_0 order n ho hn
    · exact nc_at (q := 2) (k := 2) (m := 1) (by decide) (by decide) (by decide) kept_2_2 zrows_2_2 att_2_2 (make_2_2 zs) ha hb ⟨by decide, by omega, by omega⟩ ncN_2_2_1 order n ho hn
    · exact nc_at (q := 2) (k := 2) (m := 2) (by decide) (by decide) (by decide) kept_2_2 zrows_2_2 att_2_2 (make_2_2 zs) ha hb ⟨by decide, by omega, by omega⟩ ncN_2_2_2 order n ho hn
  · rcases hm3 with hm | hm | hm | hm
    · exact nc_at (q := 2) (k := 3) (m := 0) (by decide) (by decide) (by decide) kept_2_3 zrows_2_3 att_2_3 (make_2_3 zs) ha hb ⟨by decide, by omega, by omega⟩ ncN_2_3_0 order n ho hn
    · exact nc_at (q := 2) (k := 3) (m := 1) (by decide) (by decide) (by decide) kept_2_3 zrows_2_3 att_2_3 (make_2_3 zs) ha hb ⟨by decide, by omega, by omega⟩ ncN_2_3_1 order n ho hn
    · exact nc_at (q := 2) (k := 3) (m := 2) (by decide) (by decide) (by decide) kept_2_3 zrows_2_3 att_2_3 (make_2_3 zs) ha hb ⟨by decide, by omega, by omega⟩ ncN_2_3_2 order n ho hn
    · exact nc_at (q := 2) (k := 3) (m := 3) (by decide) (by decide) (by decide) kept_2_3 zrows_2_3 att_2_3 (make_2_3 zs) ha hb ⟨by decide, by omega, by omega⟩ ncN_2_3_3 order n ho hn
  · rcases hm1 with hm | hm
    · exact nc_at (q := 3) (k := 1) (m := 0) (by decide) (by decide) (by decide) kept_3_1 zrows_3_1 att_3_1 (make_3_1 zs) ha hb ⟨by decide, by omega, by omega⟩ ncN_3_1_0 order n ho hn
    · exact nc_at (q := 3) (k := 1) (m := 1) (by decide) (by decide) (by decide) kept_3_1 zrows_3_1 att_3_1 (make_3_1 zs) ha hb ⟨by decide, by omega, by omega⟩ ncN_3_1_1 order n ho hn
  · rcases hm2 with hm | hm | hm
    · exact nc_at (q := 3) (k := 2) (m := 0) (by decide) (by decide) (by decide) kept_3_2 zrows_3_2 att_3_2 (make_3_2 zs) ha hb ⟨by decide, by omega, by omega⟩ ncN_3_2_0 order n ho hn
    · exact nc_at (q := 3) (k := 2) (m := 1) (by decide) (by decide) (by decide) kept_3_2 zrows_3_2 att_3_2 (make_3_2 zs) ha hb ⟨by decide, by omega, by omega⟩ ncN_3_2_1 order n ho hn
    · exact nc_at (q := 3) (k := 2) (m := 2) (by decide) (by decide) (by decide) kept_3_2 zrows_3_2 att_3_2 (make_3_2 zs) ha hb ⟨by decide, by omega, by omega⟩ ncN_3_2_2 order n ho hn
  · rcases hm3 with hm | hm | hm | hm
    · exact nc_at (q := 3) (k := 3) (m := 0) (by decide) (by decide) (by decide) kept_3_3 zrows_3_3 att_3_3 (make_3_3 zs) ha hb ⟨by decide, by omega, by omega⟩ ncN_3_3_0 order n ho hn
    · exact nc_at (q := 3) (k := 3) (m := 1) (by decide) (by decide) (by decide) kept_3_3 zrows_3_3 att_3_3 (make_3_3 zs) ha hb ⟨by decide, by omega, by omega⟩ ncN_3_3_1 order n ho hn
    · exact nc_at (q := 3) (k := 3) (m := 2) (by decide) (by decide) (by decide) kept_3_3 zrows_3_3 att_3_3 (make_3_3 zs) ha hb ⟨by decide, by omega, by omega⟩ ncN_3_3_2 order n ho hn
    · exact nc_at (q := 3) (k := 3) (m := 3) (by decide) (by decide) (by decide) kept_3_3 zrows_3_3 att_3_3 (make_3_3 zs) ha hb ⟨by decide, by omega, by omega⟩ ncN_3_3_3 order n ho hn
  · rcases hm1 with hm | hm
    · exact nc_at (q := 4) (k := 1) (m := 0) (by decide) (by decide) (by decide) kept_4_1 zrows_4_1 att_4_1 (make_4_1 zs) ha hb ⟨by decide, by omega, by omega⟩ ncN_4_1_0 order n ho hn
    · exact nc_at (q := 4) (k := 1) (m := 1) (by decide) (by decide) (by decide) kept_4_1 zrows_4_1 att_4_1 (make_4_1 zs) ha hb ⟨by decide, by omega, by omega⟩ ncN_4_1_1 order n ho hn
  · rcases hm2 with hm | hm | hm
    · exact nc_at (q := 4) (k := 2) (m := 0) (by decide) (by decide) (by decide) kept_4_2 zrows_4_2 att_4_2 (make_4_2 zs) ha hb ⟨by decide, by omega, by omega⟩ ncN_4_2_0 order n ho hn
    · exact nc_at (q := 4) (k := 2) (m := 1) (by decide) (by decide) (by decide) kept_4_2 zrows_4_2 att_4_2 (make_4_2 zs) ha hb ⟨by decide, by omega, by omega⟩ ncN_4_2_1 order n ho hn
    · exact nc_at (q := 4) (k := 2) (m := 2) (by decide) (by decide) (by decide) kept_4_2 zrows_4_2 att_4_2 (make_4_2 zs) ha hb ⟨by decide, by omega, by omega⟩ ncN_4_2_2 order n ho hn
  · rcases hm3 with hm | hm | hm | hm
    · exact nc_at (q := 4) (k := 3) (m := 0) (by decide) (by decide) (by decide) kept_4_3 zrows_4_3 att_4_3 (make_4_3 zs) ha hb ⟨by decide, by omega, by omega⟩ ncN_4_3_0 order n ho hn
    · exact nc_at (q := 4) (k := 3) (m := 1) (by decide) (by decide) (by decide) kept_4_3 zrows_4_3 att_4_3 (make_4_3 zs) ha hb ⟨by decide, by omega, by omega⟩ ncN_4_3_1 order n ho hn
    · exact nc_at (q := 4) (k := 3) (m := 2) (by decide) (by decide) (by decide) kept_4_3 zrows_4_3 att_4_3 (make_4_3 zs) ha hb ⟨by decide, by omega, by omega⟩ ncN_4_3_2 order n ho hn
    · exact nc_at (q := 4) (k := 3) (m := 3) (by decide) (by decide) (by decide) kept_4_3 zrows_4_3 att_4_3 (make_4_3 zs) ha hb ⟨by decide, by omega, by omega⟩ ncN_4_3_3 order n ho hn

end Go.Proofs.Ytclphdmaedpipaa
