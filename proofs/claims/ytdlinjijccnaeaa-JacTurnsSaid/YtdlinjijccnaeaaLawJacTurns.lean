/- The law JacTurns returns true, whatever it is handed. -/
import Derived.Test.YtdlinjijccnaeaaJtRA
import Derived.Test.YtdlinjijccnaeaaJtRB
import Derived.Test.YtdlinjijccnaeaaJtRC
import Derived.Test.YtdlinjijccnaeaaJtRD
namespace Go.Proofs.Ytdlinjijccnaeaa
open Go
set_option linter.unusedVariables false
set_option linter.unusedSimpArgs false
set_option maxRecDepth 100000

theorem jt2 : ∀ zs : List Int, JtAt 2 zs
  | [] => jt2_0 
  | [z0] => jt2_1 z0
  | [z0, z1] => jt2_2 z0 z1
  | [z0, z1, z2] => jt2_3 z0 z1 z2
  | z0 :: z1 :: z2 :: z3 :: tail => jt2_t z0 z1 z2 z3 tail
theorem jt3 : ∀ zs : List Int, JtAt 3 zs
  | [] => jt3_0 
  | [z0] => jt3_1 z0
  | [z0, z1] => jt3_2 z0 z1
  | [z0, z1, z2] => jt3_3 z0 z1 z2
  | [z0, z1, z2, z3] => jt3_4 z0 z1 z2 z3
  | [z0, z1, z2, z3, z4] => jt3_5 z0 z1 z2 z3 z4
  | [z0, z1, z2, z3, z4, z5] => jt3_6 z0 z1 z2 z3 z4 z5
  | [z0, z1, z2, z3, z4, z5, z6] => jt3_7 z0 z1 z2 z3 z4 z5 z6
  | [z0, z1, z2, z3, z4, z5, z6, z7] => jt3_8 z0 z1 z2 z3 z4 z5 z6 z7
  | z0 :: z1 :: z2 :: z3 :: z4 :: z5 :: z6 :: z7 :: z8 :: tail => jt3_t z0 z1 z2 z3 z4 z5 z6 z7 z8 tail
theorem jt4 : ∀ zs : List Int, JtAt 4 zs
  | [] => jt4_0 
  | [z0] => jt4_1 z0
  | [z0, z1] => jt4_2 z0 z1
  | [z0, z1, z2] => jt4_3 z0 z1 z2
  | [z0, z1, z2, z3] => jt4_4 z0 z1 z2 z3
  | [z0, z1, z2, z3, z4] => jt4_5 z0 z1 z2 z3 z4
  | [z0, z1, z2, z3, z4, z5] => jt4_6 z0 z1 z2 z3 z4 z5
  | [z0, z1, z2, z3, z4, z5, z6] => jt4_7 z0 z1 z2 z3 z4 z5 z6
  | [z0, z1, z2, z3, z4, z5, z6, z7] => jt4_8 z0 z1 z2 z3 z4 z5 z6 z7
  | [z0, z1, z2, z3, z4, z5, z6, z7, z8] => jt4_9 z0 z1 z2 z3 z4 z5 z6 z7 z8
  | [z0, z1, z2, z3, z4, z5, z6, z7, z8, z9] => jt4_10 z0 z1 z2 z3 z4 z5 z6 z7 z8 z9
  | [z0, z1, z2, z3, z4, z5, z6, z7, z8, z9, z10] => jt4_11 z0 z1 z2 z3 z4 z5 z6 z7 z8 z9 z10
  | [z0, z1, z2, z3, z4, z5, z6, z7, z8, z9, z10, z11] => jt4_12 z0 z1 z2 z3 z4 z5 z6 z7 z8 z9 z10 z11
  | [z0, z1, z2, z3, z4, z5, z6, z7, z8, z9, z10, z11, z12] => jt4_13 z0 z1 z2 z3 z4 z5 z6 z7 z8 z9 z10 z11 z12
  | [z0, z1, z2, z3, z4, z5, z6, z7, z8, z9, z10, z11, z12, z13] => jt4_14 z0 z1 z2 z3 z4 z5 z6 z7 z8 z9 z10 z11 z12 z13
  | [z0, z1, z2, z3, z4, z5, z6, z7, z8, z9, z10, z11, z12, z13, z14] => jt4_15 z0 z1 z2 z3 z4 z5 z6 z7 z8 z9 z10 z11 z12 z13 z14
  | z0 :: z1 :: z2 :: z3 :: z4 :: z5 :: z6 :: z7 :: z8 :: z9 :: z10 :: z11 :: z12 :: z13 :: z14 :: z15 :: tail => jt4_t z0 z1 z2 z3 z4 z5 z6 z7 z8 z9 z10 z11 z12 z13 z14 z15 tail

/-! what it asks -/
theorem knownJt : Runs Try.prog 12 #[] #[] (.bool true) #[] := known4
theorem wi4_ok (z : Int) (k : Nat) (hk : k < 1000) : (wi4O z (Int.ofNat (k + 1)) (z % Int.ofNat (k + 1))).ok Try.prog := within4 z k (by omega)
theorem cvF_ok (c : Int) : (cvO c (F c)).ok Try.prog := by
  show convV Try.prog 3 27 (.int .i64 c) = some (.float .f64 (floatOfInt .f64 c))
  kernel_rfl
theorem subI_ok (a : Int) : (iiO .sub a 10 (jw (a - 10))).ok Try.prog := by
  show pureV Try.prog (binOp .sub 3 (.int .i64 a) (.int .i64 10)) = some (.int .i64 (jw (a - 10)))
  kernel_rfl
theorem quoI_ok (a : Int) : (iiO .quo a 21 (jw (a.tdiv 21))).ok Try.prog := by
  show pureV Try.prog (binOp .quo 3 (.int .i64 a) (.int .i64 21)) = some (.int .i64 (jw (a.tdiv 21)))
  kernel_rfl
theorem addF21 : ∀ b : Nat, b < 21 → ∀ d : Nat, d < 3 → fop .add .f64 (F ((b : Int) - 10)) (F (d : Int)) = F ((b : Int) - 10 + (d : Int)) := by decide +kernel
theorem addF_at {b d : Int} (h1 : -10 ≤ b) (h2 : b ≤ 10) (h3 : 0 ≤ d) (h4 : d ≤ 2) : fop .add .f64 (F b) (F d) = F (b + d) := by
  have := addF21 (b + 10).toNat (by omega) d.toNat (by omega)
  rw [show (((b + 10).toNat : Nat) : Int) - 10 = b by omega, show ((d.toNat : Nat) : Int) = d by omega] at this
  exact this
theorem swap_1 (i p q : Int) : (askN noF cmK 12 23 #[.int .i64 i, .int .i64 p, .int .i64 q] #[] [yes true]).map (fun r => (r.1, r.2.2)) = some (.int .i64 q, [cpO .eql i p true]) := by kernel_rfl
theorem swap_2 (i p q : Int) : (askN noF cmK 12 23 #[.int .i64 i, .int .i64 p, .int .i64 q] #[] [yes false, yes true]).map (fun r => (r.1, r.2.2)) = some (.int .i64 p, [cpO .eql i p false, cpO .eql i q true]) := by kernel_rfl
theorem swap_3 (i p q : Int) : (askN noF cmK 12 23 #[.int .i64 i, .int .i64 p, .int .i64 q] #[] [yes false, yes false]).map (fun r => (r.1, r.2.2)) = some (.int .i64 i, [cpO .eql i p false, cpO .eql i q false]) := by kernel_rfl
theorem eqlJ (a b : Int) : (cpO .eql a b (decide (a = b))).ok Try.prog := by
  show cmpV _ _ _ _ _ = _
  by_cases h : a = b
  · subst h
    rw [decide_eq_true rfl]
    have : cmpV Try.prog .eql 3 (.int .i64 a) (.int .i64 a) = some (decide (a = a)) := by kernel_rfl
    rw [this, decide_eq_true rfl]
  · have : cmpV Try.prog .eql 3 (.int .i64 a) (.int .i64 b) = some (decide (a = b)) := by kernel_rfl
    exact this
theorem swap_at (i p q : Nat) : (swO i (Int.ofNat p) (Int.ofNat q) (Int.ofNat (swN p q i))).ok Try.prog := by
  show Runs _ _ _ _ _ _
  have e1 := eqlJ (Int.ofNat i) (Int.ofNat p)
  have e2 := eqlJ (Int.ofNat i) (Int.ofNat q)
  unfold swN
  by_cases h1 : i = p
  · rw [decide_eq_true (congrArg Int.ofNat h1)] at e1
    rw [if_pos h1]
    exact quiet_of' (swap_1 _ _ _) ⟨e1, trivial⟩ rfl rfl
  · rw [decide_eq_false (fun h => h1 (Int.ofNat.inj h))] at e1
    rw [if_neg h1]
    by_cases h2 : i = q
    · rw [decide_eq_true (congrArg Int.ofNat h2)] at e2
      rw [if_pos h2]
      exact quiet_of' (swap_2 _ _ _) ⟨e1, e2, trivial⟩ rfl rfl
    · rw [decide_eq_false (fun h => h2 (Int.ofNat.inj h))] at e2
      rw [if_neg h2]
      exact quiet_of' (swap_3 _ _ _) ⟨e1, e2, trivial⟩ rfl rfl

/-! cells -/
theorem tj_iv : isStructB Try.prog 29 = true := by kernel_rfl
theorem zj_iv : sizeB Try.prog 29 2 = true := by kernel_rfl
theorem tj_ivs : isSliceB Try.prog 26 29 = true := by kernel_rfl
theorem zj_ivs : sizeB Try.prog 26 1 = true := by kernel_rfl
theorem tj_ivss : isSliceB Try.prog 25 26 = true := by kernel_rfl
theorem pj_ivs : isPlainB Try.prog 26 = true := by kernel_rfl
theorem ixRow {b n c : Nat} {A : Int} (h0 : 0 ≤ A) (h1 : A < n) {o : Nat} (ho : o = A.toNat) : indexAddrV Try.prog 25 (.slice (some ⟨b, 0, none⟩) n c) (.int .i64 A) = some (.pointer (some ⟨b, o, none⟩)) := by
  obtain ⟨i, hi, hz⟩ := sizeB_ex zj_ivs
  exact ix_slice (isSliceB_ex tj_ivss) hi hz h0 h1 (by omega)
theorem rdRow {H : AHeap} {b k : Nat} {B : ABlk} {l : List Value} {a : Value} (hb : H[b]? = some (some B)) (hc : B.cells = l.toArray) (hk : l[k]? = some a) {o : Nat} (ho : o = k) : readVar Try.prog H 26 ⟨b, o, none⟩ = some a :=
  rd_one (g := fun x : Value => x) (isPlainB_ex pj_ivs) hb (by rw [flatIdR, hc]) hk ho
theorem rdCel {H : AHeap} {b k : Nat} {B : ABlk} {l : List P2} {a : P2} (hb : H[b]? = some (some B)) (hc : B.cells = (l.flatMap ivC).toArray) (hk : l[k]? = some a) {o : Nat} (ho : o = k * 2) : readVar Try.prog H 29 ⟨b, o, none⟩ = some (vI a) := by
  obtain ⟨fs, hu⟩ := isStructB_ex tj_iv
  obtain ⟨i, hi, hz⟩ := sizeB_ex zj_iv
  exact rd_agg (f := ivC) (fun _ => rfl) hu hi hz hb hc hk ho
theorem ixCel {b n c : Nat} {A : Int} (h0 : 0 ≤ A) (h1 : A < n) {o : Nat} (ho : o = A.toNat * 2) : indexAddrV Try.prog 26 (.slice (some ⟨b, 0, none⟩) n c) (.int .i64 A) = some (.pointer (some ⟨b, o, none⟩)) := by
  obtain ⟨i, hi, hz⟩ := sizeB_ex zj_iv
  exact ix_slice (isSliceB_ex tj_ivs) hi hz h0 h1 ho

/-! places -/
def N4 (n : Nat) : Prop := n = 2 ∨ n = 3 ∨ n = 4
theorem allK_at {n : Nat} (hn : N4 n) {r : Nat} (hr : r < n) (T : Option ABlk) (X : Nat → Nat → P2) : (T :: allK n X)[2 * n * r + 2 * n]? = some (ivB ((List.range n).map (X r))) := by
  rcases hn with rfl | rfl | rfl
  · have : r = 0 ∨ r = 1 := by omega
    rcases this with rfl | rfl <;> rfl
  · have : r = 0 ∨ r = 1 ∨ r = 2 := by omega
    rcases this with rfl | rfl | rfl <;> rfl
  · have : r = 0 ∨ r = 1 ∨ r = 2 ∨ r = 3 := by omega
    rcases this with rfl | rfl | rfl | rfl <;> rfl
theorem allK_len {n : Nat} (hn : N4 n) (X : Nat → Nat → P2) : (allK n X).length = 2 * n * n := by
  rcases hn with rfl | rfl | rfl <;> rfl
def rowSl (b n r : Nat) : Value := .slice (some ⟨rwP b n r, 0, none⟩) n n
theorem tabK_full {n : Nat} (hn : N4 n) (b : Nat) : tabK b n n 0 = some ⟨((List.range n).map (rowSl b n)).toArray, 26, 1, true⟩ := by
  rcases hn with rfl | rfl | rfl <;> rfl
theorem cells_map {n : Nat} (hn : N4 n) (R : Nat → P2) : cells n R n = ((List.range n).map R).flatMap ivC := by
  rcases hn with rfl | rfl | rfl <;> rfl
theorem oCells_map {n : Nat} (hn : N4 n) : oCells n idN n = (List.range n).map fun i => Value.slice (some ⟨i, 0, none⟩) n n := by
  rcases hn with rfl | rfl | rfl <;> rfl
theorem pre_at {zs : List Int} {n : Nat} {V : JtV} {i c k : Nat} {x : Option ABlk} (hk : (tabK ((heap0 zs).size + 1) n n 0 :: allK n V.X)[k]? = some x) : (jtH zs n V i c)[(heap0 zs).size + k]? = some x := by
  have e : jtH zs n V i c = (heap0 zs).toList ++ ((tabK ((heap0 zs).size + 1) n n 0 :: allK n V.X) ++ ([tabK ((heap0 zs).size + 2 + 2 * n * n) n i c] ++ (List.range i).flatMap (fun r => rowK n (V.Y r)) ++ rowK c (V.Y i))) := by
    unfold jtH
    simp only [List.append_assoc, List.cons_append, List.nil_append]
  rw [e, List.getElem?_append_right (by rw [Array.length_toList]; omega), Array.length_toList, Nat.add_sub_cancel_left, List.getElem?_append_left (List.getElem?_eq_some_iff.1 hk).1, hk]
theorem snd_at {zs : List Int} {n : Nat} (hn : N4 n) {V : JtV} {k : Nat} {x : Option ABlk} (hk : (tabK ((heap0 zs).size + 2 + 2 * n * n) n n 0 :: allK n V.Y)[k]? = some x) : (jtH zs n V n 0)[(heap0 zs).size + 1 + 2 * n * n + k]? = some x := by
  have e : jtH zs n V n 0 = ((heap0 zs).toList ++ (tabK ((heap0 zs).size + 1) n n 0 :: allK n V.X)) ++ (tabK ((heap0 zs).size + 2 + 2 * n * n) n n 0 :: allK n V.Y) := by
    unfold jtH
    rw [show rowK 0 (V.Y n) = [] from rfl, show (List.range n).flatMap (fun r => rowK n (V.Y r)) = allK n V.Y from rfl]
    simp only [List.append_assoc, List.cons_append, List.nil_append, List.append_nil]
  have l : ((heap0 zs).toList ++ (tabK ((heap0 zs).size + 1) n n 0 :: allK n V.X)).length = (heap0 zs).size + 1 + 2 * n * n := by
    rw [List.length_append, Array.length_toList, List.length_cons, allK_len hn]
    omega
  rw [e, List.getElem?_append_right (by rw [l]; omega), l, Nat.add_sub_cancel_left, hk]

/-! the norms -/
structure ShN (n : Nat) (hN : (Nat → Nat → P2) → AHeap) : Prop where
  row : ∀ M i, i < n → (hN M)[i]? = some (rBlk false n (M i))
  tab : ∀ M, (hN M)[n]? = some (oBlk false n idN)
  siz : ∀ M, (hN M).size = n + 1
theorem sh_2 : ShN 2 hN2 := ⟨fun M i h => by
  have : i = 0 ∨ i = 1 := by omega
  rcases this with rfl | rfl <;> rfl, fun _ => rfl, fun _ => rfl⟩
theorem sh_3 : ShN 3 hN3 := ⟨fun M i h => by
  have : i = 0 ∨ i = 1 ∨ i = 2 := by omega
  rcases this with rfl | rfl | rfl <;> rfl, fun _ => rfl, fun _ => rfl⟩
theorem sh_4 : ShN 4 hN4 := ⟨fun M i h => by
  have : i = 0 ∨ i = 1 ∨ i = 2 ∨ i = 3 := by omega
  rcases this with rfl | rfl | rfl | rfl <;> rfl, fun _ => rfl, fun _ => rfl⟩
theorem nrm_ok {n : Nat} (hn : N4 n) {hN : (Nat → Nat → P2) → AHeap} (sh : ShN n hN) {f : FuncId} {M : Nat → Nat → P2} {x : Nat} (hx : ∃ bs, Runs Try.prog f #[.slice (some ⟨n, 0, none⟩) n n] (hN M) (.float .f64 x) (hN M ++ bs))
    {l : List (Option ABlk)} {bt b : Nat} (hr : ∀ r, r < n → l[rwP b n r]? = some (ivB ((List.range n).map (M r)))) (ht : l[bt]? = some (tabK b n n 0)) (hb : bt < b) : (rnO f #[.slice (some ⟨bt, 0, none⟩) n n] l (fW x) []).ok Try.prog := by
  show Runs _ _ _ _ (.float .f64 x) (froze l.toArray ++ #[])
  rw [Array.append_empty]
  have hn2 : 2 ≤ n := by rcases hn with rfl | rfl | rfl <;> decide
  refine norm_at (ow := true) (M := M) (rb := rwP b n) hx (sh.row M) (sh.tab M) (sh.siz M) (fun i hi => ?_) ?_ (fun i j hi hj he => ?_) (fun i hi => ?_)
  · refine ⟨_, fz_at (hr i hi), ?_⟩
    rw [cells_map hn]
    refine RelK.plain fun j v hv => ?_
    have : v ∈ ((List.range n).map (M i)).flatMap ivC := List.mem_of_getElem? (by simpa using hv)
    obtain ⟨a, _, g⟩ := List.mem_flatMap.1 this
    simp only [ivC, fW, List.mem_cons, List.not_mem_nil, or_false] at g
    rcases g with rfl | rfl <;> rfl
  · rw [tabK_full hn] at ht
    refine ⟨_, fz_at ht, ?_⟩
    rw [oCells_map hn]
    refine ⟨rfl, rfl, (fun h => by cases h), (by simp), fun i v2 v1 h2 h1 => ?_⟩
    rw [List.getElem?_toArray] at h2 h1
    by_cases hi : i < n
    · rw [List.getElem?_map, List.getElem?_range hi] at h2 h1
      injection h2 with h2
      injection h1 with h1
      subst h2 h1
      exact .slice i (rwP b n i) 0 none _ _ _ (by omega) (if_pos hi)
    · rw [List.getElem?_eq_none (by simp; omega)] at h2
      cases h2
  · unfold rwP at he
    rcases hn with rfl | rfl | rfl <;> omega
  · unfold rwP
    omega
theorem nI_bd {n : Nat} (hn : n ≤ 4) {L H : Nat → Nat → Int} (h : ZT L H) : (nI n L H).natAbs ≤ 1000 := by
  unfold nI
  obtain ⟨k, _, hk⟩ := mI_is (fun i => sI (H i i) (zS L H i) i n) (n - 1)
  rw [hk]
  have := sI_le (hi := H k k) (z := zS L H k) (i := k) (by have := h.hi k k; omega) (fun c => by
    have := h.lo k c
    have := h.hi k c
    unfold zS
    omega) n
  show (sI (H k k) (zS L H k) k n).natAbs ≤ 1000
  omega
theorem grid_ok {n : Nat} {f : Nat → Nat → List Obl} (h : ∀ i c, i < n → c < n → okAll Try.prog (f i c)) : okAll Try.prog (grid n f) :=
  each_ok _ _ fun i hi => each_ok _ _ fun c hc => h i c (List.mem_range.1 hi) (List.mem_range.1 hc)

/-! the law -/
def bJ (z : Int) : Int := z % 21 - 10
def yJ (z : Int) : Int := jw (z.tdiv 21)
def dJ (z : Int) : Int := yJ z % 3
theorem bJ_in (z : Int) : -10 ≤ bJ z ∧ bJ z ≤ 10 ∧ 0 ≤ dJ z ∧ dJ z ≤ 2 := by
  have h1 := Int.emod_nonneg z (b := 21) (by decide)
  have h2 := Int.emod_lt_of_pos z (b := 21) (by decide)
  have h3 := Int.emod_nonneg (yJ z) (b := 3) (by decide)
  have h4 := Int.emod_lt_of_pos (yJ z) (b := 3) (by decide)
  unfold bJ dJ
  omega
theorem jt_of {n : Nat} (hn : N4 n) {hN : (Nat → Nat → P2) → AHeap} (nr : NrT n hN) (sh : ShN n hN) {zs : List Int} (hat : JtAt n zs) (size u v : Int) (hs : size % 3 = Int.ofNat (n - 2)) :
    Tells 7 #[arg0 zs, .int .i64 size, .int .i64 u, .int .i64 v] (heap0 zs) (.bool true) := by
  have hn2 : 2 ≤ n := by rcases hn with rfl | rfl | rfl <;> decide
  have hn4 : n ≤ 4 := by rcases hn with rfl | rfl | rfl <;> decide
  obtain ⟨m, hm⟩ : ∃ m, n = m + 1 := ⟨n - 1, by omega⟩
  have md : ∀ w : Int, ∃ p : Nat, p < n ∧ w % Int.ofNat n = Int.ofNat p := fun w => by
    have h1 := Int.emod_nonneg w (b := Int.ofNat n) (by simp; omega)
    have h2 := Int.emod_lt_of_pos w (b := Int.ofNat n) (by simp; omega)
    exact ⟨(w % Int.ofNat n).toNat, by simp at h1 h2 ⊢; omega, (Int.toNat_of_nonneg h1).symm⟩
  obtain ⟨p, hp, ep⟩ := md u
  obtain ⟨q, hq, eq⟩ := md v
  generalize hz : jtZ zs n = z at *
  let L : Nat → Nat → Int := fun i c => bJ (z i c)
  let H : Nat → Nat → Int := fun i c => bJ (z i c) + dJ (z i c)
  let h : Nat := (heap0 zs).size
  let V : JtV := { a := fun i c => z i c % 21, b := L, y := fun i c => yJ (z i c), d := fun i c => dJ (z i c), lo := fun i c => F (L i c), fd := fun i c => F (dJ (z i c)), s := fun i => Int.ofNat (swN p q i), pa := fun i => ⟨h, swN p q i, none⟩, rv := fun i => rowSl (h + 1) n (swN p q i), pb := fun i c => ⟨rwP (h + 1) n (swN p q i), swN p q c * 2, none⟩, Y := fun i c => mT L H (swN p q i) (swN p q c) }
  have hX : V.X = mT L H := by
    funext i c
    obtain ⟨b1, b2, b3, b4⟩ := bJ_in (z i c)
    exact congrArg (Prod.mk (F (L i c))) (addF_at b1 b2 b3 b4)
  have hZ : ZT L H := ⟨fun i c => by
    obtain ⟨b1, b2, b3, b4⟩ := bJ_in (z i c)
    exact ⟨show -12 ≤ bJ (z i c) by omega, show bJ (z i c) ≤ 12 by omega⟩, fun i c => by
    obtain ⟨b1, b2, b3, b4⟩ := bJ_in (z i c)
    exact ⟨show -12 ≤ bJ (z i c) + dJ (z i c) by omega, show bJ (z i c) + dJ (z i c) ≤ 12 by omega⟩⟩
  have hZ' : ZT (fun i c => L (swN p q i) (swN p q c)) (fun i c => H (swN p q i) (swN p q c)) := ⟨fun i c => hZ.lo _ _, fun i c => hZ.hi _ _⟩
  obtain ⟨x, sx, x1, x2⟩ := nr hZ
  obtain ⟨x', sx', y1, _⟩ := nr hZ'
  rw [nI_sw hn2 hn4 hp hq] at sx'
  obtain ⟨k, lg, hl, hrun⟩ := hat size u v (Int.ofNat p) (Int.ofNat q) V x x'
  refine tells_of hrun ?_
  have hpl : ∀ r, r < n → (jtH zs n V n 0)[rwP (h + 1) n r]? = some (ivB ((List.range n).map (V.X r))) := fun r hr => by
    have := pre_at (zs := zs) (V := V) (i := n) (c := 0) (allK_at hn hr (tabK ((heap0 zs).size + 1) n n 0) V.X)
    rw [show rwP (h + 1) n r = (heap0 zs).size + (2 * n * r + 2 * n) by unfold rwP; show (heap0 zs).size + 1 + 2 * n * r + 2 * n - 1 = _; omega]
    exact this
  have hpt : (jtH zs n V n 0)[h]? = some (tabK (h + 1) n n 0) := pre_at (zs := zs) (V := V) (i := n) (c := 0) (k := 0) rfl
  have hsl : ∀ r, r < n → (jtH zs n V n 0)[rwP (h + 2 + 2 * n * n) n r]? = some (ivB ((List.range n).map (V.Y r))) := fun r hr => by
    have := snd_at (zs := zs) hn (V := V) (allK_at hn hr (tabK ((heap0 zs).size + 2 + 2 * n * n) n n 0) V.Y)
    rw [show rwP (h + 2 + 2 * n * n) n r = (heap0 zs).size + 1 + 2 * n * n + (2 * n * r + 2 * n) by unfold rwP; show (heap0 zs).size + 2 + 2 * n * n + 2 * n * r + 2 * n - 1 = _; omega]
    exact this
  have hst : (jtH zs n V n 0)[h + 1 + 2 * n * n]? = some (tabK (h + 2 + 2 * n * n) n n 0) := snd_at (zs := zs) hn (V := V) (k := 0) rfl
  obtain ⟨d1, d2, d3⟩ := near_sc sx sx' (nI_bd hn4 hZ) (by omega)
  have c1 : Fi 4472406533629990549 := by unfold Fi; decide +kernel
  have c2 : Fi 13695778570484766357 := by unfold Fi; decide +kernel
  have j1 : (rnO 14 #[jtT zs n] (jtH zs n V n 0) (fW x) []).ok Try.prog := nrm_ok hn sh x1 (bt := h) (b := h + 1) (by rw [← hX]; exact hpl) hpt (by omega)
  have j2 : (rnO 24 #[jtT zs n] (jtH zs n V n 0) (fW x) []).ok Try.prog := nrm_ok hn sh x2 (bt := h) (b := h + 1) (by rw [← hX]; exact hpl) hpt (by omega)
  have j3 : (rnO 14 #[jtU zs n] (jtH zs n V n 0) (fW x') []).ok Try.prog := nrm_ok hn sh y1 (bt := h + 1 + 2 * n * n) (b := h + 2 + 2 * n * n) hsl hst (by omega)
  unfold jtL
  refine okApp' (okApp' (okApp' (okApp' ⟨knownJt, ?_, trivial⟩ (grid_ok fun i c hi hc => ?_)) ⟨?_, ?_, trivial⟩) (grid_ok fun i c hi hc => ?_))
    ⟨j1, j3, (fc _ rfl _ _).trans ((lss_ix d3 c1.nn).trans (congrArg some (decide_eq_true d1))), (fc _ rfl _ _).trans ((gtr_ix d3 c2.nn).trans (congrArg some (decide_eq_true d2))), j1, j2, same_refl x, trivial⟩
  · rw [← hs]
    exact wi4_ok size 2 (by decide)
  · refine okApp' ?_ ?_
    · cases lg with
      | false => exact trivial
      | true =>
        have h1 := hl rfl
        have h2 : (i + 1) * n ≤ n * n := Nat.mul_le_mul_right _ (by omega)
        rw [Nat.add_mul, Nat.one_mul] at h2
        exact ⟨cmp_ok (decide_eq_true (by omega)), trivial⟩
    · rw [hz]
      have hb : jw (z i c % 21 - 10) = bJ (z i c) := by
        have h1 := Int.emod_nonneg (z i c) (b := 21) (by decide)
        have h2 := Int.emod_lt_of_pos (z i c) (b := 21) (by decide)
        exact wrap_id (by omega) (by omega)
      refine ⟨wi4_ok (z i c) 20 (by decide), ?_, cvF_ok _, quoI_ok _, wi4_ok _ 2 (by decide), cvF_ok _, trivial⟩
      have := subI_ok (z i c % 21)
      rw [hb] at this
      exact this
  · rw [← ep, hm]
    exact wi4_ok u m (by omega)
  · rw [← eq, hm]
    exact wi4_ok v m (by omega)
  · have s1 := swN_lt (n := n) hp hq hi
    have s2 := swN_lt (n := n) hp hq hc
    have g1 : (jtH zs n V i c).toArray[h]? = some (tabK (h + 1) n n 0) := by
      rw [List.getElem?_toArray]
      exact pre_at (zs := zs) (V := V) (k := 0) rfl
    have g2 : (jtH zs n V i c).toArray[rwP (h + 1) n (swN p q i)]? = some (ivB ((List.range n).map (V.X (swN p q i)))) := by
      rw [List.getElem?_toArray]
      have := pre_at (zs := zs) (V := V) (i := i) (c := c) (allK_at hn s1 (tabK ((heap0 zs).size + 1) n n 0) V.X)
      rw [show rwP (h + 1) n (swN p q i) = (heap0 zs).size + (2 * n * swN p q i + 2 * n) by unfold rwP; show (heap0 zs).size + 1 + 2 * n * swN p q i + 2 * n - 1 = _; omega]
      exact this
    rw [tabK_full hn] at g1
    refine ⟨swap_at i p q, ixRow (Int.natCast_nonneg _) (by show (Int.ofNat _) < _; simp; exact s1) rfl, rdRow (l := (List.range n).map (rowSl (h + 1) n)) g1 rfl ?_ rfl, swap_at c p q, ixCel (Int.natCast_nonneg _) (by show (Int.ofNat _) < _; simp; exact s2) rfl, rdCel (l := (List.range n).map (V.X (swN p q i))) g2 rfl ?_ rfl, trivial⟩
    · rw [List.getElem?_map, List.getElem?_range s1]
      rfl
    · rw [hX, List.getElem?_map, List.getElem?_range s2]
      rfl
theorem jacTurns_tells (zs : List Int) (size u v : Int) : Tells 7 #[arg0 zs, .int .i64 size, .int .i64 u, .int .i64 v] (heap0 zs) (.bool true) := by
  have h0 := Int.emod_nonneg size (b := 3) (by decide)
  have h1 := Int.emod_lt_of_pos size (b := 3) (by decide)
  have h : size % 3 = 0 ∨ size % 3 = 1 ∨ size % 3 = 2 := by omega
  rcases h with h | h | h
  · exact jt_of (n := 2) (.inl rfl) nrT_2 sh_2 (jt2 zs) size u v h
  · exact jt_of (n := 3) (.inr (.inl rfl)) nrT_3 sh_3 (jt3 zs) size u v h
  · exact jt_of (n := 4) (.inr (.inr rfl)) nrT_4 sh_4 (jt4 zs) size u v h

end Go.Proofs.Ytdlinjijccnaeaa
