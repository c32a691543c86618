/- The laws ModelHolds, ModelSquares, ModelDivides: what their own function 'holds' tells; the Models' operations as contracts. -/
import Derived.Test.YtnbbmihlokajaaaModelSl
import Derived.Test.YtnbbmihlokajaaaModelE
import Derived.Test.YtnbbmihlokajaaaDyad
namespace Go.Proofs.Ytnbbmihlokajaaa
open Go
set_option linter.unusedVariables false
set_option linter.unusedSimpArgs false
set_option maxRecDepth 100000

theorem addM_runs (c d : Nat → P2) : Runs Try.prog 31 #[mW c, mW d] #[] (mW (addM c d)) #[] := quietB base1_ok (add_c c d) trivial rfl rfl
theorem subM_runs (c d : Nat → P2) : Runs Try.prog 32 #[mW c, mW d] #[] (mW (subM c d)) #[] := quietB base1_ok (sub_c c d) trivial rfl rfl
theorem mulM_runs (c d : Nat → P2) : Runs Try.prog 27 #[mW c, mW d] #[] (mW (mulM c d)) #[] := quietB base1_ok (mul_c c d) trivial rfl rfl
theorem rangeM_runs (c : Nat → P2) : Runs Try.prog 18 #[mW c] #[] (vI (rangeM c)) #[] := quietB base1_ok (range_c c) trivial rfl rfl

noncomputable def askIn (f : FuncId) : Nat := bif f == 20 then 1 else 0
noncomputable def inR (x : Nat) (X : P2) (t : Bool) : Obl := .run 20 #[.float .f64 x, vI X] #[] (.bool t) #[]
theorem holds_c (c : Nat → P2) (s x : Nat) (t : Bool) : (askB base1 askIn noC 12 30 #[mW c, .float .f64 s, .float .f64 x] #[] [yes t]).map (fun r => (r.1, r.2.2)) = some (.bool t, [inR x (heldM c (s, s)) t]) := by kernel_rfl
theorem in_of_mr {n : Nat} {X : P2} {x : Rat} {v : Nat} (h : MR n X x) (hn : n < 2047) (hf : Fi v) (hv : kR v = x * uR) : Runs Try.prog 20 #[.float .f64 v, vI X] #[] (.bool true) #[] := by
  obtain ⟨h1, h2⟩ := h.holds hn hv
  have r := h.rt hn
  exact in_yesR hf.nn r.l r.h h1 h2
theorem holds_runs {n : Nat} {c : Nat → P2} {s x : Nat} {q y : Rat} (h : Ev n q c y) (hn : 1023 ≤ n) (hn2 : n < 2000) (hs : MR 1023 (s, s) q) (hf : Fi x) (hx : kR x = y * uR) : Runs Try.prog 30 #[mW c, .float .f64 s, .float .f64 x] #[] (.bool true) #[] :=
  quietB base1_ok (holds_c c s x true) ⟨in_of_mr (h.held hn hn2 hs) (by omega) hf hx, trivial⟩ rfl rfl

/-! the places -/
def sW (k : Nat) : Nat := match k with | 0 => 0 | 1 => moneW | 2 => 13826050856027422720 | 3 => 13821547256400052224 | _ => 13828302655841107968
def sN (k : Nat) : Int := match k with | 0 => 0 | 1 => -4 | 2 => -2 | 3 => -1 | _ => -3
def sR (k : Nat) : Rat := (sN k : Rat) / 4
theorem s_fi : ∀ k < 5, Fi (sW k) := by unfold Fi; decide +kernel
theorem s_kv : ∀ k < 5, kv (sW k) * pw 2 = sN k * un := by decide +kernel
theorem s_bd : ∀ k < 5, (ix (sW k)).natAbs ≤ 1023 * 4503599627370496 := by decide +kernel
theorem s_dy {k : Nat} (hk : k < 5) : Dy 2 (sN k) (sW k) := ⟨s_fi k hk, s_kv k hk⟩
theorem sR_in {k : Nat} (hk : k < 5) : -1 ≤ sR k ∧ sR k ≤ 0 := by
  have : k = 0 ∨ k = 1 ∨ k = 2 ∨ k = 3 ∨ k = 4 := by omega
  rcases this with rfl | rfl | rfl | rfl | rfl <;> simp only [sR, sN] <;> constructor <;> decide +kernel
theorem s_kR {k : Nat} (hk : k < 5) : kR (sW k) = sR k * uR := (s_dy hk).rat (by
  have : ((pw 2 : Nat) : Rat) = 4 := rfl
  rw [this]
  unfold sR
  grind)
theorem s_mr {k : Nat} (hk : k < 5) : MR 1023 (sW k, sW k) (sR k) := MR.point ⟨(s_fi k hk).1, s_bd k hk⟩ (s_kR hk)

/-! steps of a law's own walk -/
def slA (t : TypeId) (us : List Value) : Ans := ⟨fun n => outV n us, outB t us⟩
def isV' (v : Value) : Ans := ⟨fun _ => v, []⟩
noncomputable def mk2 (H : AHeap) (g : FuncId) (args : Array Value) (a : Ans) : Obl := .run g args (froze H) (a.v H.size) (froze H ++ a.bs.toArray)
def nx (H : AHeap) (a : Ans) : AHeap := thaw H (froze H ++ a.bs.toArray)
def pushL (H : AHeap) (l : List (Option ABlk)) : AHeap := (H.toList ++ l).toArray
theorem HandV.next {H : AHeap} {zs : List Value} {v : Value} (h : HandV H zs v) (a : Ans) : HandV (nx H a) zs v := h.thaw _
theorem HandV.push {H : AHeap} {zs : List Value} {v : Value} (h : HandV H zs v) (l : List (Option ABlk)) : HandV (pushL H l) zs v := by
  rcases h with h | ⟨b, B, h1, h2, h3, h4⟩
  · exact .inl h
  · refine .inr ⟨b, B, h1, h2, ?_, h4⟩
    have hb := (Array.getElem?_eq_some_iff.1 h3).1
    unfold pushL
    rw [List.getElem?_toArray, List.getElem?_append_left (by simpa using hb), Array.getElem?_toList]
    exact h3
theorem HandV.new (H : AHeap) (t : TypeId) (us : List Value) : HandV (nx H (slA t us)) us (outV H.size us) := by
  cases us with
  | nil => exact .inl ⟨rfl, .inr rfl⟩
  | cons u l =>
    refine .inr ⟨H.size, ⟨(u :: l).toArray, t, 1, true⟩, by simp, rfl, ?_, rfl⟩
    unfold nx
    rw [thaw_get (by rw [Array.size_append, froze_size]; omega)]
    rw [if_neg (by omega), Array.getElem?_append_right (by rw [froze_size]; exact Nat.le_refl _), froze_size, Nat.sub_self]
    rfl
theorem mk2_sl {H : AHeap} {g : FuncId} {args : Array Value} {t : TypeId} {us : List Value} (h : Runs Try.prog g args (froze H) (outV (froze H).size us) (froze H ++ (outB t us).toArray)) : (mk2 H g args (slA t us)).ok Try.prog := by
  rw [froze_size] at h; exact h
theorem mk2_v {H : AHeap} {g : FuncId} {args : Array Value} {v : Value} (h : Runs Try.prog g args (froze H) v (froze H)) : (mk2 H g args (isV' v)).ok Try.prog := by
  show Runs Try.prog g args (froze H) v (froze H ++ #[])
  rw [Array.append_empty]; exact h
theorem wZ_cs (m : Nat) (zs : List Int) : ((zs.take m).map fun z => iV (wZ z)) = ((zs.take m).map wZ).map iV := by rw [List.map_map]; rfl
theorem fF_cs (cs : List Int) : (cs.map fun z => fV (F z)) = (cs.map F).map fV := by rw [List.map_map]; rfl
theorem whole9_2 {zs : List Int} {H : AHeap} {va : Value} (hh : HandV H (zs.map iV) va) : (mk2 H 23 #[va, .int .i64 9] (slA 3 (((zs.take 9).map wZ).map iV))).ok Try.prog := by
  have := whole9_runs (froze_all H) hh.froze
  rw [wZ_cs] at this
  exact mk2_sl this
theorem whole5_2 {zs : List Int} {H : AHeap} {va : Value} (hh : HandV H (zs.map iV) va) : (mk2 H 23 #[va, .int .i64 5] (slA 3 (((zs.take 5).map wZ).map iV))).ok Try.prog := by
  have := whole5_runs (froze_all H) hh.froze
  rw [wZ_cs] at this
  exact mk2_sl this
theorem whole4_2 {zs : List Int} {H : AHeap} {va : Value} (hh : HandV H (zs.map iV) va) : (mk2 H 23 #[va, .int .i64 4] (slA 3 (((zs.take 4).map wZ).map iV))).ok Try.prog := by
  have := whole4_runs (froze_all H) hh.froze
  rw [wZ_cs] at this
  exact mk2_sl this
theorem floats_2 {cs : List Int} {H : AHeap} {va : Value} (hl : cs.length ≤ 9) (hh : HandV H (cs.map iV) va) : (mk2 H 22 #[va] (slA 24 ((cs.map F).map fV))).ok Try.prog := by
  have := floats_runs hl (froze_all H) hh.froze
  rw [fF_cs] at this
  exact mk2_sl this
theorem of_2 {fs : List Nat} {H : AHeap} {va : Value} (hl : fs.length ≤ 9) (hh : HandV H (fs.map fV) va) : (mk2 H 24 #[va] (isV' (mW (ofM fs)))).ok Try.prog := mk2_v (of_runs hl (froze_all H) hh.froze)
theorem at_2 {s : Nat} {cs : List Int} {H : AHeap} {va : Value} (hl : cs.length ≤ 9) (hh : HandV H (cs.map iV) va) : (mk2 H 29 #[va, .float .f64 s] (isV' (.float .f64 (atW s cs)))).ok Try.prog := mk2_v (at_runs hl (froze_all H) hh.froze)

/-! what a polynomial of small whole numbers is at s, exactly -/
def atR (s : Rat) : List Int → Rat
  | [] => 0
  | c :: l => atR s l * s + (c : Rat)
def atN (σ : Int) : List Int → Int
  | [] => 0
  | c :: l => atN σ l * σ + c * pw (2 * l.length + 2)
theorem atN_le {σ : Int} (hs : σ.natAbs ≤ 4) : ∀ l : List Int, (∀ c ∈ l, c.natAbs ≤ 24) → (atN σ l).natAbs ≤ 24 * l.length * pw (2 * l.length)
  | [], _ => by simp [atN]
  | c :: l, h => by
    have ih := atN_le hs l fun x hx => h x (List.mem_cons_of_mem _ hx)
    have hc := h c (List.mem_cons_self ..)
    have h1 : (atN σ l * σ).natAbs ≤ 24 * l.length * pw (2 * l.length) * 4 := by rw [Int.natAbs_mul]; exact Nat.mul_le_mul ih hs
    have e : pw (2 * l.length + 2) = pw (2 * l.length) * 4 := (pw_add _ 2).symm
    have h2 : (c * (pw (2 * l.length + 2) : Int)).natAbs ≤ 24 * (pw (2 * l.length) * 4) := by rw [Int.natAbs_mul, Int.natAbs_natCast, e]; exact Nat.mul_le_mul_right _ hc
    have h3 : (atN σ (c :: l)).natAbs ≤ (atN σ l * σ).natAbs + (c * (pw (2 * l.length + 2) : Int)).natAbs := Int.natAbs_add_le _ _
    have e2 : 2 * (c :: l).length = 2 * l.length + 2 := by simp only [List.length_cons]; omega
    rw [e2, e, List.length_cons]
    refine Nat.le_trans h3 (Nat.le_trans (Nat.add_le_add h1 h2) (Nat.le_of_eq ?_))
    generalize pw (2 * l.length) = p
    grind
theorem pw_18 : pw 18 = 262144 := rfl
theorem atN_sm {σ : Int} (hs : σ.natAbs ≤ 4) {l : List Int} (hl : l.length ≤ 9) (h : ∀ c ∈ l, c.natAbs ≤ 24) : (atN σ l).natAbs ≤ 56623104 := by
  have h1 := atN_le hs l h
  have h2 : pw (2 * l.length) ≤ 262144 := by rw [← pw_18]; exact pw_le (by omega)
  exact Nat.le_trans h1 (Nat.mul_le_mul (show 24 * l.length ≤ 216 by omega) h2)
theorem atW_dy {σ : Int} {s : Nat} (hσ : σ.natAbs ≤ 4) (hs : Dy 2 σ s) : ∀ l : List Int, l.length ≤ 9 → (∀ c ∈ l, c.natAbs ≤ 24) → Dy (2 * l.length) (atN σ l) (atW s l)
  | [], _, _ => ⟨fi_zero.1, by
      have : kv 0 = 0 := rfl
      show kv 0 * _ = 0 * _
      rw [this, Int.zero_mul, Int.zero_mul]⟩
  | c :: l, hl, h => by
    simp only [List.length_cons] at hl
    have hc := h c (List.mem_cons_self ..)
    have hl' : ∀ x ∈ l, x.natAbs ≤ 24 := fun x hx => h x (List.mem_cons_of_mem _ hx)
    have ih := atW_dy hσ hs l (by omega) hl'
    have b1 := atN_sm hσ (show l.length ≤ 9 by omega) hl'
    have b2 := atN_sm (l := c :: l) hσ (by simp only [List.length_cons]; omega) h
    have m1 : (atN σ l * σ).natAbs ≤ 56623104 * 4 := by rw [Int.natAbs_mul]; exact Nat.mul_le_mul b1 hσ
    have d1 := ih.mul hs (by omega) (by omega)
    have d2 := ((Dy.F (n := c) (by omega)).up (2 * l.length + 2)).cast (e' := 2 * l.length + 2) (by omega) rfl
    have b3 : (atN σ l * σ + c * (pw (2 * l.length + 2) : Int)).natAbs ≤ 56623104 := b2
    exact (d1.add d2 (by omega) (by omega)).cast (by simp only [List.length_cons]; omega) rfl
theorem pw4 (k : Nat) : ((pw (2 * k) : Nat) : Rat) = 4 ^ k := by
  induction k with
  | zero => rfl
  | succ k ih =>
    have e : pw (2 * (k + 1)) = pw (2 * k) * 4 := (pw_add (2 * k) 2).symm
    rw [e, Rat.pow_succ, ← ih]
    exact Rat.natCast_mul _ _
theorem atN_rat (σ : Int) : ∀ l : List Int, ((atN σ l : Int) : Rat) = atR ((σ : Rat) / 4) l * ((pw (2 * l.length) : Nat) : Rat)
  | [] => by simp only [atN, atR, Rat.zero_mul]; rfl
  | c :: l => by
    have ih := atN_rat σ l
    have e2 : 2 * (c :: l).length = 2 * (l.length + 1) := by simp only [List.length_cons]
    have e3 : 2 * l.length + 2 = 2 * (l.length + 1) := by omega
    have e : ((atN σ (c :: l) : Int) : Rat) = ((atN σ l : Int) : Rat) * (σ : Rat) + (c : Rat) * ((pw (2 * (l.length + 1)) : Nat) : Rat) := by
      simp only [atN, e3]
      rw [Rat.intCast_add, Rat.intCast_mul, Rat.intCast_mul]
      rfl
    rw [e, e2, ih, pw4, pw4, Rat.pow_succ]
    simp only [atR]
    grind
theorem atW_kR {σ : Int} {s : Nat} (hσ : σ.natAbs ≤ 4) (hs : Dy 2 σ s) (l : List Int) (hl : l.length ≤ 9) (h : ∀ c ∈ l, c.natAbs ≤ 24) : Fi (atW s l) ∧ kR (atW s l) = atR ((σ : Rat) / 4) l * uR :=
  ⟨(atW_dy hσ hs l hl h).fi, (atW_dy hσ hs l hl h).rat (atN_rat σ l)⟩

/-- The rows of a Model of whole numbers. -/
def getZ : List Int → Nat → Int
  | [], _ => 0
  | x :: _, 0 => x
  | _ :: l, n + 1 => getZ l n
theorem pS_at (s : Rat) : ∀ l : List Int, l.length ≤ 9 → pS (fun k => ((getZ l k : Int) : Rat)) s = atR s l
  | [], _ => by simp only [pS, getZ, atR]; grind
  | [c0], _ => by simp only [pS, getZ, atR]; grind
  | [c0, c1], _ => by simp only [pS, getZ, atR]; grind
  | [c0, c1, c2], _ => by simp only [pS, getZ, atR]; grind
  | [c0, c1, c2, c3], _ => by simp only [pS, getZ, atR]; grind
  | [c0, c1, c2, c3, c4], _ => by simp only [pS, getZ, atR]; grind
  | [c0, c1, c2, c3, c4, c5], _ => by simp only [pS, getZ, atR]; grind
  | [c0, c1, c2, c3, c4, c5, c6], _ => by simp only [pS, getZ, atR]; grind
  | [c0, c1, c2, c3, c4, c5, c6, c7], _ => by simp only [pS, getZ, atR]; grind
  | [c0, c1, c2, c3, c4, c5, c6, c7, c8], _ => by simp only [pS, getZ, atR]; grind
  | _ :: _ :: _ :: _ :: _ :: _ :: _ :: _ :: _ :: _ :: _, h => by simp only [List.length_cons] at h; omega
theorem F_bd {n : Int} (h : n.natAbs ≤ 64) : Bd 1030 (F n) ∧ kR (F n) = (n : Rat) * uR := by
  refine ⟨⟨(F_fi (by omega)).1.1, ?_⟩, (Dy.F (n := n) (by omega)).rat (by
    have : ((pw 0 : Nat) : Rat) = 1 := rfl
    rw [this, Rat.mul_one])⟩
  have hr := F_rd n
  refine hr.2.abs (by decide) (by omega) ?_
  have e0 : ((un : Nat) : Int).natAbs = un := Int.natAbs_natCast _
  have e : pw (51 + 1030) = pw 7 * un := by unfold un; rw [pw_add]
  rw [rg_bd (by decide), Int.natAbs_mul, Nat.mul_one, e0, e]
  exact Nat.mul_le_mul_right _ (Nat.le_trans h (by decide))
theorem getF_F : ∀ (l : List Int) (k : Nat), getF (l.map F) k = F (getZ l k) ∨ (getF (l.map F) k = 0 ∧ getZ l k = 0)
  | [], k => .inr ⟨rfl, rfl⟩
  | _ :: _, 0 => .inl rfl
  | _ :: l, k + 1 => getF_F l k
theorem getZ_sm {B : Nat} : ∀ (l : List Int), (∀ c ∈ l, c.natAbs ≤ B) → ∀ k, (getZ l k).natAbs ≤ B
  | [], _, _ => Nat.zero_le _
  | c :: _, h, 0 => h c (List.mem_cons_self ..)
  | _ :: l, h, k + 1 => getZ_sm l (fun x hx => h x (List.mem_cons_of_mem _ hx)) k
theorem mr_zero {n : Nat} (hn : 1 ≤ n) : MR n ((0, 0) : P2) 0 := MR.mono (n := 1) ⟨bd_zero, bd_zero, by rw [Rat.zero_mul]; exact kR_zero ▸ Rat.le_refl, by rw [Rat.zero_mul]; exact kR_zero ▸ Rat.le_refl⟩ hn
/-- A Model of whole numbers, with what is left. -/
def setR (c : Nat → P2) (r : P2) : Nat → P2 := fun k => bif Nat.ble k 8 then c k else r
theorem ev_of {l : List Int} (hl : l.length ≤ 9) (h : ∀ c ∈ l, c.natAbs ≤ 64) {r : P2} {ρ : Rat} (hr : MR 1030 r ρ) (s : Rat) : Ev 1030 s (setR (ofM (l.map F)) r) (atR s l + ρ) := by
  refine ⟨fun k => ((getZ l k : Int) : Rat), ρ, ⟨fun k hk => ?_, ?_⟩, by rw [pS_at s l hl]⟩
  · have e : setR (ofM (l.map F)) r k = (getF (l.map F) k, getF (l.map F) k) := by unfold setR ofM; rw [Nat.ble_eq_true_of_le hk]; rfl
    rw [e]
    rcases getF_F l k with g | ⟨g, g2⟩
    · rw [g]
      obtain ⟨b1, b2⟩ := F_bd (getZ_sm l h k)
      exact MR.point b1 b2
    · rw [g, g2]
      exact mr_zero (by decide)
  · have e : setR (ofM (l.map F)) r 9 = r := by unfold setR; rw [show Nat.ble 9 8 = false from rfl]; exact cond_false _ _
    rw [e]; exact hr
theorem setR_of (fs : List Nat) : setR (ofM fs) (0, 0) = ofM fs := by
  funext k
  unfold setR ofM
  cases Nat.ble k 8 <;> rfl
theorem ev_of0 {l : List Int} (hl : l.length ≤ 9) (h : ∀ c ∈ l, c.natAbs ≤ 64) (s : Rat) : Ev 1030 s (ofM (l.map F)) (atR s l) := by
  have := ev_of hl h (mr_zero (n := 1030) (by decide)) s
  rw [setR_of, Rat.add_zero] at this
  exact this
theorem wZ_sm (z : Int) : (wZ z).natAbs ≤ 4 := by
  have h1 := Int.emod_nonneg z (b := 9) (by decide)
  have h2 := Int.emod_lt_of_pos z (b := 9) (by decide)
  unfold wZ iw5
  rw [wrap_id (by omega) (by omega)]
  omega

end Go.Proofs.Ytnbbmihlokajaaa
