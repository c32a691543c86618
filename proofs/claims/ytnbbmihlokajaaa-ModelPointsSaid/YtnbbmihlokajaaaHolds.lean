/- The law ModelHolds: its questions. -/
import Derived.Test.YtnbbmihlokajaaaModelHo
namespace Go.Proofs.Ytnbbmihlokajaaa
open Go
set_option linter.unusedVariables false
set_option linter.unusedSimpArgs false
set_option maxRecDepth 100000

/-- A number over 2 to the e, no more than so much. -/
def Ex (e B : Nat) (q : Rat) (x : Nat) : Prop := ∃ N : Int, Dy e N x ∧ N.natAbs ≤ B ∧ (N : Rat) = q * ((pw e : Nat) : Rat)
theorem Ex.kR {e B : Nat} {q : Rat} {x : Nat} (h : Ex e B q x) : Fi x ∧ kR x = q * uR := by
  obtain ⟨N, h1, _, h3⟩ := h
  exact ⟨h1.fi, h1.rat h3⟩
theorem Ex.add {e B C : Nat} {q r : Rat} {x y : Nat} (h : Ex e B q x) (h' : Ex e C r y) (hB : B + C < 9007199254740992) (he : e ≤ 1000) : Ex e (B + C) (q + r) (fop .add .f64 x y) := by
  obtain ⟨N, h1, h2, h3⟩ := h
  obtain ⟨M, g1, g2, g3⟩ := h'
  exact ⟨N + M, h1.add g1 (by omega) he, by omega, by rw [Rat.intCast_add, h3, g3, Rat.add_mul]⟩
theorem Ex.sub {e B C : Nat} {q r : Rat} {x y : Nat} (h : Ex e B q x) (h' : Ex e C r y) (hB : B + C < 9007199254740992) (he : e ≤ 1000) : Ex e (B + C) (q - r) (fop .sub .f64 x y) := by
  obtain ⟨N, h1, h2, h3⟩ := h
  obtain ⟨M, g1, g2, g3⟩ := h'
  exact ⟨N - M, h1.sub g1 (by omega) he, by omega, by rw [Rat.intCast_sub, h3, g3]; grind⟩
theorem pw_rat (a b : Nat) : ((pw (a + b) : Nat) : Rat) = ((pw a : Nat) : Rat) * ((pw b : Nat) : Rat) := by rw [← pw_add]; exact Rat.natCast_mul _ _
theorem Ex.mul {e f B C : Nat} {q r : Rat} {x y : Nat} (h : Ex e B q x) (h' : Ex f C r y) (hB : B * C < 9007199254740992) (he : e + f ≤ 1000) : Ex (e + f) (B * C) (q * r) (fop .mul .f64 x y) := by
  obtain ⟨N, h1, h2, h3⟩ := h
  obtain ⟨M, g1, g2, g3⟩ := h'
  have hb : (N * M).natAbs ≤ B * C := by rw [Int.natAbs_mul]; exact Nat.mul_le_mul h2 g2
  exact ⟨N * M, h1.mul g1 (by omega) he, hb, by rw [Rat.intCast_mul, h3, g3, pw_rat]; grind⟩
theorem Ex.up {e B : Nat} {q : Rat} {x : Nat} (h : Ex e B q x) (k : Nat) : Ex (e + k) (B * pw k) q x := by
  obtain ⟨N, h1, h2, h3⟩ := h
  refine ⟨N * pw k, h1.up k, ?_, ?_⟩
  · rw [Int.natAbs_mul, Int.natAbs_natCast]; exact Nat.mul_le_mul_right _ h2
  · rw [Rat.intCast_mul, h3, pw_rat]
    show _ * ((pw k : Nat) : Rat) = _
    grind
theorem Ex.cast {e e' B B' : Nat} {q : Rat} {x : Nat} (h : Ex e B q x) (he : e = e') (hB : B ≤ B') : Ex e' B' q x := by
  subst he
  obtain ⟨N, h1, h2, h3⟩ := h
  exact ⟨N, h1, Nat.le_trans h2 hB, h3⟩
theorem at_ex {σ : Int} {s : Nat} (hσ : σ.natAbs ≤ 4) (hs : Dy 2 σ s) (l : List Int) {E : Nat} (hE : 2 * l.length ≤ E) (hl : l.length ≤ 9) (h : ∀ c ∈ l, c.natAbs ≤ 24) : Ex E (24 * l.length * pw E) (atR ((σ : Rat) / 4) l) (atW s l) := by
  have h1 : Ex (2 * l.length) (24 * l.length * pw (2 * l.length)) (atR ((σ : Rat) / 4) l) (atW s l) := ⟨_, atW_dy hσ hs l hl h, atN_le hσ l h, atN_rat σ l⟩
  have h2 := h1.up (E - 2 * l.length)
  refine h2.cast (by omega) (Nat.le_of_eq ?_)
  rw [Nat.mul_assoc, pw_add]
  congr 2; omega

def wW (t : Int) : Nat := fop .quo .f64 (F t) 4616189618054758400
def wR (t : Int) : P2 := (fop .sub .f64 0 (wW t), wW t)
theorem w_all : ∀ n < 5, Fi (wW (Int.ofNat n)) ∧ kv (wW (Int.ofNat n)) * pw 2 = Int.ofNat n * un ∧ (ix (wW (Int.ofNat n))).natAbs ≤ 1030 * 4503599627370496 ∧ (fop .sub .f64 0 (wW (Int.ofNat n))) < 18446744073709551616 ∧ (ix (fop .sub .f64 0 (wW (Int.ofNat n)))).natAbs ≤ 1030 * 4503599627370496 ∧ kv (fop .sub .f64 0 (wW (Int.ofNat n))) ≤ 0 := by unfold Fi; decide +kernel
theorem w_ex {t : Int} (h0 : 0 ≤ t) (h5 : t < 5) : Ex 2 4 ((t : Rat) / 4) (wW t) ∧ MR 1030 (wR t) ((t : Rat) / 4) := by
  obtain ⟨n, rfl⟩ := Int.eq_ofNat_of_zero_le h0
  obtain ⟨a1, a2, a3, a4, a5, a6⟩ := w_all n (by omega)
  have hd : Dy 2 (n : Int) (wW (n : Int)) := ⟨a1, a2⟩
  have hq : (((n : Int) : Int) : Rat) = ((n : Int) : Rat) / 4 * ((pw 2 : Nat) : Rat) := by
    have : ((pw 2 : Nat) : Rat) = 4 := rfl
    rw [this]; grind
  have hk := hd.rat hq
  refine ⟨⟨_, hd, by omega, hq⟩, ⟨a4, a5⟩, ⟨a1.1, a3⟩, ?_, ?_⟩
  · have h1 : kR (fop .sub .f64 0 (wW (n : Int))) ≤ 0 := by
      have h2 : ((kv (fop .sub .f64 0 (wW (n : Int))) : Int) : Rat) ≤ ((0 : Int) : Rat) := by exact_mod_cast a6
      exact h2
    refine Rat.le_trans h1 (Rat.mul_nonneg ?_ (Rat.le_of_lt uR_pos))
    have : (0 : Rat) ≤ ((n : Int) : Rat) := by exact_mod_cast Int.natCast_nonneg n
    grind
  · exact hk ▸ Rat.le_refl

noncomputable def askHo (f : FuncId) : Nat := if [15, 23, 22, 24, 17, 29, 31, 32, 27, 18, 30, 20].contains f then 1 else 2
def sBlk : Option ABlk := some ⟨#[fV (sW 0), fV (sW 1), fV (sW 2), fV (sW 3), fV (sW 4)], 24, 1, true⟩
noncomputable def opM (f : FuncId) (c d e : Nat → P2) : Obl := .run f #[mW c, mW d] #[] (mW e) #[]
noncomputable def rgM (c : Nat → P2) (X : P2) : Obl := .run 18 #[mW c] #[] (vI X) #[]
noncomputable def hoM (H : AHeap) (c : Nat → P2) (s x : Nat) : Obl := mk2 H 30 #[mW c, .float .f64 s, .float .f64 x] (yes true)
noncomputable def hdL (H0 H1 H2 H3 H4 H5 H6 : AHeap) (va vb : Value) (uc ud fc fd : List Value) (A D : Nat → P2) : List Obl :=
  [kn5O, mk2 H0 23 #[va, .int .i64 9] (slA 3 uc), mk2 H1 23 #[vb, .int .i64 9] (slA 3 ud), mk2 H2 22 #[outV H0.size uc] (slA 24 fc), mk2 H3 24 #[outV H2.size fc] (isV' (mW A)),
   mk2 H4 22 #[outV H1.size ud] (slA 24 fd), mk2 H5 24 #[outV H4.size fd] (isV' (mW D))]
def hN (a : AHeap) (l : List Ans) : AHeap := l.foldl nx a
def hA (uc ud fc fd : List Value) (A D : Nat → P2) : List Ans := [slA 3 uc, slA 3 ud, slA 24 fc, isV' (mW A), slA 24 fd, isV' (mW D)]
noncomputable def hoL (H : AHeap) (va vb : Value) (n rest : Int) (uc ud fc fd : List Value) (A D B1 B2 B3 : Nat → P2) (R1 R2 : P2) (x y : Nat) (k : Nat) (t : Int) : List Obl :=
  let H1 := nx H (slA 3 uc)
  let H2 := nx H1 (slA 3 ud)
  let H3 := nx H2 (slA 24 fc)
  let H4 := nx H3 (isV' (mW A))
  let H5 := nx H4 (slA 24 fd)
  let H6 := nx H5 (isV' (mW D))
  let H7 := pushL H6 [blkW (mW (setR A (wR t))), blkW (mW D), sBlk]
  let H8 := nx H7 (isV' (fV x))
  let H9 := nx H8 (isV' (fV y))
  let H10 := nx H9 (yes true)
  let H11 := nx H10 (yes true)
  let ux := fop .add .f64 x (wW t)
  hdL H H1 H2 H3 H4 H5 H6 va vb uc ud fc fd A D ++ [wi5O rest 5 t, wi5O n 5 (Int.ofNat k), mk2 H7 29 #[outV H.size uc, .float .f64 (sW k)] (isV' (fV x)), mk2 H8 29 #[outV H1.size ud, .float .f64 (sW k)] (isV' (fV y)),
   opM 31 (setR A (wR t)) D B1, hoM H9 B1 (sW k) (fop .add .f64 ux y), opM 32 (setR A (wR t)) D B2, hoM H10 B2 (sW k) (fop .sub .f64 ux y), opM 27 (setR A (wR t)) D B3, hoM H11 B3 (sW k) (fop .mul .f64 ux y),
   rgM (setR A (wR t)) R1, inR ux R1 true, rgM D R2, inR y R2 true]
def hoS (uc ud fc fd : List Value) (A D B1 B2 B3 : Nat → P2) (R1 R2 : P2) (x y : Nat) (k : Nat) (t : Int) : List Ans :=
  [yes true, slA 3 uc, slA 3 ud, slA 24 fc, isV' (mW A), slA 24 fd, isV' (mW D), isI t, isI (Int.ofNat k), isV' (fV x), isV' (fV y), isV' (mW B1), yes true, isV' (mW B2), yes true, isV' (mW B3), yes true, isV' (vI R1), yes true, isV' (vI R2), yes true]
def HoRun (H : AHeap) (k : Nat) (uc ud fc fd : List Value) : Prop := ∀ (va vb : Value) (n rest : Int) (A D B1 B2 B3 : Nat → P2) (R1 R2 : P2) (x y : Nat) (t : Int),
  (askN askHo noC 12 6 #[va, vb, .int .i64 n, .int .i64 rest] H (hoS uc ud fc fd A D B1 B2 B3 R1 R2 x y k t)).map (fun r => (r.1, r.2.2)) = some (.bool true, hoL H va vb n rest uc ud fc fd A D B1 B2 B3 R1 R2 x y k t)
/-- All ways, in one memory. -/
def HoRuns (H : AHeap) : Prop := ∀ k : Nat, k < 5 → (∀ (c0 d0 f0 g0 : Value) (c d f g : List Value), HoRun H k (c0 :: c) (d0 :: d) (f0 :: f) (g0 :: g)) ∧ (∀ (c0 f0 : Value) (c f : List Value), HoRun H k (c0 :: c) [] (f0 :: f) []) ∧ (∀ (d0 g0 : Value) (d g : List Value), HoRun H k [] (d0 :: d) [] (g0 :: g)) ∧ HoRun H k [] [] [] []

theorem sR_eq (k : Nat) : ((sN k : Int) : Rat) / 4 = sR k := rfl
theorem sN_le (k : Nat) : (sN k).natAbs ≤ 4 := by
  unfold sN; split <;> decide
theorem wi5_5 (z : Int) : Runs Try.prog 17 #[.int .i64 z, .int .i64 5] #[] (.int .i64 (z % 5)) #[] := within5 z 4 (by decide)
theorem wZs_sm (m : Nat) (zs : List Int) : (∀ c ∈ (zs.take m).map wZ, c.natAbs ≤ 4) ∧ ((zs.take m).map wZ).length ≤ m := by
  refine ⟨fun c hc => ?_, by rw [List.length_map]; exact List.length_take_le _ _⟩
  obtain ⟨z, _, rfl⟩ := List.mem_map.1 hc
  exact wZ_sm z

end Go.Proofs.Ytnbbmihlokajaaa
