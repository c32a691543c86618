/- NordScaleN / NordScaleR / NordScaleL: several texts in one. -/
import Derived.Test.YtclphdmaedpipaaBound
import Derived.Test.YtclphdmaedpipaaLdexp
import Derived.Test.YtclphdmaedpipaaNordLeaf
import Derived.Test.YtclphdmaedpipaaNordSumsD
/-!  Whole numbers times powers of two as floats: what fp.Scale makes of them; a polynomial whose rows are doubled so, at half the place, is the same. -/
namespace Go.Proofs.Ytclphdmaedpipaa
open Go
set_option linter.unusedVariables false
set_option linter.unusedSimpArgs false
set_option maxRecDepth 100000

/-- x is N times 2 to the a. -/
structure Sc (N a : Int) (x : Nat) : Prop where
  fi : Fi x
  eq : kv x * pw 100 = N * pw (1174 + a).toNat

theorem Sc.same {N a : Int} {x y : Nat} (h : Sc N a x) (h' : Sc N a y) : ix x = ix y :=
  rk_inj (Int.eq_of_mul_eq_mul_right (Int.ne_of_gt (pwi_pos 100)) (h.eq.trans h'.eq.symm))
theorem Sc.zero {a b : Int} {x : Nat} (h : Sc 0 a x) : Sc 0 b x := ⟨h.fi, by rw [h.eq, Int.zero_mul, Int.zero_mul]⟩
theorem Sc.cast {N a b : Int} {x : Nat} (h : Sc N a x) (e : N = 0 ∨ a = b) : Sc N b x := by
  rcases e with rfl | rfl
  · exact h.zero
  · exact h
theorem Sc.of {N : Int} {x : Nat} (h : Dy 0 N x) : Sc N 0 x := ⟨h.fi, by
  have e := h.eq
  have e1 : ((pw 0 : Nat) : Int) = 1 := rfl
  rw [e1, Int.mul_one] at e
  rw [e, show (1174 + (0 : Int)).toNat = 1074 + 100 from rfl, pw_addI, Int.mul_assoc]
  rfl⟩
theorem Sc.dy {N : Int} {j x : Nat} (h : Sc N j x) : Dy 0 (N * pw j) x := ⟨h.fi, by
  have e := h.eq
  have e1 : ((pw 0 : Nat) : Int) = 1 := rfl
  rw [e1, Int.mul_one]
  rw [show (1174 + (j : Int)).toNat = j + 1074 + 100 by omega, pw_addI, pw_addI, ← Int.mul_assoc, ← Int.mul_assoc] at e
  exact Int.eq_of_mul_eq_mul_right (Int.ne_of_gt (pwi_pos 100)) e⟩

theorem kv_W3 {s e l : Nat} (hs : s < 2) (he : e < 2048) (hl : l < 4503599627370496) (h0 : 0 < e) : kv (W3 s e l) = (if s = 0 then 1 else -1) * (((4503599627370496 + l : Nat) : Int) * (pw (e - 1) : Nat)) := by
  have e1 : 4503599627370496 * e + l = (e - 1) * 4503599627370496 + (4503599627370496 + l) := by omega
  have e2 := rg_at (E := e - 1) (k := 4503599627370496 + l) (.inr (by omega)) (by omega)
  rw [← e1] at e2
  have e3 : ((rg (4503599627370496 * e + l) : Nat) : Int) = ((4503599627370496 + l : Nat) : Int) * (pw (e - 1) : Nat) := by
    rw [e2]; exact Int.natCast_mul ..
  unfold kv
  rw [ix_W3 hs he hl]
  by_cases c : s = 0
  · rw [if_pos c, if_pos c, rk_nat, e3, Int.one_mul]
  · rw [if_neg c, if_neg c, rk_neg, rk_nat, e3, Int.neg_mul, Int.one_mul]
theorem pw_lt_iff {a b : Nat} : pw a < pw b ↔ a < b := Nat.pow_lt_pow_iff_right (by decide)

noncomputable def askSc (f : FuncId) : Nat := if f == 55 then 1 else 2
theorem scale_came (x y : Nat) (k : Int) : (askN askSc noC 12 45 #[.float .f64 x, .int .i64 k] #[] [isG y]).map (fun r => (r.1, r.2.2)) = some (.float .f64 y, [.run 55 #[.float .f64 x, .int .i64 k] #[] (.float .f64 y) #[]]) := by kernel_rfl
theorem scale_by {x y : Nat} {k : Int} (h : Runs Try.prog 55 #[.float .f64 x, .int .i64 k] #[] (.float .f64 y) #[]) : Runs Try.prog 45 #[fW x, .int .i64 k] #[] (fW y) #[] := by
  exact quiet_of' (scale_came x y k) ⟨h, trivial⟩ rfl rfl

theorem Sc.scale {N a k : Int} {x : Nat} (h : Sc N a x) (hN : N.natAbs ≤ 200) (ha : N = 0 ∨ -100 ≤ a ∧ a ≤ 800 ∧ -100 ≤ a + k ∧ a + k ≤ 800) : ∃ y, Runs Try.prog 45 #[fW x, .int .i64 k] #[] (fW y) #[] ∧ Sc N (a + k) y := by
  by_cases h0 : N = 0
  · subst h0
    have e := h.eq
    rw [Int.zero_mul] at e
    have e2 : kv x = 0 := by
      rcases Int.mul_eq_zero.1 e with e | e
      · exact e
      · exact absurd e (Int.ne_of_gt (pwi_pos 100))
    have e3 : ix x = 0 := rk_inj (e2.trans rk_zero.symm)
    exact ⟨x, scale_by (ldexp_zero k h.fi.nn e3), h.zero⟩
  · have ha := ha.resolve_left h0
    obtain ⟨s, e, l, hs, he, hl, rfl⟩ := W3_fields x h.fi.1
    have hfi := h.fi
    have he2 : e < 2047 := by
      have h2 := hfi.2
      rw [ix_W3 hs he hl] at h2
      split at h2 <;> omega
    obtain ⟨A, hA⟩ : ∃ A : Nat, A = (1174 + a).toNat := ⟨_, rfl⟩
    have heq := h.eq
    rw [← hA] at heq
    have he0 : 0 < e := by
      rcases Nat.eq_zero_or_pos e with rfl | hp
      · exfalso
        have e1 : (kv (W3 s 0 l)).natAbs ≤ 4503599627370496 := by
          unfold kv
          rw [rk_abs, ix_W3 hs he hl]
          have : (if s = 0 then ((4503599627370496 * 0 + l : Nat) : Int) else -((4503599627370496 * 0 + l : Nat) : Int)).natAbs = l := by split <;> omega
          rw [this]
          unfold rg
          rw [if_pos hl]
          omega
        have e2 := congrArg Int.natAbs heq
        rw [Int.natAbs_mul, Int.natAbs_mul, Int.natAbs_natCast, Int.natAbs_natCast] at e2
        have e3 : 1 * pw A ≤ N.natAbs * pw A := Nat.mul_le_mul_right _ (by omega)
        have e4 : (kv (W3 s 0 l)).natAbs * pw 100 ≤ pw 52 * pw 100 := Nat.mul_le_mul_right _ e1
        rw [pw_add] at e4
        have e5 : pw 152 < pw A := pw_lt_iff.2 (by omega)
        have e6 : pw (52 + 100) = pw 152 := rfl
        omega
      · exact hp
    have hk := kv_W3 hs he hl he0
    have hab : (4503599627370496 + l) * pw (e - 1) * pw 100 = N.natAbs * pw A := by
      have e2 := congrArg Int.natAbs heq
      rw [hk, Int.natAbs_mul, Int.natAbs_mul, Int.natAbs_mul, Int.natAbs_mul, Int.natAbs_natCast, Int.natAbs_natCast, Int.natAbs_natCast, Int.natAbs_natCast] at e2
      have e3 : (if s = 0 then (1 : Int) else -1).natAbs = 1 := by split <;> rfl
      rw [e3, Nat.one_mul] at e2
      exact e2
    have b1 : pw (52 + (e - 1) + 100) ≤ N.natAbs * pw A := by
      rw [← hab, ← pw_add, ← pw_add]
      exact Nat.mul_le_mul_right _ (Nat.mul_le_mul_right _ (show pw 52 ≤ _ by have : pw 52 = 4503599627370496 := rfl; omega))
    have b2 : N.natAbs * pw A < pw (53 + (e - 1) + 100) := by
      rw [← hab, ← pw_add, ← pw_add]
      exact Nat.mul_lt_mul_of_pos_right (Nat.mul_lt_mul_of_pos_right (show _ < pw 53 by have : pw 53 = 9007199254740992 := rfl; omega) (pw_pos _)) (pw_pos _)
    have b3 : N.natAbs * pw A ≤ pw (8 + A) := by
      rw [← pw_add]
      exact Nat.mul_le_mul_right _ (show _ ≤ pw 8 by have : pw 8 = 256 := rfl; omega)
    have b4 : pw A ≤ N.natAbs * pw A := by
      have := Nat.mul_le_mul_right (pw A) (show 1 ≤ N.natAbs by omega)
      omega
    have c1 : A < 53 + (e - 1) + 100 := pw_lt_iff.1 (Nat.lt_of_le_of_lt b4 b2)
    have c2 : 52 + (e - 1) + 100 ≤ 8 + A := by
      rcases Nat.lt_or_ge (8 + A) (52 + (e - 1) + 100) with c | c
      · have := pw_lt_iff.2 c; omega
      · exact c
    obtain ⟨j, hj⟩ : ∃ j : Nat, k + e = j := ⟨(k + e).toNat, by omega⟩
    obtain ⟨r, r1, r2, r3⟩ := ldexp_runs (s := s) (l := l) (k := k) hs he2 hl he0 (by omega) (by omega) hj (by omega) (by omega)
    refine ⟨r, scale_by r1, r2, ?_⟩
    have hkr : kv r = kv (W3 s j l) := congrArg rk r3
    have hk2 := kv_W3 hs (e := j) (by omega) hl (by omega)
    obtain ⟨B, hB⟩ : ∃ B : Nat, B = (1174 + (a + k)).toNat := ⟨_, rfl⟩
    rw [← hB, hkr]
    have x1 : pw (j - 1) * pw A = pw B * pw (e - 1) := by rw [pw_add, pw_add]; congr 1; omega
    have x2 : ((pw (j - 1) : Nat) : Int) * (pw A : Nat) = (pw B : Nat) * (pw (e - 1) : Nat) := by exact_mod_cast x1
    refine Int.eq_of_mul_eq_mul_right (Int.ne_of_gt (pwi_pos (e - 1))) ?_
    rw [hk] at heq
    rw [hk2]
    generalize (if s = 0 then (1 : Int) else -1) = σ at *
    generalize ((4503599627370496 + l : Nat) : Int) = M at *
    generalize ((pw (j - 1) : Nat) : Int) = pj at *
    generalize ((pw (e - 1) : Nat) : Int) = pe at *
    generalize ((pw A : Nat) : Int) = pA at *
    generalize ((pw B : Nat) : Int) = pB at *
    generalize ((pw 100 : Nat) : Int) = pc at *
    calc σ * (M * pj) * pc * pe = σ * (M * pe) * pc * pj := by grind
      _ = N * (pj * pA) := by rw [heq]; grind
      _ = N * pB * pe := by rw [x2]; grind

/-! a float by a power of two -/
theorem Dy.quo {e k : Nat} {N : Int} {x y : Nat} (h : Dy e N x) (hy : Dy 0 (pw k) y) (hN : N.natAbs < 9007199254740992) (he : e + k ≤ 1000) : Dy (e + k) N (fop .quo .f64 x y) := by
  have ey := hy.eq
  have e1 : ((pw 0 : Nat) : Int) = 1 := rfl
  rw [e1, Int.mul_one] at ey
  have hp : 0 < kv y := by rw [ey]; exact Int.mul_pos (pwi_pos k) (by have := un_pos; omega)
  have hq := quo_rd h.fi hy.fi (by omega)
  rw [if_neg (by omega), Int.mul_one] at hq
  refine Dy.of hN he (by omega) hq ?_
  have e2 : ((kv y).natAbs : Int) = pw k * un := by rw [← ey]; omega
  have ex := h.eq
  rw [e2, pw_addI]
  generalize (pw e : Int) = p at *
  generalize (pw k : Int) = q at *
  generalize (un : Int) = u at *
  grind
theorem Dy.down {e : Nat} {N : Int} {x : Nat} (h : Dy (e + 1) (N * 2) x) : Dy e N x := ⟨h.fi, by
  have e1 := h.eq
  rw [pw_addI, show ((pw 1 : Nat) : Int) = 2 from rfl] at e1
  refine Int.eq_of_mul_eq_mul_right (a := 2) (by decide) ?_
  generalize (pw e : Int) = p at *
  generalize (un : Int) = u at *
  grind⟩
theorem F_two : F 2 = 4611686018427387904 := by decide +kernel
theorem F_four : F 4 = 4616189618054758400 := by decide +kernel
theorem dy_two : Dy 0 (pw 1) 4611686018427387904 := by have := Dy.F (n := 2) (by decide); rw [F_two] at this; exact this
theorem dy_four : Dy 0 (pw 2) 4616189618054758400 := by have := Dy.F (n := 4) (by decide); rw [F_four] at this; exact this
theorem Dy.same {e : Nat} {N : Int} {x y : Nat} (h : Dy e N x) (h' : Dy e N y) : ix x = ix y :=
  rk_inj (Int.eq_of_mul_eq_mul_right (Int.ne_of_gt (pwi_pos e)) (h.eq.trans h'.eq.symm))

/-! a polynomial -/
inductive ColS : Nat → List Nat → List Nat → Prop
  | nil (j : Nat) : ColS j [] []
  | cons {j x y : Nat} {N : Int} {l l' : List Nat} (h : Sc N 0 x) (h' : Sc N j y) (hN : N.natAbs ≤ 100) (t : ColS (j + 1) l l') : ColS j (x :: l) (y :: l')
theorem pw_le6 {a b : Nat} (h : a ≤ b) : pw a ≤ pw b := Nat.pow_le_pow_right (by decide) h
def big (n : Nat) : Nat := 100 * 12 ^ n
theorem big_le {n : Nat} (h : n ≤ 5) : big n ≤ 24883200 := by
  have : (12 : Nat) ^ n ≤ 12 ^ 5 := Nat.pow_le_pow_right (by decide) h
  unfold big
  omega
theorem big_up (n : Nat) {V m N : Int} (hV : V.natAbs ≤ big n) (hm : m.natAbs ≤ 8) (hN : N.natAbs ≤ 100) : (V * m + N * pw (2 * n + 2)).natAbs ≤ big (n + 1) := by
  have h1 : (V * m).natAbs ≤ big n * 8 := by rw [Int.natAbs_mul]; exact Nat.mul_le_mul hV hm
  have h2 : (N * pw (2 * n + 2)).natAbs ≤ 100 * pw (2 * n + 2) := by rw [Int.natAbs_mul, Int.natAbs_natCast]; exact Nat.mul_le_mul_right _ hN
  have h3 : pw (2 * n + 2) ≤ 4 * 12 ^ n := by
    show 2 ^ (2 * n + 2) ≤ _
    rw [Nat.pow_add, Nat.pow_mul]
    have : (2 ^ 2) ^ n ≤ 12 ^ n := Nat.pow_le_pow_left (by decide) n
    omega
  have h4 : big (n + 1) = big n * 12 := by unfold big; rw [Nat.pow_succ, Nat.mul_assoc]
  have h5 : big n = 100 * 12 ^ n := rfl
  omega
theorem at_half {t u : Nat} {m : Int} (ht : Dy 2 m t) (hu : Dy 3 m u) (hm : m.natAbs ≤ 8) : ∀ {j n : Nat} {l l' : List Nat}, ColS j l l' → l.length = n + 1 → j + n ≤ 5 → ∃ V : Int, V.natAbs ≤ big n ∧ Dy (2 * n) V (atL t l) ∧ Dy (2 * n) (V * pw j) (atL u l')
  | _, _, _, _, .nil _, hl, _ => by simp at hl
  | j, n, _, _, .cons (N := N) h h' hN (.nil _), hl, _ => by
    have : n = 0 := by simpa using hl.symm
    subst this
    refine ⟨N, by unfold big; omega, ?_, ?_⟩
    · have := h.dy (j := 0)
      have e1 : ((pw 0 : Nat) : Int) = 1 := rfl
      rw [e1, Int.mul_one] at this
      exact this
    · exact h'.dy
  | j, n, _, _, .cons (x := x) (y := y) (N := N) h h' hN (.cons (x := a) (y := b) (l := l) (l' := l') g g' gN tl), hl, hj => by
    obtain ⟨n, rfl⟩ : ∃ i, n = i + 1 := ⟨n - 1, by simp at hl; omega⟩
    obtain ⟨V, i1, i2, i3⟩ := at_half ht hu hm (.cons g g' gN tl) (n := n) (by simp at hl ⊢; omega) (by omega)
    have hb := big_up n i1 hm hN
    have hb5 := big_le (n := n + 1) (by omega)
    have hb4 := big_le (n := n) (by omega)
    have p6 : pw (j + 1) ≤ 64 := Nat.le_trans (pw_le6 (show j + 1 ≤ 6 by omega)) (by decide)
    have hVm : (V * m).natAbs ≤ 24883200 * 8 := by rw [Int.natAbs_mul]; exact Nat.mul_le_mul (Nat.le_trans i1 hb4) hm
    have x0 := h.dy (j := 0)
    have e1 : ((pw 0 : Nat) : Int) = 1 := rfl
    rw [e1, Int.mul_one] at x0
    have y0 := h'.dy
    have m1 := i2.mul ht (by omega) (by omega)
    have m2 := i3.mul hu (by
      have : V * pw (j + 1) * m = V * m * pw (j + 1) := by grind
      rw [this, Int.natAbs_mul, Int.natAbs_natCast]
      have := Nat.mul_le_mul hVm p6
      omega) (by omega)
    have hs1 : (V * m + N * pw (2 * n + 2)).natAbs ≤ 24883200 := by omega
    refine ⟨V * m + N * pw (2 * n + 2), hb, ?_, ?_⟩
    · have s1 := m1.add ((x0.up (2 * n + 2)).cast (by omega) rfl) (by omega) (by omega)
      exact s1.cast (by omega) rfl
    · have e2 : V * pw (j + 1) * m + N * pw j * pw (2 * n + 3) = (V * m + N * pw (2 * n + 2)) * pw j * 2 := by
        rw [show 2 * n + 3 = 2 * n + 2 + 1 by omega, pw_addI j 1, pw_addI (2 * n + 2) 1, show ((pw 1 : Nat) : Int) = 2 from rfl]
        generalize ((pw (2 * n + 2) : Nat) : Int) = q
        generalize ((pw j : Nat) : Int) = r
        grind
      have p5 : pw j ≤ 32 := Nat.le_trans (pw_le6 (show j ≤ 5 by omega)) (by decide)
      have s2 := m2.add ((y0.up (2 * n + 3)).cast (by omega) rfl) (by
        have e5 : (2 : Int).natAbs = 2 := rfl
        rw [e2, Int.natAbs_mul, Int.natAbs_mul, Int.natAbs_natCast, e5]
        have := Nat.mul_le_mul hs1 p5
        omega) (by omega)
      exact (s2.cast (e' := 2 * (n + 1) + 1) (by omega) e2).down

end Go.Proofs.Ytclphdmaedpipaa

/-!  The law NordScales: its walk, with its leaves asked. -/
namespace Go.Proofs.Ytclphdmaedpipaa
open Go
set_option linter.unusedVariables false
set_option linter.unusedSimpArgs false
set_option maxRecDepth 100000

noncomputable def askSl (f : FuncId) : Nat := if f == 13 || f == 15 || f == 14 || f == 24 || f == 18 || f == 25 || f == 31 then 1 else 2
def pS (s : Int) : Nat := fop .quo .f64 (FloatKind.f64.nearest (IntKind.i64.wrap (s % 17 - 8))) 4616189618054758400
def pS2 (s : Int) : Nat := fop .quo .f64 (pS s) 4611686018427387904
def kE (k : Int) : Int := IntKind.i64.wrap (k % 21 - 10)
def kE0 (k : Int) : Int := IntKind.i64.wrap (0 - kE k)
def kE3 (k : Int) : Int := IntKind.i64.wrap (kE k + 3)
def rsAns (q k p : Nat) (Y : Nat → Nat → Nat) (s : Int) : Ans := ⟨fun n => pV (n + 1) q, rsB q k p Y s⟩
def atAns (q k : Nat) (X : Nat → Nat → Nat) (t : Nat) : Ans := ⟨fun n => .slice (some ⟨n, 0, none⟩) k k, aBs q k X t⟩
def slO (o q : Nat) : Value := .slice (some ⟨o, 0, none⟩) (q + 1) (q + 1)
def rsO' (H : AHeap) (L : List (Option ABlk)) (q k o p : Nat) (Y : Nat → Nat → Nat) (s : Int) : Obl := .run 24 #[slO o q, .int .i64 s] (froze (G H L)) (pV (p + 1) q) (froze (G H L) ++ (rsB q k p Y s).toArray)
def atO' (H : AHeap) (L : List (Option ABlk)) (q k o p : Nat) (X : Nat → Nat → Nat) (t : Nat) : Obl := .run 18 #[slO o q, fW t] (froze (G H L)) (.slice (some ⟨p, 0, none⟩) k k) (froze (G H L) ++ (aBs q k X t).toArray)
def taO (H : AHeap) (L : List (Option ABlk)) (q a b : Nat) : Obl := .run 25 #[slO a q, slO b q] (froze (G H L)) (.bool true) (froze (G H L))
def mkO (q k e : Nat) (n : Int) (v : Value) (H : AHeap) (X : Nat → Nat → Nat) : Obl :=
  .run 14 #[.int .i64 (Int.ofNat q), .int .i64 n, v] (froze H) (zV2 e q k) (froze H ++ (rowsX q k e X).toArray)
structure Ys where
  X : Nat → Nat → Nat
  A : Nat → Nat → Nat
  B : Nat → Nat → Nat
  C : Nat → Nat → Nat
  D : Nat → Nat → Nat
  E : Nat → Nat → Nat
  F : Nat → Nat → Nat
  G : Nat → Nat → Nat
noncomputable def scRun (e q k : Nat) (order n kk s : Int) (va : Value) (H : AHeap) (y : Ys) : Option (Value × List Obl) :=
  let p := e + (q + 2)
  let m := q + 3
  (askN askSl noC 12 7 #[.int .i64 order, .int .i64 n, va, .int .i64 kk, .int .i64 s] H
    (yes true :: isI (Int.ofNat (q - 1)) :: ⟨fun _ => zV2 e q k, rowsX q k e y.X⟩ :: isI (s % 17) :: isI (kk % 21) :: rsAns q k p y.A 1 :: atAns q k y.A (pS2 s) :: atAns q k y.X (pS s) ::
      (yesK k ++ (rsAns q k (p + m + 2) y.B (kE kk) :: rsAns q k (p + m + 2 + m) y.C (kE0 kk) :: yes true :: rsAns q k (p + m + 2 + m + m) y.D 0 :: yes true ::
        rsAns q k (p + m + 2 + m + m + m) y.E 3 :: rsAns q k (p + m + 2 + m + m + m + m) y.F (kE kk) :: rsAns q k (p + m + 2 + m + m + m + m + m) y.G (kE3 kk) :: yes true :: [])))).map (fun r => (r.1, r.2.2))
def scLog (e q k : Nat) (order n kk s : Int) (va : Value) (H : AHeap) (y : Ys) : List Obl :=
  let p := e + (q + 2)
  let m := q + 3
  let z := e + (q + 1)
  let L0 := rowsX q k e y.X
  let L1 := L0 ++ rsB q k p y.A 1
  let L2 := L1 ++ aBs q k y.A (pS2 s)
  let L3 := L2 ++ aBs q k y.X (pS s)
  let p1 := p + m + 2
  let L4 := L3 ++ rsB q k p1 y.B (kE kk)
  let p2 := p1 + m
  let L5 := L4 ++ rsB q k p2 y.C (kE0 kk)
  let p3 := p2 + m
  let L6 := L5 ++ rsB q k p3 y.D 0
  let p4 := p3 + m
  let L7 := L6 ++ rsB q k p4 y.E 3
  let p5 := p4 + m
  let L8 := L7 ++ rsB q k p5 y.F (kE kk)
  let p6 := p5 + m
  let L9 := L8 ++ rsB q k p6 y.G (kE3 kk)
  kObl :: wObl order 5 (Int.ofNat (q - 1)) :: mkO q k e n va H y.X :: wObl s 17 (s % 17) :: wObl kk 21 (kk % 21) :: rsO' H L0 q k z p y.A 1 :: atO' H L1 q k (p + 1) (p + m) y.A (pS2 s) :: atO' H L2 q k z (p + m + 1) y.X (pS s) ::
    (sames (fun i => atL (pS2 s) (colX q y.A i)) (fun i => atL (pS s) (colX q y.X i)) (List.range k) ++
      (rsO' H L3 q k z p1 y.B (kE kk) :: rsO' H L4 q k (p1 + 1) p2 y.C (kE0 kk) :: taO H L5 q (p2 + 1) z :: rsO' H L5 q k z p3 y.D 0 :: taO H L6 q (p3 + 1) z ::
        rsO' H L6 q k z p4 y.E 3 :: rsO' H L7 q k (p4 + 1) p5 y.F (kE kk) :: rsO' H L8 q k z p6 y.G (kE3 kk) :: taO H L9 q (p5 + 1) (p6 + 1) :: []))
def ScRun (q k : Nat) (H : AHeap) : Prop := ∀ (order n kk s : Int) (va : Value) (X A B C D E F G : Nat → Nat → Nat),
  scRun H.size q k order n kk s va H ⟨X, A, B, C, D, E, F, G⟩ = some (.bool true, scLog H.size q k order n kk s va H ⟨X, A, B, C, D, E, F, G⟩)

end Go.Proofs.Ytclphdmaedpipaa

/-!  The law NordScales at one shape: what its walk asks for holds. -/
namespace Go.Proofs.Ytclphdmaedpipaa
open Go
set_option linter.unusedVariables false
set_option linter.unusedSimpArgs false
set_option maxRecDepth 100000

/-! what stands where -/
structure InL (L : List (Option ABlk)) (b o r q k : Nat) (X : Nat → Nat → Nat) : Prop where
  row : ∀ j, j ≤ q → L[r + j]? = some (rowW true k (X j))
  out : L[o]? = some (outW true q k (b + r))
theorem get_app {α : Type} {L R : List α} {i : Nat} {x : α} (h : L[i]? = some x) : (L ++ R)[i]? = some x := by
  rw [List.getElem?_append_left (List.getElem?_eq_some_iff.1 h).1, h]
theorem InL.app {L R : List (Option ABlk)} {b o r q k : Nat} {X : Nat → Nat → Nat} (h : InL L b o r q k X) : InL (L ++ R) b o r q k X := ⟨fun j hj => get_app (h.row j hj), get_app h.out⟩
theorem inL_rows (q k b : Nat) (X : Nat → Nat → Nat) : InL (rowsX q k b X) b (q + 1) 0 q k X := by
  refine ⟨fun j hj => ?_, ?_⟩ <;> unfold rowsX
  · rw [Nat.zero_add, List.getElem?_append_left (by simp; omega), List.getElem?_map, List.getElem?_range (by omega)]
    rfl
  · rw [List.getElem?_append_right (by simp)]
    simp
theorem inL_rs {P : List (Option ABlk)} {q k b p o r : Nat} {Y : Nat → Nat → Nat} {s : Int} (hp : p = b + P.length) (ho : o = P.length + 1) (hr : r = P.length + 2) : InL (P ++ rsB q k p Y s) b o r q k Y := by
  subst hp ho hr
  refine ⟨fun j hj => ?_, ?_⟩
  · rw [List.getElem?_append_right (by omega), show P.length + 2 + j - P.length = j + 2 by omega]
    unfold rsB
    rw [List.getElem?_cons_succ, List.getElem?_cons_succ, List.getElem?_map, List.getElem?_range (by omega)]
    rfl
  · rw [List.getElem?_append_right (by omega), show P.length + 1 - P.length = 1 by omega]
    unfold rsB
    rw [List.getElem?_cons_succ, List.getElem?_cons_zero, Nat.add_assoc]
theorem fg_get {H : AHeap} {L : List (Option ABlk)} {i : Nat} {B : ABlk} (h : L[i]? = some (some B)) : ∃ B', (froze (G H L))[H.size + i]? = some (some B') ∧ B'.cells = B.cells := by
  refine ⟨{ B with own := false }, ?_, rfl⟩
  unfold froze G
  rw [List.getElem?_toArray, List.getElem?_map, List.toList_toArray, List.getElem?_append_right (by simp), Array.length_toList, Nat.add_sub_cancel_left, h]
  rfl
theorem InL.g {H : AHeap} {L : List (Option ABlk)} {o r q k o' r' : Nat} {X : Nat → Nat → Nat} (h : InL L H.size o r q k X) (ho : o' = H.size + o) (hr : r' = H.size + r) : InG (froze (G H L)) o' r' q k X := by
  subst ho hr
  refine ⟨fun j hj => ?_, ?_⟩
  · obtain ⟨B', h1, h2⟩ := fg_get (H := H) (h.row j hj)
    exact ⟨B', by rw [Nat.add_assoc]; exact h1, h2⟩
  · obtain ⟨B', h1, h2⟩ := fg_get (H := H) h.out
    exact ⟨B', h1, h2⟩
theorem fg_size (H : AHeap) (L : List (Option ABlk)) : (froze (G H L)).size = H.size + L.length := by simp [froze, G]
theorem rsO_of {H : AHeap} {L : List (Option ABlk)} {q k o o' r p : Nat} {X Y : Nat → Nat → Nat} {s : Int} (hR : RescAt q k) (h : InL L H.size o r q k X) (ho : o' = H.size + o) (hp : p = H.size + L.length)
    (hs : ∀ j i, Runs Try.prog 45 #[fW (X j i), .int .i64 (jkW j s)] #[] (fW (Y j i)) #[]) : (rsO' H L q k o' p Y s).ok Try.prog := by
  have := resc_inG hR (h.g ho rfl) (s := s) hs
  rw [fg_size, ← hp] at this
  exact this
theorem atO_of {H : AHeap} {L : List (Option ABlk)} {q k o o' r p : Nat} {X : Nat → Nat → Nat} {t : Nat} (hA : AtAt q k) (h : InL L H.size o r q k X) (ho : o' = H.size + o) (hp : p = H.size + L.length) : (atO' H L q k o' p X t).ok Try.prog := by
  have := at_inG hA (h.g ho rfl) (t := t)
  rw [fg_size, ← hp] at this
  exact this
theorem same_sc {N a b : Int} {x y : Nat} (h : Sc N a x) (h' : Sc N b y) (hab : N = 0 ∨ a = b) : Runs Try.prog 31 #[fW x, fW y] #[] (.bool true) #[] :=
  same_eq ((eql_ix h.fi.nn h'.fi.nn).trans (congrArg some (decide_eq_true ((h.cast hab).same h'))))
theorem taO_of {H : AHeap} {L : List (Option ABlk)} {q k a b oa ob ra rb : Nat} {X Y : Nat → Nat → Nat} (hT : TabAt q k) (h : InL L H.size oa ra q k X) (h' : InL L H.size ob rb q k Y) (ha : a = H.size + oa) (hb : b = H.size + ob)
    (hs : ∀ j i, Runs Try.prog 31 #[fW (X j i), fW (Y j i)] #[] (.bool true) #[]) : (taO H L q a b).ok Try.prog :=
  tabs_in hT (h.g ha rfl) (h'.g hb rfl) hs

/-! the numbers -/
def xT (q k : Nat) (f : Nat → Int) (j i : Nat) : Nat := if j ≤ q then flN (f (j * k + i)) else 0
def nT (q k : Nat) (f : Nat → Int) (j i : Nat) : Int := if j ≤ q then f (j * k + i) - 100 else 0
theorem xT_sc {q k : Nat} {f : Nat → Int} (h : ∀ i, 0 ≤ f i ∧ f i ≤ 200) (j i : Nat) : Sc (nT q k f j i) 0 (xT q k f j i) ∧ (nT q k f j i).natAbs ≤ 100 := by
  unfold nT xT
  by_cases c : j ≤ q
  · rw [if_pos c, if_pos c]
    have := h (j * k + i)
    refine ⟨Sc.of ?_, by omega⟩
    unfold flN
    rw [wrap_id (by omega) (by omega)]
    exact Dy.F (n := f (j * k + i) - 100) (by omega)
  · rw [if_neg c, if_neg c]
    exact ⟨Sc.of ⟨fi_zero.1, by show rk (ix 0) * _ = _; rw [fi_zero.2, rk_zero, Int.zero_mul, Int.zero_mul]⟩, by decide⟩
theorem resc_sc {q : Nat} (hq : q ≤ 5) {N : Nat → Nat → Int} {a : Nat → Int} {X : Nat → Nat → Nat} (hX : ∀ j i, Sc (N j i) (a j) (X j i)) (hN : ∀ j i, (N j i).natAbs ≤ 100) (h0 : ∀ j i, q < j → N j i = 0) (s : Int)
    (ha : ∀ j : Nat, j ≤ 5 → -60 ≤ a j ∧ a j ≤ 100 ∧ -100 ≤ a j + j * s ∧ a j + j * s ≤ 800) (hs : -20 ≤ s ∧ s ≤ 20) : ∃ Y : Nat → Nat → Nat, (∀ j i, Runs Try.prog 45 #[fW (X j i), .int .i64 (jkW j s)] #[] (fW (Y j i)) #[]) ∧ ∀ j i, Sc (N j i) (a j + j * s) (Y j i) := by
  have one : ∀ j i, ∃ y, Runs Try.prog 45 #[fW (X j i), .int .i64 (jkW j s)] #[] (fW y) #[] ∧ Sc (N j i) (a j + j * s) y := by
    intro j i
    by_cases c : j ≤ q
    · have hj : jkW j s = (j : Int) * s := by
        have h5 : (j : Int) ≤ 5 := by omega
        have e1 : Int.ofNat j = (j : Int) := rfl
        unfold jkW
        rw [e1, wrap_id]
        · have := Int.mul_le_mul_of_nonneg_left hs.1 (show (0 : Int) ≤ j by omega); omega
        · have := Int.mul_le_mul_of_nonneg_left hs.2 (show (0 : Int) ≤ j by omega); omega
      rw [hj]
      have b1 := Int.mul_le_mul_of_nonneg_left hs.1 (show (0 : Int) ≤ j by omega)
      have b2 := Int.mul_le_mul_of_nonneg_left hs.2 (show (0 : Int) ≤ j by omega)
      have := ha j (by omega)
      have hb := hN j i
      obtain ⟨y, y1, y2⟩ := (hX j i).scale (k := j * s) (by omega) (.inr (by omega))
      exact ⟨y, y1, y2⟩
    · have hz := h0 j i (by omega)
      obtain ⟨y, y1, y2⟩ := (hX j i).scale (k := jkW j s) (by rw [hz]; decide) (.inl hz)
      exact ⟨y, y1, y2.cast (.inl hz)⟩
  exact ⟨fun j i => (one j i).choose, fun j i => (one j i).choose_spec.1, fun j i => (one j i).choose_spec.2⟩
theorem colS_of {N : Nat → Int} {X A : Nat → Nat} (hX : ∀ j, Sc (N j) 0 (X j)) (hA : ∀ j, Sc (N j) j (A j)) (hN : ∀ j, (N j).natAbs ≤ 100) : ∀ n j, ColS j ((List.range' j n).map X) ((List.range' j n).map A)
  | 0, j => .nil j
  | n + 1, j => .cons (hX j) (hA j) (hN j) (colS_of hX hA hN n (j + 1))
theorem half_same {q : Nat} (hq : q ≤ 5) {N : Nat → Nat → Int} {X A : Nat → Nat → Nat} (hX : ∀ j i, Sc (N j i) 0 (X j i)) (hA : ∀ j i, Sc (N j i) j (A j i)) (hN : ∀ j i, (N j i).natAbs ≤ 100) (s : Int) (i : Nat) :
    Runs Try.prog 31 #[fW (atL (pS2 s) (colX q A i)), fW (atL (pS s) (colX q X i))] #[] (.bool true) #[] := by
  have h1 := Int.emod_nonneg s (b := 17) (by decide)
  have h2 := Int.emod_lt_of_pos s (b := 17) (by decide)
  have hm : Dy 0 (s % 17 - 8) (FloatKind.f64.nearest (IntKind.i64.wrap (s % 17 - 8))) := by
    rw [wrap_id (by omega) (by omega)]
    exact Dy.F (n := s % 17 - 8) (by omega)
  have ht : Dy 2 (s % 17 - 8) (pS s) := (hm.quo dy_four (by omega) (by omega)).cast (by omega) rfl
  have hu : Dy 3 (s % 17 - 8) (pS2 s) := (ht.quo dy_two (by omega) (by omega)).cast (by omega) rfl
  have hc := colS_of (fun j => hX j i) (fun j => hA j i) (fun j => hN j i) (q + 1) 0
  rw [← List.range_eq_range'] at hc
  obtain ⟨V, _, v1, v2⟩ := at_half ht hu (by omega) hc (n := q) (by simp) (by omega)
  have e1 : ((pw 0 : Nat) : Int) = 1 := rfl
  rw [e1, Int.mul_one] at v2
  exact same_eq ((eql_ix v2.fi.nn v1.fi.nn).trans (congrArg some (decide_eq_true (v2.same v1))))
theorem sames_all {f g : Nat → Nat} (h : ∀ i, Runs Try.prog 31 #[fW (f i), fW (g i)] #[] (.bool true) #[]) : ∀ is : List Nat, okAll Try.prog (sames f g is)
  | [] => trivial
  | i :: is => ⟨h i, sames_all h is⟩

def ZRows (q k : Nat) : Prop := ∀ (e : Nat) (f : Nat → Int), zBs2 e q k (tab ((q + 1) * k) f) = rowsX q k e (xT q k f)
theorem rowsX_len (q k e : Nat) (X : Nat → Nat → Nat) : (rowsX q k e X).length = q + 2 := by simp [rowsX]
theorem rsB_len (q k e : Nat) (X : Nat → Nat → Nat) (s : Int) : (rsB q k e X s).length = q + 3 := by simp [rsB]
theorem aBs_len (q k : Nat) (X : Nat → Nat → Nat) (t : Nat) : (aBs q k X t).length = 1 := rfl

theorem scales_at {q k : Nat} (hq : q ≤ 5) (hk : 0 < k) (hK : Kept q k) (hZ : ZRows q k) (hA : AtAt q k) (hR : RescAt q k) (hT : TabAt q k) {zs : List Int} (hm : MakeOK q k zs) {H : AHeap} {va : Value} (hv : Handed H zs va) (hr : ScRun q k H)
    (order n kk s : Int) (ho : order % Int.ofNat (4 + 1) = Int.ofNat (q - 1)) (hn : n % Int.ofNat (2 + 1) = Int.ofNat (k - 1)) :
    Tells 7 #[.int .i64 order, .int .i64 n, va, .int .i64 kk, .int .i64 s] H (.bool true) := by
  obtain ⟨rs, la, ba, runA⟩ := make_kept hk hK hm (froze_all H) hv.froze n hn
  rw [froze_size] at runA
  have hz := hZ H.size (fun i => rs.getD i 0)
  rw [tab_eq la] at hz
  rw [hz] at runA
  have bf : ∀ i, 0 ≤ rs.getD i 0 ∧ rs.getD i 0 ≤ 200 := by
    intro i
    rw [List.getD_eq_getElem?_getD]
    cases hg : rs[i]? with
    | none => exact ⟨by decide, by decide⟩
    | some r => exact ba r (List.mem_of_getElem? hg)
  obtain ⟨f, hf⟩ : ∃ f : Nat → Int, f = fun i => rs.getD i 0 := ⟨_, rfl⟩
  rw [← hf] at runA
  have bf : ∀ i, 0 ≤ f i ∧ f i ≤ 200 := by rw [hf]; exact bf
  obtain ⟨N, hN⟩ : ∃ N, N = nT q k f := ⟨_, rfl⟩
  obtain ⟨X, hXe⟩ : ∃ X, X = xT q k f := ⟨_, rfl⟩
  rw [← hXe] at runA
  have hX : ∀ j i, Sc (N j i) 0 (X j i) := fun j i => by rw [hN, hXe]; exact (xT_sc bf j i).1
  have hB : ∀ j i, (N j i).natAbs ≤ 100 := fun j i => by rw [hN]; exact (xT_sc bf j i).2
  have h0 : ∀ j i, q < j → N j i = 0 := fun j i h => by rw [hN]; exact if_neg (by omega)
  have e1 := Int.emod_nonneg kk (b := 21) (by decide)
  have e2 := Int.emod_lt_of_pos kk (b := 21) (by decide)
  have hE : kE kk = kk % 21 - 10 := wrap_id (by omega) (by omega)
  have hE0 : kE0 kk = -(kE kk) := by unfold kE0; rw [wrap_id (by omega) (by omega), Int.zero_sub]
  have hE3 : kE3 kk = kE kk + 3 := wrap_id (by omega) (by omega)
  have lo : -10 ≤ kE kk ∧ kE kk ≤ 10 := by omega
  have mj : ∀ (j : Nat), j ≤ 5 → -50 ≤ (j : Int) * kE kk ∧ (j : Int) * kE kk ≤ 50 := by
    intro j hj
    have b1 := Int.mul_le_mul_of_nonneg_left lo.1 (show (0 : Int) ≤ j by omega)
    have b2 := Int.mul_le_mul_of_nonneg_left lo.2 (show (0 : Int) ≤ j by omega)
    omega
  obtain ⟨A, A1, A2⟩ := resc_sc hq (a := fun _ => 0) hX hB h0 1 (fun j _ => by omega) (by omega)
  obtain ⟨B, B1, B2⟩ := resc_sc hq (a := fun _ => 0) hX hB h0 (kE kk) (fun j hj => by have := mj j hj; omega) (by omega)
  obtain ⟨C, C1, C2⟩ := resc_sc hq B2 hB h0 (kE0 kk) (fun j hj => by have := mj j hj; rw [hE0, Int.mul_neg]; omega) (by omega)
  obtain ⟨D, D1, D2⟩ := resc_sc hq (a := fun _ => 0) hX hB h0 0 (fun j _ => by omega) (by omega)
  obtain ⟨E, E1, E2⟩ := resc_sc hq (a := fun _ => 0) hX hB h0 3 (fun j _ => by omega) (by omega)
  obtain ⟨F, F1, F2⟩ := resc_sc hq E2 hB h0 (kE kk) (fun j hj => by have := mj j hj; omega) (by omega)
  obtain ⟨GG, G1, G2⟩ := resc_sc hq (a := fun _ => 0) hX hB h0 (kE3 kk) (fun j hj => by have := mj j hj; rw [hE3, Int.mul_add]; omega) (by omega)
  have h := hr order n kk s va X A B C D E F GG
  have l0 := rowsX_len q k H.size X
  refine tells_of h ?_
  have iz := inL_rows q k H.size X
  have ho5 := within8 order 4 (by decide)
  rw [ho] at ho5
  refine ⟨nord_known, ho5, runA, within8 s 16 (by decide), within8 kk 20 (by decide), rsO_of hR iz ?_ ?_ A1, atO_of hA (inL_rs ?_ rfl rfl) ?_ ?_, atO_of hA iz.app.app ?_ ?_, okAll_append (sames_all ?_ _) ⟨rsO_of hR iz.app.app.app ?_ ?_ B1, rsO_of hR (inL_rs ?_ rfl rfl) ?_ ?_ C1,
    taO_of hT (inL_rs ?_ rfl rfl) iz.app.app.app.app.app ?_ ?_ ?_, rsO_of hR iz.app.app.app.app.app ?_ ?_ D1, taO_of hT (inL_rs ?_ rfl rfl) iz.app.app.app.app.app.app ?_ ?_ ?_,
    rsO_of hR iz.app.app.app.app.app.app ?_ ?_ E1, rsO_of hR (inL_rs ?_ rfl rfl) ?_ ?_ F1, rsO_of hR iz.app.app.app.app.app.app.app.app ?_ ?_ G1, taO_of hT (inL_rs (s := kE kk) ?_ rfl rfl).app (inL_rs ?_ rfl rfl) ?_ ?_ ?_, trivial⟩⟩
  all_goals first
    | (simp only [List.length_append, rowsX_len, rsB_len, aBs_len] <;> omega)
    | skip
  · intro i
    exact half_same hq hX (fun j i => (A2 j i).cast (.inr (by omega))) hB s i
  · intro j i
    refine same_sc (C2 j i) (hX j i) (.inr ?_)
    rw [hE0, Int.mul_neg]
    omega
  · intro j i
    exact same_sc (D2 j i) (hX j i) (.inr (by omega))
  · intro j i
    refine same_sc (F2 j i) (G2 j i) (.inr ?_)
    rw [hE3, Int.mul_add]
    omega

end Go.Proofs.Ytclphdmaedpipaa
