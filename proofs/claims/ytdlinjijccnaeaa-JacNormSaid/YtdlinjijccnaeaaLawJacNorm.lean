/- The law JacNorm returns true, whatever it is handed. -/
import Derived.Test.YtdlinjijccnaeaaJacNormR1
import Derived.Test.YtdlinjijccnaeaaJacNormR2
import Derived.Test.YtdlinjijccnaeaaJacNormR3
import Derived.Test.YtdlinjijccnaeaaJacNormR4a
import Derived.Test.YtdlinjijccnaeaaJacNormR4b
import Derived.Test.YtdlinjijccnaeaaJacNormR4c
namespace Go.Proofs.Ytdlinjijccnaeaa
open Go
set_option linter.unusedVariables false
set_option linter.unusedSimpArgs false
set_option maxRecDepth 100000
theorem jn1 : ∀ zs : List Int, JnAt 1 zs
  | [] => jn1_0 
  | [z0] => jn1_1 z0
  | z0 :: z1 :: tail => jn1_t z0 z1 tail
theorem jn2 : ∀ zs : List Int, JnAt 2 zs
  | [] => jn2_0 
  | [z0] => jn2_1 z0
  | [z0, z1] => jn2_2 z0 z1
  | [z0, z1, z2] => jn2_3 z0 z1 z2
  | z0 :: z1 :: z2 :: z3 :: tail => jn2_t z0 z1 z2 z3 tail
theorem jn3 : ∀ zs : List Int, JnAt 3 zs
  | [] => jn3_0 
  | [z0] => jn3_1 z0
  | [z0, z1] => jn3_2 z0 z1
  | [z0, z1, z2] => jn3_3 z0 z1 z2
  | [z0, z1, z2, z3] => jn3_4 z0 z1 z2 z3
  | [z0, z1, z2, z3, z4] => jn3_5 z0 z1 z2 z3 z4
  | [z0, z1, z2, z3, z4, z5] => jn3_6 z0 z1 z2 z3 z4 z5
  | [z0, z1, z2, z3, z4, z5, z6] => jn3_7 z0 z1 z2 z3 z4 z5 z6
  | [z0, z1, z2, z3, z4, z5, z6, z7] => jn3_8 z0 z1 z2 z3 z4 z5 z6 z7
  | z0 :: z1 :: z2 :: z3 :: z4 :: z5 :: z6 :: z7 :: z8 :: tail => jn3_t z0 z1 z2 z3 z4 z5 z6 z7 z8 tail
theorem jn4 : ∀ zs : List Int, JnAt 4 zs
  | [] => jn4_0 
  | [z0] => jn4_1 z0
  | [z0, z1] => jn4_2 z0 z1
  | [z0, z1, z2] => jn4_3 z0 z1 z2
  | [z0, z1, z2, z3] => jn4_4 z0 z1 z2 z3
  | [z0, z1, z2, z3, z4] => jn4_5 z0 z1 z2 z3 z4
  | [z0, z1, z2, z3, z4, z5] => jn4_6 z0 z1 z2 z3 z4 z5
  | [z0, z1, z2, z3, z4, z5, z6] => jn4_7 z0 z1 z2 z3 z4 z5 z6
  | [z0, z1, z2, z3, z4, z5, z6, z7] => jn4_8 z0 z1 z2 z3 z4 z5 z6 z7
  | [z0, z1, z2, z3, z4, z5, z6, z7, z8] => jn4_9 z0 z1 z2 z3 z4 z5 z6 z7 z8
  | [z0, z1, z2, z3, z4, z5, z6, z7, z8, z9] => jn4_10 z0 z1 z2 z3 z4 z5 z6 z7 z8 z9
  | [z0, z1, z2, z3, z4, z5, z6, z7, z8, z9, z10] => jn4_11 z0 z1 z2 z3 z4 z5 z6 z7 z8 z9 z10
  | [z0, z1, z2, z3, z4, z5, z6, z7, z8, z9, z10, z11] => jn4_12 z0 z1 z2 z3 z4 z5 z6 z7 z8 z9 z10 z11
  | [z0, z1, z2, z3, z4, z5, z6, z7, z8, z9, z10, z11, z12] => jn4_13 z0 z1 z2 z3 z4 z5 z6 z7 z8 z9 z10 z11 z12
  | [z0, z1, z2, z3, z4, z5, z6, z7, z8, z9, z10, z11, z12, z13] => jn4_14 z0 z1 z2 z3 z4 z5 z6 z7 z8 z9 z10 z11 z12 z13
  | [z0, z1, z2, z3, z4, z5, z6, z7, z8, z9, z10, z11, z12, z13, z14] => jn4_15 z0 z1 z2 z3 z4 z5 z6 z7 z8 z9 z10 z11 z12 z13 z14
  | z0 :: z1 :: z2 :: z3 :: z4 :: z5 :: z6 :: z7 :: z8 :: z9 :: z10 :: z11 :: z12 :: z13 :: z14 :: z15 :: tail => jn4_t z0 z1 z2 z3 z4 z5 z6 z7 z8 z9 z10 z11 z12 z13 z14 z15 tail

theorem loZ_eq (w : Int) : loZ w = w % 41 - 20 ∧ 0 ≤ w % 41 ∧ w % 41 < 41 := by
  have h1 := Int.emod_nonneg w (b := 41) (by decide)
  have h2 := Int.emod_lt_of_pos w (b := 41) (by decide)
  exact ⟨wrap_id (by omega) (by omega), h1, h2⟩
theorem df_in (w : Int) : 0 ≤ dfZ w ∧ dfZ w < 9 := ⟨Int.emod_nonneg _ (by decide), Int.emod_lt_of_pos _ (by decide)⟩
theorem hiZ_eq (w : Int) : hiZ w = loZ w + dfZ w ∧ -20 ≤ loZ w ∧ loZ w ≤ 20 := by
  obtain ⟨h1, h2, h3⟩ := loZ_eq w
  obtain ⟨d1, d2⟩ := df_in w
  exact ⟨wrap_id (by omega) (by omega), by omega, by omega⟩
theorem szZ_eq (w : Int) : szZ w = max ((loZ w).natAbs : Int) (hiZ w).natAbs ∧ 0 ≤ szZ w ∧ szZ w ≤ 28 := by
  obtain ⟨h1, h2, h3⟩ := hiZ_eq w
  obtain ⟨d1, d2⟩ := df_in w
  have e1 : jw (0 - loZ w) = -loZ w := by
    have : jw (0 - loZ w) = 0 - loZ w := wrap_id (by omega) (by omega)
    omega
  have e2 : jw (0 - hiZ w) = -hiZ w := by
    have : jw (0 - hiZ w) = 0 - hiZ w := wrap_id (by omega) (by omega)
    omega
  unfold szZ
  rw [e1, e2, h1]
  generalize loZ w = l at *
  generalize dfZ w = d at *
  have hm : max ((l.natAbs : Nat) : Int) ((l + d).natAbs : Nat) = gm (gm (gm (l + d) (-l)) (-(l + d))) l := by
    unfold gm
    rw [Int.max_def]
    split <;> (repeat' split) <;> omega
  rw [hm]
  refine ⟨rfl, ?_, ?_⟩ <;> unfold gm <;> (repeat' split) <;> omega
theorem rZ_at {w : Nat → Int} {i : Nat} : ∀ (m c : Nat) (s : Int), c + m ≤ 10 → s.natAbs ≤ 28 * c → (i < c → s = sI (hiZ (w i)) (fun k => szZ (w k)) i c) → (¬ i < c → s + hiZ (w i) = sI (hiZ (w i)) (fun k => szZ (w k)) i c) → i < c + m →
    rZ w i m c s = sI (hiZ (w i)) (fun k => szZ (w k)) i (c + m)
  | 0, c, s, _, _, h1, _, hi => h1 (by omega)
  | m + 1, c, s, hc, hs, h1, h2, hi => by
    obtain ⟨a1, a2, a3⟩ := hiZ_eq (w c)
    obtain ⟨d1, d2⟩ := df_in (w c)
    obtain ⟨z1, z2, z3⟩ := szZ_eq (w c)
    have e : c + (m + 1) = c + 1 + m := by omega
    have st : sI (hiZ (w i)) (fun k => szZ (w k)) i (c + 1) = bif Nat.beq c i then sI (hiZ (w i)) (fun k => szZ (w k)) i c else sI (hiZ (w i)) (fun k => szZ (w k)) i c + szZ (w c) := rfl
    unfold rZ
    rw [e]
    by_cases hci : c = i
    · subst hci
      rw [Nat.beq_refl, cond_true] at st ⊢
      have hj : jw (s + hiZ (w c)) = s + hiZ (w c) := wrap_id (by omega) (by omega)
      rw [hj]
      exact rZ_at m (c + 1) _ (by omega) (by omega) (fun _ => by rw [st]; exact h2 (by omega)) (fun h => absurd (by omega) h) (by omega)
    · have hb : Nat.beq c i = false := by
        cases hh : Nat.beq c i with
        | false => rfl
        | true => exact absurd (Nat.eq_of_beq_eq_true hh) hci
      rw [hb, cond_false] at st ⊢
      have hj : jw (s + szZ (w c)) = s + szZ (w c) := wrap_id (by omega) (by omega)
      rw [hj]
      exact rZ_at m (c + 1) _ (by omega) (by omega) (fun h => by rw [st, ← h1 (by omega)]) (fun h => by rw [st, ← h2 (by omega)]; omega) (by omega)
theorem bZ_at {n : Nat} {w : Nat → Nat → Int} {S : Nat → Int} : ∀ (m i : Nat), 0 < i → (∀ k, k < i + m → rZ (w k) k n 0 0 = S k) → bZ n w m i (mI S (i - 1)) = mI S (i + m - 1)
  | 0, i, _, _ => by rw [Nat.add_zero]; rfl
  | m + 1, 0, h0, _ => absurd h0 (Nat.lt_irrefl _)
  | m + 1, i + 1, _, h => by
    have ih := bZ_at (n := n) (w := w) m (i + 1 + 1) (by omega) (fun k hk => h k (by omega))
    unfold bZ
    rw [h (i + 1) (by omega)]
    have e2 : i + 1 + (m + 1) - 1 = i + 1 + 1 + m - 1 := by omega
    rw [e2]
    exact ih
theorem wi4_at (z : Int) (k : Nat) (hk : k < 1000) : (wi4O z (Int.ofNat (k + 1)) (z % Int.ofNat (k + 1))).ok Try.prog := within4 z k (by omega)
theorem cO_ok {lg : Bool} {len b : Nat} {w : Nat → Int} {n : Nat} (h : lg = true → b + n ≤ len) : ∀ m c : Nat, c + m ≤ n → okAll Try.prog (cO lg len b w m c)
  | 0, _, _ => trivial
  | m + 1, c, hc => by
    unfold cO
    refine app_ok' ?_ ⟨wi4_at _ 40 (by decide), wi4_at _ 8 (by decide), cO_ok h m (c + 1) (by omega)⟩
    cases lg with
    | false => exact trivial
    | true =>
      have := h rfl
      exact ⟨(cmp_lss _ _).trans (congrArg some (decide_eq_true (Int.ofNat_lt.2 (by omega)))), trivial⟩
theorem tO_ok {lg : Bool} {len n : Nat} {w : Nat → Nat → Int} (h : lg = true → n * n ≤ len) : ∀ m i : Nat, i + m ≤ n → okAll Try.prog (tO lg len n w m i)
  | 0, _, _ => trivial
  | m + 1, i, hi => by
    unfold tO
    refine app_ok' (cO_ok (n := n) (fun hl => ?_) n 0 (by omega)) (tO_ok h m (i + 1) (by omega))
    have h1 := h hl
    have h2 : (i + 1) * n ≤ n * n := Nat.mul_le_mul_right _ (by omega)
    rw [Nat.add_mul, Nat.one_mul] at h2
    omega

/-- What jac.Norm tells of the law's rows. -/
theorem jnorm_val {n : Nat} (hn : 1 ≤ n) (hn4 : n ≤ 4) (w : Nat → Nat → Int) (M : Nat → Nat → P2) (hM : ∀ i c, M i c = (F (loZ (w i c)), F (hiZ (w i c)))) :
    ∃ (e : Nat → Nat → Nat), okAll Try.prog (nO n M e (uOf M e) (tOf fun i => sAt (M i) (e i) i n) n 0 0) ∧ SB (mI (fun i => sI (hiZ (w i i)) (fun k => szZ (w i k)) i n) (n - 1)) n (nS n M (uOf M e) (tOf fun i => sAt (M i) (e i) i n) n 0 0) := by
  have hm : ∀ i c : Nat, ∃ e, Runs Try.prog 35 #[vI (M i c)] #[] (.float .f64 e) #[] ∧ Fi e ∧ kv e = szZ (w i c) * un := by
    intro i c
    obtain ⟨h1, h2, h3⟩ := hiZ_eq (w i c)
    obtain ⟨d1, d2⟩ := df_in (w i c)
    rw [hM]
    exact mag_int (by omega) (by omega) (szZ_eq (w i c)).1
  let e : Nat → Nat → Nat := fun i c => Classical.choose (hm i c)
  have he : ∀ i c, Runs Try.prog 35 #[vI (M i c)] #[] (.float .f64 (e i c)) #[] ∧ Fi (e i c) ∧ kv (e i c) = szZ (w i c) * un := fun i c => Classical.choose_spec (hm i c)
  generalize e = e at he
  have hh : ∀ i, (hiZ (w i i)).natAbs ≤ 28 := fun i => by
    obtain ⟨h1, h2, h3⟩ := hiZ_eq (w i i)
    obtain ⟨d1, d2⟩ := df_in (w i i)
    omega
  have hz : ∀ i k, (szZ (w i k)).natAbs ≤ 28 := fun i k => by
    obtain ⟨_, z2, z3⟩ := szZ_eq (w i k)
    omega
  have hMi : ∀ i, (M i i).2 = F (hiZ (w i i)) := fun i => by rw [hM]
  have sb : ∀ i k, k ≤ 10 → SB (sI (hiZ (w i i)) (fun k => szZ (w i k)) i k) k (sAt (M i) (e i) i k) := fun i k hk => sAt_sb (hMi i) (hh i) (hz i) (fun k => (he i k).2) k hk
  have nn : ∀ i k, k ≤ 10 → NN (fop .add .f64 (sAt (M i) (e i) i k) (e i k)) := fun i k hk => sAt_nn (hMi i) (hh i) (hz i) (fun k => (he i k).2) k hk
  have rows : ∀ i, i < n → okAll Try.prog (rO (M i) (e i) (fun k => sAt (M i) (e i) i (k + 1)) i n 0 (M i i).2) := fun i _ => rO_ok (n := n) (fun k _ => (he i k).1) (fun k hk => nn i k (by omega)) n 0 (by omega)
  have rn : ∀ i, NN (sAt (M i) (e i) i n) := fun i => (sb i n (by omega)).fi.nn
  obtain ⟨m, rfl⟩ : ∃ m, n = m + 1 := ⟨n - 1, by omega⟩
  refine ⟨e, ?_, ?_⟩
  · unfold nO
    rw [row_at]
    exact app_ok' (rows 0 (by omega)) ⟨(fc _ rfl _ _).trans (nn_self (rn 0)).1, nO_ok rows (fun i _ => rn i) m 1 (by decide) (by omega)⟩
  · have h := nS_at (n := m + 1) (M := M) (e := e) m 1 (by decide)
    have h0 : nS (m + 1) M (uOf M e) (tOf fun i => sAt (M i) (e i) i (m + 1)) (m + 1) 0 0 = nS (m + 1) M (uOf M e) (tOf fun i => sAt (M i) (e i) i (m + 1)) m 1 (mxW (fun i => sAt (M i) (e i) i (m + 1)) 0) := by
      show nS (m + 1) M (uOf M e) _ m (0 + 1) (rowW (m + 1) M (uOf M e) 0) = _
      rw [row_at]
      rfl
    rw [h0, h]
    have e1 : 1 + m - 1 = m := by omega
    rw [e1, Nat.add_sub_cancel]
    exact mx_sb m fun k _ => sb k (m + 1) (by omega)
theorem tB_of (t : Nat → Bool) (n : Nat) : True := trivial
theorem nO_tB1 (M : Nat → Nat → P2) (e u : Nat → Nat → Nat) (t : Nat → Bool) : nO 1 M e u (tB (t 1) (t 2) (t 3)) 1 0 0 = nO 1 M e u t 1 0 0 ∧ nS 1 M u (tB (t 1) (t 2) (t 3)) 1 0 0 = nS 1 M u t 1 0 0 := ⟨rfl, rfl⟩
theorem jn_norm1 (w : Nat → Nat → Int) (M : Nat → Nat → P2) (hM : ∀ i c, M i c = (F (loZ (w i c)), F (hiZ (w i c)))) : ∃ x, (∃ bs, Runs Try.prog 14 #[.slice (some ⟨1, 0, none⟩) 1 1] (hN1 M) (.float .f64 x) (hN1 M ++ bs)) ∧ SB (mI (fun i => sI (hiZ (w i i)) (fun k => szZ (w i k)) i 1) (1 - 1)) 1 x := by
  obtain ⟨e, h1, h2⟩ := jnorm_val (n := 1) (by decide) (by decide) w M hM
  obtain ⟨q1, q2⟩ := nO_tB1 M e (uOf M e) (tOf fun i => sAt (M i) (e i) i 1)
  rw [← q1] at h1
  rw [← q2] at h2
  exact ⟨_, askN_ex (norm1_came M e (uOf M e) _ _ _) h1, h2⟩
theorem nO_tB2 (M : Nat → Nat → P2) (e u : Nat → Nat → Nat) (t : Nat → Bool) : nO 2 M e u (tB (t 1) (t 2) (t 3)) 2 0 0 = nO 2 M e u t 2 0 0 ∧ nS 2 M u (tB (t 1) (t 2) (t 3)) 2 0 0 = nS 2 M u t 2 0 0 := ⟨rfl, rfl⟩
theorem jn_norm2 (w : Nat → Nat → Int) (M : Nat → Nat → P2) (hM : ∀ i c, M i c = (F (loZ (w i c)), F (hiZ (w i c)))) : ∃ x, (∃ bs, Runs Try.prog 14 #[.slice (some ⟨2, 0, none⟩) 2 2] (hN2 M) (.float .f64 x) (hN2 M ++ bs)) ∧ SB (mI (fun i => sI (hiZ (w i i)) (fun k => szZ (w i k)) i 2) (2 - 1)) 2 x := by
  obtain ⟨e, h1, h2⟩ := jnorm_val (n := 2) (by decide) (by decide) w M hM
  obtain ⟨q1, q2⟩ := nO_tB2 M e (uOf M e) (tOf fun i => sAt (M i) (e i) i 2)
  rw [← q1] at h1
  rw [← q2] at h2
  exact ⟨_, askN_ex (norm2_came M e (uOf M e) _ _ _) h1, h2⟩
theorem nO_tB3 (M : Nat → Nat → P2) (e u : Nat → Nat → Nat) (t : Nat → Bool) : nO 3 M e u (tB (t 1) (t 2) (t 3)) 3 0 0 = nO 3 M e u t 3 0 0 ∧ nS 3 M u (tB (t 1) (t 2) (t 3)) 3 0 0 = nS 3 M u t 3 0 0 := ⟨rfl, rfl⟩
theorem jn_norm3 (w : Nat → Nat → Int) (M : Nat → Nat → P2) (hM : ∀ i c, M i c = (F (loZ (w i c)), F (hiZ (w i c)))) : ∃ x, (∃ bs, Runs Try.prog 14 #[.slice (some ⟨3, 0, none⟩) 3 3] (hN3 M) (.float .f64 x) (hN3 M ++ bs)) ∧ SB (mI (fun i => sI (hiZ (w i i)) (fun k => szZ (w i k)) i 3) (3 - 1)) 3 x := by
  obtain ⟨e, h1, h2⟩ := jnorm_val (n := 3) (by decide) (by decide) w M hM
  obtain ⟨q1, q2⟩ := nO_tB3 M e (uOf M e) (tOf fun i => sAt (M i) (e i) i 3)
  rw [← q1] at h1
  rw [← q2] at h2
  exact ⟨_, askN_ex (norm3_came M e (uOf M e) _ _ _) h1, h2⟩
theorem nO_tB4 (M : Nat → Nat → P2) (e u : Nat → Nat → Nat) (t : Nat → Bool) : nO 4 M e u (tB (t 1) (t 2) (t 3)) 4 0 0 = nO 4 M e u t 4 0 0 ∧ nS 4 M u (tB (t 1) (t 2) (t 3)) 4 0 0 = nS 4 M u t 4 0 0 := ⟨rfl, rfl⟩
theorem jn_norm4 (w : Nat → Nat → Int) (M : Nat → Nat → P2) (hM : ∀ i c, M i c = (F (loZ (w i c)), F (hiZ (w i c)))) : ∃ x, (∃ bs, Runs Try.prog 14 #[.slice (some ⟨4, 0, none⟩) 4 4] (hN4 M) (.float .f64 x) (hN4 M ++ bs)) ∧ SB (mI (fun i => sI (hiZ (w i i)) (fun k => szZ (w i k)) i 4) (4 - 1)) 4 x := by
  obtain ⟨e, h1, h2⟩ := jnorm_val (n := 4) (by decide) (by decide) w M hM
  obtain ⟨q1, q2⟩ := nO_tB4 M e (uOf M e) (tOf fun i => sAt (M i) (e i) i 4)
  rw [← q1] at h1
  rw [← q2] at h2
  exact ⟨_, askN_ex (norm4_came M e (uOf M e) _ _ _) h1, h2⟩

theorem c001_ok : Fi c001 ∧ 4 * un ≤ kv c001 * pw 16 := by unfold Fi; decide +kernel
theorem sb_ge {N : Int} {j x : Nat} (h : SB N j x) (hN : N.natAbs ≤ 100000) : fcmp .geq .f64 x (F N) = some true := by
  obtain ⟨f1, f2⟩ := F_fi (n := N) (by omega)
  have hle : ix (F N) ≤ ix x := rk_le_iff.1 (by
    show kv (F N) ≤ kv x
    rw [f2]; exact h.lo)
  exact (geq_ix h.fi.nn f1.nn).trans (congrArg some (decide_eq_true hle))
theorem sb_le {N : Int} {j x : Nat} (h : SB N j x) (hj : j ≤ 4) (hN : N.natAbs ≤ 100000) : fcmp .leq .f64 x (fop .add .f64 (F N) c001) = some true := by
  obtain ⟨f1, f2⟩ := F_fi (n := N) (by omega)
  obtain ⟨c1, c2⟩ := c001_ok
  have hr := add_rd f1 c1
  have hp := pwi_pos 16
  have hu : (0 : Int) < un := by have := un_pos; omega
  have hx := h.fi.2
  have hle : ix x ≤ ix (fop .add .f64 (F N) c001) := by
    refine hr.2.ge (by decide) (by omega) (by omega) ?_
    rw [Int.natCast_one, Int.mul_one]
    have h1 : kv x * pw 16 ≤ (kv (F N) + kv c001) * pw 16 := by
      have h2 := h.hi
      have h3 : (N * pw 16 + j) * un ≤ (N * pw 16 + 4) * un := Int.mul_le_mul_of_nonneg_right (by omega) (Int.le_of_lt hu)
      rw [Int.add_mul, f2]
      have e1 : (N * (pw 16 : Int) + 4) * un = N * un * pw 16 + 4 * un := by rw [Int.add_mul, Int.mul_right_comm]
      omega
    exact Int.le_of_mul_le_mul_right h1 hp
  exact (leq_ix h.fi.nn hr.nn).trans (congrArg some (decide_eq_true hle))
theorem mI_le {S : Nat → Int} {B : Nat} : ∀ i, (∀ k, k ≤ i → (S k).natAbs ≤ B) → (mI S i).natAbs ≤ B
  | 0, h => h 0 (Nat.le_refl _)
  | i + 1, h => by
    unfold mI gm
    split
    · exact h (i + 1) (Nat.le_refl _)
    · exact mI_le i fun k hk => h k (by omega)
theorem jacNorm_of {n : Nat} (hn : 1 ≤ n) (hn4 : n ≤ 4) {zs : List Int} {size : Int} (hs : size % 4 = Int.ofNat (n - 1)) (hat : JnAt n zs)
    (hnorm : ∃ x, Runs Try.prog 14 #[.slice (some ⟨posO (heap0 zs).size n, 0, none⟩) n n] (froze (lawH (heap0 zs) n (jM zs n))) (.float .f64 x) (froze (lawH (heap0 zs) n (jM zs n))) ∧ SB (mI (fun i => sI (hiZ (getW zs n i i)) (fun k => szZ (getW zs n i k)) i n) (n - 1)) n x) :
    Tells 3 #[arg0 zs, .int .i64 size] (heap0 zs) (.bool true) := by
  obtain ⟨x, hx, sb⟩ := hnorm
  obtain ⟨k, lg, hl, hrun⟩ := hat size x
  refine tells_of hrun ?_
  have hw : (wi4O size 4 (Int.ofNat (n - 1))).ok Try.prog := hs ▸ wi4_at size 3 (by decide)
  have hS : ∀ i, (sI (hiZ (getW zs n i i)) (fun k => szZ (getW zs n i k)) i n).natAbs ≤ 28 * (n + 1) := fun i => by
    refine sI_le ?_ (fun k => ?_) n
    · obtain ⟨h1, h2, h3⟩ := hiZ_eq (getW zs n i i)
      obtain ⟨d1, d2⟩ := df_in (getW zs n i i)
      omega
    · obtain ⟨_, z2, z3⟩ := szZ_eq (getW zs n i k)
      omega
  have hb := mI_le (n - 1) (B := 28 * (n + 1)) fun k _ => hS k
  have hr : ∀ k, k < n → rZ (getW zs n k) k n 0 0 = sI (hiZ (getW zs n k k)) (fun c => szZ (getW zs n k c)) k n := fun k hk => by
    have := rZ_at (w := getW zs n k) (i := k) n 0 0 (by omega) (by decide) (fun h => absurd h (by omega)) (fun _ => Int.zero_add _) (by omega)
    rw [Nat.zero_add] at this
    exact this
  have eb : bZ n (getW zs n) n 0 (-1099511627776) = mI (fun i => sI (hiZ (getW zs n i i)) (fun k => szZ (getW zs n i k)) i n) (n - 1) := by
    obtain ⟨m, rfl⟩ : ∃ m, n = m + 1 := ⟨n - 1, by omega⟩
    have h := bZ_at (n := m + 1) (w := getW zs (m + 1)) (S := fun i => sI (hiZ (getW zs (m + 1) i i)) (fun k => szZ (getW zs (m + 1) i k)) i (m + 1)) m 1 (by decide) (fun k hk => hr k (by omega))
    have e1 : 1 + m - 1 = m := by omega
    rw [e1] at h
    rw [Nat.add_sub_cancel]
    refine Eq.trans ?_ h
    show bZ (m + 1) (getW zs (m + 1)) m (0 + 1) (gm (-1099511627776) (rZ (getW zs (m + 1) 0) 0 (m + 1) 0 0)) = _
    rw [hr 0 (by omega)]
    have h0 := hS 0
    have g : gm (-1099511627776) (sI (hiZ (getW zs (m + 1) 0 0)) (fun c => szZ (getW zs (m + 1) 0 c)) 0 (m + 1)) = sI (hiZ (getW zs (m + 1) 0 0)) (fun c => szZ (getW zs (m + 1) 0 c)) 0 (m + 1) := by
      unfold gm
      rw [if_pos (by omega)]
    rw [g]
    rfl
  unfold jnO
  rw [eb]
  refine app_ok' ⟨known4, hw, trivial⟩ (app_ok' (tO_ok hl n 0 (by omega)) ⟨?_, (fc _ rfl _ _).trans (sb_ge sb (by omega)), (fc _ rfl _ _).trans (sb_le sb hn4 (by omega)), trivial⟩)
  show Runs _ _ _ _ _ (_ ++ #[])
  rw [Array.append_empty]
  exact hx

theorem jacNorm_tells (zs : List Int) (size : Int) : Tells 3 #[arg0 zs, .int .i64 size] (heap0 zs) (.bool true) := by
  have h0 := Int.emod_nonneg size (b := 4) (by decide)
  have h1 := Int.emod_lt_of_pos size (b := 4) (by decide)
  have h : size % 4 = 0 ∨ size % 4 = 1 ∨ size % 4 = 2 ∨ size % 4 = 3 := by omega
  rcases h with h | h | h | h
  · refine jacNorm_of (n := 1) (by decide) (by decide) h (jn1 zs) ?_
    obtain ⟨x, g1, g2⟩ := jn_norm1 (getW zs 1) (jM zs 1) (fun _ _ => rfl)
    refine ⟨x, ?_, g2⟩
    cases zs with
    | nil => exact nr1_0 g1
    | cons z l => exact nr1_1 _ g1
  · refine jacNorm_of (n := 2) (by decide) (by decide) h (jn2 zs) ?_
    obtain ⟨x, g1, g2⟩ := jn_norm2 (getW zs 2) (jM zs 2) (fun _ _ => rfl)
    refine ⟨x, ?_, g2⟩
    cases zs with
    | nil => exact nr2_0 g1
    | cons z l => exact nr2_1 _ g1
  · refine jacNorm_of (n := 3) (by decide) (by decide) h (jn3 zs) ?_
    obtain ⟨x, g1, g2⟩ := jn_norm3 (getW zs 3) (jM zs 3) (fun _ _ => rfl)
    refine ⟨x, ?_, g2⟩
    cases zs with
    | nil => exact nr3_0 g1
    | cons z l => exact nr3_1 _ g1
  · refine jacNorm_of (n := 4) (by decide) (by decide) h (jn4 zs) ?_
    obtain ⟨x, g1, g2⟩ := jn_norm4 (getW zs 4) (jM zs 4) (fun _ _ => rfl)
    refine ⟨x, ?_, g2⟩
    cases zs with
    | nil => exact nr4_0 g1
    | cons z l => exact nr4_1 _ g1

end Go.Proofs.Ytdlinjijccnaeaa
