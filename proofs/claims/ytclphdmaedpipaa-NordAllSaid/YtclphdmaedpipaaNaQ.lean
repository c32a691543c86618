/- NaQ / NaH: several texts in one. -/
import Derived.Test.YtclphdmaedpipaaNaB
import Derived.Test.YtclphdmaedpipaaNaR
import Derived.Test.YtclphdmaedpipaaTpLz
/-!  NordAll: what functions of rows tell, at each shape. -/
namespace Go.Proofs.Ytclphdmaedpipaa
open Go
set_option linter.unusedVariables false
set_option maxRecDepth 100000

theorem dpred_1_1 : DPredAt 1 1 := fun X => by kernel_rfl
theorem datt_1_1 : DAtAt 1 1 := fun X t => by kernel_rfl
theorem dresc_1_1 : DRescAt 1 1 := fun X Y s => by kernel_rfl
theorem cor_1_1 : CorAt 1 1 := fun X L D => by kernel_rfl
theorem dcor_1_1 : DCorAt 1 1 := fun X L D => by kernel_rfl
theorem dpred_1_2 : DPredAt 1 2 := fun X => by kernel_rfl
theorem datt_1_2 : DAtAt 1 2 := fun X t => by kernel_rfl
theorem dresc_1_2 : DRescAt 1 2 := fun X Y s => by kernel_rfl
theorem cor_1_2 : CorAt 1 2 := fun X L D => by kernel_rfl
theorem dcor_1_2 : DCorAt 1 2 := fun X L D => by kernel_rfl
theorem dpred_1_3 : DPredAt 1 3 := fun X => by kernel_rfl
theorem datt_1_3 : DAtAt 1 3 := fun X t => by kernel_rfl
theorem dresc_1_3 : DRescAt 1 3 := fun X Y s => by kernel_rfl
theorem cor_1_3 : CorAt 1 3 := fun X L D => by kernel_rfl
theorem dcor_1_3 : DCorAt 1 3 := fun X L D => by kernel_rfl
theorem dpred_2_1 : DPredAt 2 1 := fun X => by kernel_rfl
theorem datt_2_1 : DAtAt 2 1 := fun X t => by kernel_rfl
theorem dresc_2_1 : DRescAt 2 1 := fun X Y s => by kernel_rfl
theorem cor_2_1 : CorAt 2 1 := fun X L D => by kernel_rfl
theorem dcor_2_1 : DCorAt 2 1 := fun X L D => by kernel_rfl
theorem dpred_2_2 : DPredAt 2 2 := fun X => by kernel_rfl
theorem datt_2_2 : DAtAt 2 2 := fun X t => by kernel_rfl
theorem dresc_2_2 : DRescAt 2 2 := fun X Y s => by kernel_rfl
theorem cor_2_2 : CorAt 2 2 := fun X L D => by kernel_rfl
theorem dcor_2_2 : DCorAt 2 2 := fun X L D => by kernel_rfl
theorem dpred_2_3 : DPredAt 2 3 := fun X => by kernel_rfl
theorem datt_2_3 : DAtAt 2 3 := fun X t => by kernel_rfl
theorem dresc_2_3 : DRescAt 2 3 := fun X Y s => by kernel_rfl
theorem cor_2_3 : CorAt 2 3 := fun X L D => by kernel_rfl
theorem dcor_2_3 : DCorAt 2 3 := fun X L D => by kernel_rfl
theorem dpred_3_1 : DPredAt 3 1 := fun X => by kernel_rfl
theorem datt_3_1 : DAtAt 3 1 := fun X t => by kernel_rfl
theorem dresc_3_1 : DRescAt 3 1 := fun X Y s => by kernel_rfl
theorem cor_3_1 : CorAt 3 1 := fun X L D => by kernel_rfl
theorem dcor_3_1 : DCorAt 3 1 := fun X L D => by kernel_rfl
theorem dpred_3_2 : DPredAt 3 2 := fun X => by kernel_rfl
theorem datt_3_2 : DAtAt 3 2 := fun X t => by kernel_rfl
theorem dresc_3_2 : DRescAt 3 2 := fun X Y s => by kernel_rfl
theorem cor_3_2 : CorAt 3 2 := fun X L D => by kernel_rfl
theorem dcor_3_2 : DCorAt 3 2 := fun X L D => by kernel_rfl
theorem dpred_3_3 : DPredAt 3 3 := fun X => by kernel_rfl
theorem datt_3_3 : DAtAt 3 3 := fun X t => by kernel_rfl
theorem dresc_3_3 : DRescAt 3 3 := fun X Y s => by kernel_rfl
theorem cor_3_3 : CorAt 3 3 := fun X L D => by kernel_rfl
theorem dcor_3_3 : DCorAt 3 3 := fun X L D => by kernel_rfl
theorem dpred_4_1 : DPredAt 4 1 := fun X => by kernel_rfl
theorem datt_4_1 : DAtAt 4 1 := fun X t => by kernel_rfl
theorem dresc_4_1 : DRescAt 4 1 := fun X Y s => by kernel_rfl
theorem cor_4_1 : CorAt 4 1 := fun X L D => by kernel_rfl
theorem dcor_4_1 : DCorAt 4 1 := fun X L D => by kernel_rfl
theorem dpred_4_2 : DPredAt 4 2 := fun X => by kernel_rfl
theorem datt_4_2 : DAtAt 4 2 := fun X t => by kernel_rfl
theorem dresc_4_2 : DRescAt 4 2 := fun X Y s => by kernel_rfl
theorem cor_4_2 : CorAt 4 2 := fun X L D => by kernel_rfl
theorem dcor_4_2 : DCorAt 4 2 := fun X L D => by kernel_rfl
theorem dpred_4_3 : DPredAt 4 3 := fun X => by kernel_rfl
theorem datt_4_3 : DAtAt 4 3 := fun X t => by kernel_rfl
theorem dresc_4_3 : DRescAt 4 3 := fun X Y s => by kernel_rfl
theorem cor_4_3 : CorAt 4 3 := fun X L D => by kernel_rfl
theorem dcor_4_3 : DCorAt 4 3 := fun X L D => by kernel_rfl
theorem dpred_5_1 : DPredAt 5 1 := fun X => by kernel_rfl
theorem datt_5_1 : DAtAt 5 1 := fun X t => by kernel_rfl
theorem dresc_5_1 : DRescAt 5 1 := fun X Y s => by kernel_rfl
theorem cor_5_1 : CorAt 5 1 := fun X L D => by kernel_rfl
theorem dcor_5_1 : DCorAt 5 1 := fun X L D => by kernel_rfl
theorem dpred_5_2 : DPredAt 5 2 := fun X => by kernel_rfl
theorem datt_5_2 : DAtAt 5 2 := fun X t => by kernel_rfl
theorem dresc_5_2 : DRescAt 5 2 := fun X Y s => by kernel_rfl
theorem cor_5_2 : CorAt 5 2 := fun X L D => by kernel_rfl
theorem dcor_5_2 : DCorAt 5 2 := fun X L D => by kernel_rfl
theorem dpred_5_3 : DPredAt 5 3 := fun X => by kernel_rfl
theorem datt_5_3 : DAtAt 5 3 := fun X t => by kernel_rfl
theorem dresc_5_3 : DRescAt 5 3 := fun X Y s => by kernel_rfl
theorem cor_5_3 : CorAt 5 3 := fun X L D => by kernel_rfl
theorem dcor_5_3 : DCorAt 5 3 := fun X L D => by kernel_rfl

end Go.Proofs.Ytclphdmaedpipaa

/-!  NordAll: what a step of each power tells; Scale of what was divided by seven. -/
namespace Go.Proofs.Ytclphdmaedpipaa
open Go
set_option linter.unusedVariables false
set_option linter.unusedSimpArgs false
set_option maxRecDepth 100000

def hW (w : Nat) : Nat := (993 + w) * 4503599627370496
def HwOK (w : Nat) : Prop := (cvU (Int.ofNat w) (Int.ofNat w)).ok Try.prog ∧ (shlU (Int.ofNat w) (Int.ofNat (2 ^ w))).ok Try.prog ∧ Runs Try.prog 45 #[fW (FloatKind.f64.nearest (Int.ofNat (2 ^ w))), .int .i64 (-30)] #[] (fW (hW w)) #[] ∧ Runs Try.prog 50 #[.int .i64 (Int.ofNat (2 ^ w))] #[] (fW (hW w)) #[]
theorem hw_of {w : Nat} (h1 : (cvU (Int.ofNat w) (Int.ofNat w)).ok Try.prog) (h2 : (shlU (Int.ofNat w) (Int.ofNat (2 ^ w))).ok Try.prog)
    (h3 : (askN noF noC 12 45 #[fW (FloatKind.f64.nearest (Int.ofNat (2 ^ w))), .int .i64 (-30)] #[] []).map (fun r => (r.1, r.2.2)) = some (fW (hW w), []))
    (h4 : (askN noF noC 12 50 #[.int .i64 (Int.ofNat (2 ^ w))] #[] []).map (fun r => (r.1, r.2.2)) = some (fW (hW w), [])) : HwOK w :=
  ⟨h1, h2, quiet_of' h3 trivial rfl rfl, quiet_of' h4 trivial rfl rfl⟩
theorem hw_0 : HwOK 0 := hw_of (by show _ = _; kernel_rfl) (by show _ = _; kernel_rfl) (by kernel_rfl) (by kernel_rfl)
theorem hw_1 : HwOK 1 := hw_of (by show _ = _; kernel_rfl) (by show _ = _; kernel_rfl) (by kernel_rfl) (by kernel_rfl)
theorem hw_2 : HwOK 2 := hw_of (by show _ = _; kernel_rfl) (by show _ = _; kernel_rfl) (by kernel_rfl) (by kernel_rfl)
theorem hw_3 : HwOK 3 := hw_of (by show _ = _; kernel_rfl) (by show _ = _; kernel_rfl) (by kernel_rfl) (by kernel_rfl)
theorem hw_4 : HwOK 4 := hw_of (by show _ = _; kernel_rfl) (by show _ = _; kernel_rfl) (by kernel_rfl) (by kernel_rfl)
theorem hw_5 : HwOK 5 := hw_of (by show _ = _; kernel_rfl) (by show _ = _; kernel_rfl) (by kernel_rfl) (by kernel_rfl)
theorem hw_6 : HwOK 6 := hw_of (by show _ = _; kernel_rfl) (by show _ = _; kernel_rfl) (by kernel_rfl) (by kernel_rfl)
theorem hw_7 : HwOK 7 := hw_of (by show _ = _; kernel_rfl) (by show _ = _; kernel_rfl) (by kernel_rfl) (by kernel_rfl)
theorem hw_8 : HwOK 8 := hw_of (by show _ = _; kernel_rfl) (by show _ = _; kernel_rfl) (by kernel_rfl) (by kernel_rfl)
theorem hw_9 : HwOK 9 := hw_of (by show _ = _; kernel_rfl) (by show _ = _; kernel_rfl) (by kernel_rfl) (by kernel_rfl)
theorem hw_10 : HwOK 10 := hw_of (by show _ = _; kernel_rfl) (by show _ = _; kernel_rfl) (by kernel_rfl) (by kernel_rfl)
theorem hw_11 : HwOK 11 := hw_of (by show _ = _; kernel_rfl) (by show _ = _; kernel_rfl) (by kernel_rfl) (by kernel_rfl)
theorem hw_12 : HwOK 12 := hw_of (by show _ = _; kernel_rfl) (by show _ = _; kernel_rfl) (by kernel_rfl) (by kernel_rfl)
theorem hw_13 : HwOK 13 := hw_of (by show _ = _; kernel_rfl) (by show _ = _; kernel_rfl) (by kernel_rfl) (by kernel_rfl)
theorem hw_14 : HwOK 14 := hw_of (by show _ = _; kernel_rfl) (by show _ = _; kernel_rfl) (by kernel_rfl) (by kernel_rfl)
theorem hw_15 : HwOK 15 := hw_of (by show _ = _; kernel_rfl) (by show _ = _; kernel_rfl) (by kernel_rfl) (by kernel_rfl)
theorem hw_16 : HwOK 16 := hw_of (by show _ = _; kernel_rfl) (by show _ = _; kernel_rfl) (by kernel_rfl) (by kernel_rfl)
theorem hw_17 : HwOK 17 := hw_of (by show _ = _; kernel_rfl) (by show _ = _; kernel_rfl) (by kernel_rfl) (by kernel_rfl)
theorem hw_18 : HwOK 18 := hw_of (by show _ = _; kernel_rfl) (by show _ = _; kernel_rfl) (by kernel_rfl) (by kernel_rfl)
theorem hw_19 : HwOK 19 := hw_of (by show _ = _; kernel_rfl) (by show _ = _; kernel_rfl) (by kernel_rfl) (by kernel_rfl)
theorem hw_20 : HwOK 20 := hw_of (by show _ = _; kernel_rfl) (by show _ = _; kernel_rfl) (by kernel_rfl) (by kernel_rfl)
theorem hw_21 : HwOK 21 := hw_of (by show _ = _; kernel_rfl) (by show _ = _; kernel_rfl) (by kernel_rfl) (by kernel_rfl)
theorem hw_22 : HwOK 22 := hw_of (by show _ = _; kernel_rfl) (by show _ = _; kernel_rfl) (by kernel_rfl) (by kernel_rfl)
theorem hw_23 : HwOK 23 := hw_of (by show _ = _; kernel_rfl) (by show _ = _; kernel_rfl) (by kernel_rfl) (by kernel_rfl)
theorem hw_24 : HwOK 24 := hw_of (by show _ = _; kernel_rfl) (by show _ = _; kernel_rfl) (by kernel_rfl) (by kernel_rfl)
theorem hw_25 : HwOK 25 := hw_of (by show _ = _; kernel_rfl) (by show _ = _; kernel_rfl) (by kernel_rfl) (by kernel_rfl)
theorem hw_26 : HwOK 26 := hw_of (by show _ = _; kernel_rfl) (by show _ = _; kernel_rfl) (by kernel_rfl) (by kernel_rfl)
theorem hw_27 : HwOK 27 := hw_of (by show _ = _; kernel_rfl) (by show _ = _; kernel_rfl) (by kernel_rfl) (by kernel_rfl)
theorem hw_28 : HwOK 28 := hw_of (by show _ = _; kernel_rfl) (by show _ = _; kernel_rfl) (by kernel_rfl) (by kernel_rfl)
theorem hw_29 : HwOK 29 := hw_of (by show _ = _; kernel_rfl) (by show _ = _; kernel_rfl) (by kernel_rfl) (by kernel_rfl)
theorem hw_30 : HwOK 30 := hw_of (by show _ = _; kernel_rfl) (by show _ = _; kernel_rfl) (by kernel_rfl) (by kernel_rfl)
theorem hw_31 : HwOK 31 := hw_of (by show _ = _; kernel_rfl) (by show _ = _; kernel_rfl) (by kernel_rfl) (by kernel_rfl)
theorem hw_32 : HwOK 32 := hw_of (by show _ = _; kernel_rfl) (by show _ = _; kernel_rfl) (by kernel_rfl) (by kernel_rfl)
theorem hw_all {w : Nat} (h : w ≤ 32) : HwOK w := by
  have : w = 0 ∨ w = 1 ∨ w = 2 ∨ w = 3 ∨ w = 4 ∨ w = 5 ∨ w = 6 ∨ w = 7 ∨ w = 8 ∨ w = 9 ∨ w = 10 ∨ w = 11 ∨ w = 12 ∨ w = 13 ∨ w = 14 ∨ w = 15 ∨ w = 16 ∨ w = 17 ∨ w = 18 ∨ w = 19 ∨ w = 20 ∨ w = 21 ∨ w = 22 ∨ w = 23 ∨ w = 24 ∨ w = 25 ∨ w = 26 ∨ w = 27 ∨ w = 28 ∨ w = 29 ∨ w = 30 ∨ w = 31 ∨ w = 32 := by omega
  rcases this with rfl | rfl | rfl | rfl | rfl | rfl | rfl | rfl | rfl | rfl | rfl | rfl | rfl | rfl | rfl | rfl | rfl | rfl | rfl | rfl | rfl | rfl | rfl | rfl | rfl | rfl | rfl | rfl | rfl | rfl | rfl | rfl | rfl
  · exact hw_0
  · exact hw_1
  · exact hw_2
  · exact hw_3
  · exact hw_4
  · exact hw_5
  · exact hw_6
  · exact hw_7
  · exact hw_8
  · exact hw_9
  · exact hw_10
  · exact hw_11
  · exact hw_12
  · exact hw_13
  · exact hw_14
  · exact hw_15
  · exact hw_16
  · exact hw_17
  · exact hw_18
  · exact hw_19
  · exact hw_20
  · exact hw_21
  · exact hw_22
  · exact hw_23
  · exact hw_24
  · exact hw_25
  · exact hw_26
  · exact hw_27
  · exact hw_28
  · exact hw_29
  · exact hw_30
  · exact hw_31
  · exact hw_32

/-! numbers that Scale moves as they are -/
def goodW (x : Nat) : Bool := Nat.blt x 18446744073709551616 && (x % 9223372036854775808 == 0 || (Nat.ble 900 (x / 4503599627370496 % 2048) && Nat.ble (x / 4503599627370496 % 2048) 1100))
theorem good_x7 : ∀ r : Nat, r < 201 → goodW (fop .quo .f64 (flN (r : Int)) 4619567317775286272) = true := by decide +kernel
theorem good_0 : fop .quo .f64 0 4619567317775286272 = 0 := by decide +kernel
noncomputable def askS8 (f : FuncId) : Nat := if f == 55 then 1 else 2
theorem dscale_came (x y : Nat) (k : Int) : (askN askSc noC 12 49 #[.float .f64 x, .int .i64 k] #[] [isG y]).map (fun r => (r.1, r.2.2)) = some (.float .f64 y, [.run 55 #[.float .f64 x, .int .i64 k] #[] (.float .f64 y) #[]]) := by kernel_rfl
theorem dscale_by {x y : Nat} {k : Int} (h : Runs Try.prog 55 #[.float .f64 x, .int .i64 k] #[] (.float .f64 y) #[]) : Runs Try.prog 49 #[fW x, .int .i64 k] #[] (fW y) #[] :=
  quiet_of' (dscale_came x y k) ⟨h, trivial⟩ rfl rfl
theorem ld_zero {x : Nat} (h : x % 9223372036854775808 = 0) (hx : x < 18446744073709551616) (k : Int) : ∃ y, Runs Try.prog 55 #[.float .f64 x, .int .i64 k] #[] (.float .f64 y) #[] := by
  have : x = 0 ∨ x = 9223372036854775808 := by omega
  rcases this with rfl | rfl
  · exact ⟨_, ldexp_zero k fi_zero.1.nn (by decide)⟩
  · exact ⟨_, ldexp_zero k (show Fi 9223372036854775808 from ⟨by decide, by decide, by decide⟩).nn (by decide)⟩
theorem ld_good {x : Nat} (h : goodW x = true) {k : Int} (hk : x % 9223372036854775808 = 0 ∨ (-400 ≤ k ∧ k ≤ 400)) : ∃ y, Runs Try.prog 55 #[.float .f64 x, .int .i64 k] #[] (.float .f64 y) #[] := by
  unfold goodW at h
  rw [Bool.and_eq_true, Bool.or_eq_true, Bool.and_eq_true] at h
  obtain ⟨h1, h2⟩ := h
  have h1 := Nat.blt_eq.mp h1
  by_cases h0 : x % 9223372036854775808 = 0
  · exact ld_zero h0 h1 k
  · have hk := hk.resolve_left h0
    have h2 := h2.resolve_left (fun h => h0 (by simpa using h))
    have g1 := Nat.le_of_ble_eq_true h2.1
    have g2 := Nat.le_of_ble_eq_true h2.2
    obtain ⟨s, e, l, hs, he, hl, rfl⟩ := W3_fields x h1
    have hee : W3 s e l / 4503599627370496 % 2048 = e := by unfold W3; omega
    rw [hee] at g1 g2
    obtain ⟨j, hj⟩ : ∃ j : Nat, k + e = j := ⟨(k + e).toNat, by omega⟩
    obtain ⟨r, r1, _⟩ := ldexp_runs (s := s) (l := l) (k := k) hs (by omega) hl (by omega) (by omega) (by omega) hj (by omega) (by omega)
    exact ⟨r, r1⟩
theorem x7_good {q k : Nat} {f : Nat → Int} (h : ∀ i, 0 ≤ f i ∧ f i ≤ 200) (j i : Nat) : goodW (x7 (xT q k f) j i) = true ∧ (q < j → x7 (xT q k f) j i = 0) := by
  unfold x7 xT
  by_cases c : j ≤ q
  · rw [if_pos c]
    have := h (j * k + i)
    have g := good_x7 (f (j * k + i)).toNat (by omega)
    rw [show (((f (j * k + i)).toNat : Nat) : Int) = f (j * k + i) by omega] at g
    exact ⟨g, fun h => absurd c (by omega)⟩
  · rw [if_neg c, good_0]
    exact ⟨by decide, fun _ => rfl⟩
theorem jkW_bd {j : Nat} {s : Int} (hj : j ≤ 5) (h1 : -40 ≤ s) (h2 : s ≤ 40) : -400 ≤ jkW j s ∧ jkW j s ≤ 400 := by
  unfold jkW
  have b1 := Int.mul_le_mul_of_nonneg_left h1 (show (0 : Int) ≤ j by omega)
  have b2 := Int.mul_le_mul_of_nonneg_left h2 (show (0 : Int) ≤ j by omega)
  have e : Int.ofNat j * s = (j : Int) * s := rfl
  rw [wrap_id (by omega) (by omega)]
  omega
theorem scales_x7 {q k : Nat} (hq : q ≤ 5) {f : Nat → Int} (h : ∀ i, 0 ≤ f i ∧ f i ≤ 200) {s : Int} (h1 : -40 ≤ s) (h2 : s ≤ 40) : ∃ Y : Nat → Nat → Nat, ∀ j i,
    Runs Try.prog 45 #[fW (x7 (xT q k f) j i), .int .i64 (jkW j s)] #[] (fW (Y j i)) #[] ∧ Runs Try.prog 49 #[fW (x7 (xT q k f) j i), .int .i64 (jkW j s)] #[] (fW (Y j i)) #[] := by
  have h : ∀ p : Nat × Nat, ∃ y, Runs Try.prog 55 #[.float .f64 (x7 (xT q k f) p.1 p.2), .int .i64 (jkW p.1 s)] #[] (.float .f64 y) #[] := by
    rintro ⟨j, i⟩
    obtain ⟨g1, g2⟩ := x7_good (q := q) (k := k) h j i
    refine ld_good g1 ?_
    by_cases c : j ≤ q
    · exact .inr (jkW_bd (by omega) h1 h2)
    · refine .inl ?_
      show x7 (xT q k f) j i % _ = 0
      rw [g2 (by omega)]
  obtain ⟨Y, hY⟩ := Classical.axiomOfChoice h
  exact ⟨fun j i => Y (j, i), fun j i => ⟨scale_by (hY (j, i)), dscale_by (hY (j, i))⟩⟩

end Go.Proofs.Ytclphdmaedpipaa
