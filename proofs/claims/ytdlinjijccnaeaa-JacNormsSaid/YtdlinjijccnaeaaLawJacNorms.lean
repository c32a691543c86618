/- The law JacNorms returns true, whatever it is handed. -/
import Derived.Test.YtdlinjijccnaeaaJacNormsR1
import Derived.Test.YtdlinjijccnaeaaJacNormsR2
import Derived.Test.YtdlinjijccnaeaaJacNormsR3
import Derived.Test.YtdlinjijccnaeaaJacNormsR4a
import Derived.Test.YtdlinjijccnaeaaJacNormsR4b
import Derived.Test.YtdlinjijccnaeaaJacNormsR4c
import Derived.Test.YtdlinjijccnaeaaJacNormsR4d
namespace Go.Proofs.Ytdlinjijccnaeaa
open Go
set_option linter.unusedVariables false
set_option linter.unusedSimpArgs false
set_option maxRecDepth 100000
theorem ns1 : ∀ zs : List Int, NsAt 1 zs
  | [] => ns1_0 
  | [z0] => ns1_1 z0
  | z0 :: z1 :: tail => ns1_t z0 z1 tail
theorem ns2 : ∀ zs : List Int, NsAt 2 zs
  | [] => ns2_0 
  | [z0] => ns2_1 z0
  | [z0, z1] => ns2_2 z0 z1
  | [z0, z1, z2] => ns2_3 z0 z1 z2
  | z0 :: z1 :: z2 :: z3 :: tail => ns2_t z0 z1 z2 z3 tail
theorem ns3 : ∀ zs : List Int, NsAt 3 zs
  | [] => ns3_0 
  | [z0] => ns3_1 z0
  | [z0, z1] => ns3_2 z0 z1
  | [z0, z1, z2] => ns3_3 z0 z1 z2
  | [z0, z1, z2, z3] => ns3_4 z0 z1 z2 z3
  | [z0, z1, z2, z3, z4] => ns3_5 z0 z1 z2 z3 z4
  | [z0, z1, z2, z3, z4, z5] => ns3_6 z0 z1 z2 z3 z4 z5
  | [z0, z1, z2, z3, z4, z5, z6] => ns3_7 z0 z1 z2 z3 z4 z5 z6
  | [z0, z1, z2, z3, z4, z5, z6, z7] => ns3_8 z0 z1 z2 z3 z4 z5 z6 z7
  | z0 :: z1 :: z2 :: z3 :: z4 :: z5 :: z6 :: z7 :: z8 :: tail => ns3_t z0 z1 z2 z3 z4 z5 z6 z7 z8 tail
theorem ns4 : ∀ zs : List Int, NsAt 4 zs
  | [] => ns4_0 
  | [z0] => ns4_1 z0
  | [z0, z1] => ns4_2 z0 z1
  | [z0, z1, z2] => ns4_3 z0 z1 z2
  | [z0, z1, z2, z3] => ns4_4 z0 z1 z2 z3
  | [z0, z1, z2, z3, z4] => ns4_5 z0 z1 z2 z3 z4
  | [z0, z1, z2, z3, z4, z5] => ns4_6 z0 z1 z2 z3 z4 z5
  | [z0, z1, z2, z3, z4, z5, z6] => ns4_7 z0 z1 z2 z3 z4 z5 z6
  | [z0, z1, z2, z3, z4, z5, z6, z7] => ns4_8 z0 z1 z2 z3 z4 z5 z6 z7
  | [z0, z1, z2, z3, z4, z5, z6, z7, z8] => ns4_9 z0 z1 z2 z3 z4 z5 z6 z7 z8
  | [z0, z1, z2, z3, z4, z5, z6, z7, z8, z9] => ns4_10 z0 z1 z2 z3 z4 z5 z6 z7 z8 z9
  | [z0, z1, z2, z3, z4, z5, z6, z7, z8, z9, z10] => ns4_11 z0 z1 z2 z3 z4 z5 z6 z7 z8 z9 z10
  | [z0, z1, z2, z3, z4, z5, z6, z7, z8, z9, z10, z11] => ns4_12 z0 z1 z2 z3 z4 z5 z6 z7 z8 z9 z10 z11
  | [z0, z1, z2, z3, z4, z5, z6, z7, z8, z9, z10, z11, z12] => ns4_13 z0 z1 z2 z3 z4 z5 z6 z7 z8 z9 z10 z11 z12
  | [z0, z1, z2, z3, z4, z5, z6, z7, z8, z9, z10, z11, z12, z13] => ns4_14 z0 z1 z2 z3 z4 z5 z6 z7 z8 z9 z10 z11 z12 z13
  | [z0, z1, z2, z3, z4, z5, z6, z7, z8, z9, z10, z11, z12, z13, z14] => ns4_15 z0 z1 z2 z3 z4 z5 z6 z7 z8 z9 z10 z11 z12 z13 z14
  | z0 :: z1 :: z2 :: z3 :: z4 :: z5 :: z6 :: z7 :: z8 :: z9 :: z10 :: z11 :: z12 :: z13 :: z14 :: z15 :: tail => ns4_t z0 z1 z2 z3 z4 z5 z6 z7 z8 z9 z10 z11 z12 z13 z14 z15 tail

theorem cO2_ok {lg : Bool} {len b : Nat} {w : Nat → Int} {k : Int} {M : Nat → P2} {n : Nat} (hM : ∀ c, (mkQ (w c) k (M c)).ok Try.prog) (h : lg = true → b + n ≤ len) : ∀ m c : Nat, c + m ≤ n → okAll Try.prog (cO2 lg len b w k M m c)
  | 0, _, _ => trivial
  | m + 1, c, hc => by
    unfold cO2
    refine app_ok' ?_ ⟨hM c, cO2_ok hM h m (c + 1) (by omega)⟩
    cases lg with
    | false => exact trivial
    | true =>
      have := h rfl
      exact ⟨(cmp_lss _ _).trans (congrArg some (decide_eq_true (Int.ofNat_lt.2 (by omega)))), trivial⟩
theorem tO2_ok {lg : Bool} {len n : Nat} {w : Nat → Nat → Int} {k : Int} {M : Nat → Nat → P2} (hM : ∀ i c, (mkQ (w i c) k (M i c)).ok Try.prog) (h : lg = true → n * n ≤ len) : ∀ m i : Nat, i + m ≤ n → okAll Try.prog (tO2 lg len n w k M m i)
  | 0, _, _ => trivial
  | m + 1, i, hi => by
    unfold tO2
    refine app_ok' (cO2_ok (n := n) (hM i) (fun hl => ?_) n 0 (by omega)) (tO2_ok hM h m (i + 1) (by omega))
    have h1 := h hl
    have h2 : (i + 1) * n ≤ n * n := Nat.mul_le_mul_right _ (by omega)
    rw [Nat.add_mul, Nat.one_mul] at h2
    omega
theorem wi4_atS (z : Int) (k : Nat) (hk : k < 1000) : (wi4O z (Int.ofNat (k + 1)) (z % Int.ofNat (k + 1))).ok Try.prog := within4 z k (by omega)
theorem known4S : Runs Try.prog 12 #[] #[] (.bool true) #[] := known4

/-! what is rare -/
noncomputable def askRr (f : FuncId) : Nat := if f == 57 then 1 else 2
def rareW (j : Nat) : Nat := match j with | 0 => nanN | 1 => pinf | 2 => ninf | 3 => 0 | 4 => 1 | 5 => 18442240474082181119 | 6 => 9218868437227405311 | 7 => 4607182418800017408 | 8 => 4602678819172646912 | _ => 13835058055282163712
noncomputable def wi1O (z n k : Int) : Obl := .run 57 #[.int .i64 z, .int .i64 n] #[] (.int .i64 k) #[]
theorem rare_0 (z : Int) : (askN askRr noC 12 30 #[.int .i64 z] #[] [isI 0]).map (fun r => (r.1, r.2.2)) = some (.float .f64 (rareW 0), [wi1O z 10 0]) := by kernel_rfl
theorem rare_1 (z : Int) : (askN askRr noC 12 30 #[.int .i64 z] #[] [isI 1]).map (fun r => (r.1, r.2.2)) = some (.float .f64 (rareW 1), [wi1O z 10 1]) := by kernel_rfl
theorem rare_2 (z : Int) : (askN askRr noC 12 30 #[.int .i64 z] #[] [isI 2]).map (fun r => (r.1, r.2.2)) = some (.float .f64 (rareW 2), [wi1O z 10 2]) := by kernel_rfl
theorem rare_3 (z : Int) : (askN askRr noC 12 30 #[.int .i64 z] #[] [isI 3]).map (fun r => (r.1, r.2.2)) = some (.float .f64 (rareW 3), [wi1O z 10 3]) := by kernel_rfl
theorem rare_4 (z : Int) : (askN askRr noC 12 30 #[.int .i64 z] #[] [isI 4]).map (fun r => (r.1, r.2.2)) = some (.float .f64 (rareW 4), [wi1O z 10 4]) := by kernel_rfl
theorem rare_5 (z : Int) : (askN askRr noC 12 30 #[.int .i64 z] #[] [isI 5]).map (fun r => (r.1, r.2.2)) = some (.float .f64 (rareW 5), [wi1O z 10 5]) := by kernel_rfl
theorem rare_6 (z : Int) : (askN askRr noC 12 30 #[.int .i64 z] #[] [isI 6]).map (fun r => (r.1, r.2.2)) = some (.float .f64 (rareW 6), [wi1O z 10 6]) := by kernel_rfl
theorem rare_7 (z : Int) : (askN askRr noC 12 30 #[.int .i64 z] #[] [isI 7]).map (fun r => (r.1, r.2.2)) = some (.float .f64 (rareW 7), [wi1O z 10 7]) := by kernel_rfl
theorem rare_8 (z : Int) : (askN askRr noC 12 30 #[.int .i64 z] #[] [isI 8]).map (fun r => (r.1, r.2.2)) = some (.float .f64 (rareW 8), [wi1O z 10 8]) := by kernel_rfl
theorem rare_9 (z : Int) : (askN askRr noC 12 30 #[.int .i64 z] #[] [isI 9]).map (fun r => (r.1, r.2.2)) = some (.float .f64 (rareW 9), [wi1O z 10 9]) := by kernel_rfl
theorem rare_runs (z : Int) : ∃ j, Runs Try.prog 30 #[.int .i64 z] #[] (.float .f64 (rareW j)) #[] := by
  have h0 := Int.emod_nonneg z (b := 10) (by decide)
  have h1 := Int.emod_lt_of_pos z (b := 10) (by decide)
  have w : (wi1O z 10 (z % 10)).ok Try.prog := within1 z 9 (by decide)
  have h : z % 10 = 0 ∨ z % 10 = 1 ∨ z % 10 = 2 ∨ z % 10 = 3 ∨ z % 10 = 4 ∨ z % 10 = 5 ∨ z % 10 = 6 ∨ z % 10 = 7 ∨ z % 10 = 8 ∨ z % 10 = 9 := by omega
  rcases h with h | h | h | h | h | h | h | h | h | h <;> rw [h] at w
  · exact ⟨0, quiet_of' (rare_0 z) ⟨w, trivial⟩ rfl rfl⟩
  · exact ⟨1, quiet_of' (rare_1 z) ⟨w, trivial⟩ rfl rfl⟩
  · exact ⟨2, quiet_of' (rare_2 z) ⟨w, trivial⟩ rfl rfl⟩
  · exact ⟨3, quiet_of' (rare_3 z) ⟨w, trivial⟩ rfl rfl⟩
  · exact ⟨4, quiet_of' (rare_4 z) ⟨w, trivial⟩ rfl rfl⟩
  · exact ⟨5, quiet_of' (rare_5 z) ⟨w, trivial⟩ rfl rfl⟩
  · exact ⟨6, quiet_of' (rare_6 z) ⟨w, trivial⟩ rfl rfl⟩
  · exact ⟨7, quiet_of' (rare_7 z) ⟨w, trivial⟩ rfl rfl⟩
  · exact ⟨8, quiet_of' (rare_8 z) ⟨w, trivial⟩ rfl rfl⟩
  · exact ⟨9, quiet_of' (rare_9 z) ⟨w, trivial⟩ rfl rfl⟩
theorem rare_nn (j : Nat) : NN (rareW j) ∨ rareW j = nanN := by
  unfold rareW
  split
  · exact .inr rfl
  all_goals exact .inl ⟨by decide, by decide, by decide⟩
theorem leq_some (x y : Nat) : ∃ t, fcmp .leq .f64 x y = some t := ⟨_, rfl⟩
theorem rare_leq {i j : Nat} (h : fcmp .leq .f64 (rareW i) (rareW j) = some true) : NN (rareW i) ∧ NN (rareW j) := by
  rcases rare_nn i with hi | hi
  · rcases rare_nn j with hj | hj
    · exact ⟨hi, hj⟩
    · rw [hj, (nan_leq _).2] at h; cases h
  · rw [hi, (nan_leq _).1] at h; cases h
theorem same1_at {x : Nat} (h : NN x) : Runs Try.prog 19 #[.float .f64 x, .float .f64 x] #[] (.bool true) #[] :=
  quiet_of' (ask := noF) (askC := fltC) (s := [yes true]) (l := [cmpF .eql x x true]) (by kernel_rfl) ⟨(fc _ rfl _ _).trans ((eql_ix h h).trans (congrArg some (decide_eq_true rfl))), trivial⟩ rfl rfl
theorem upd_ok {n : Nat} {M : Nat → Nat → P2} {X : P2} {t : Bool} (hM : OkM n M) (hX : t = true → NN X.1 ∧ NN X.2) : OkM n (updM t n X M) := by
  refine ⟨fun i c => ?_, fun h2 i => ?_⟩
  · unfold updM
    cases t with
    | false => exact hM.nn i c
    | true =>
      cases (Nat.beq i (n - 1) && Nat.beq c 0) with
      | true => exact hX rfl
      | false => exact hM.nn i c
  · have e : updM t n X M i i = M i i := by
      unfold updM
      have : (t && (Nat.beq i (n - 1) && Nat.beq i 0)) = false := by
        cases h1 : Nat.beq i (n - 1) with
        | false => rw [Bool.false_and, Bool.and_false]
        | true => cases h3 : Nat.beq i 0 with
          | false => rw [Bool.and_false, Bool.and_false]
          | true =>
            have a := Nat.eq_of_beq_eq_true h1
            have b := Nat.eq_of_beq_eq_true h3
            omega
      rw [this]; rfl
    rw [e]
    exact hM.gt h2 i
theorem nmQ_ok {f : FuncId} {H : AHeap} {h n x : Nat} (hr : Runs Try.prog f #[.slice (some ⟨posO h n, 0, none⟩) n n] (froze H) (.float .f64 x) (froze H)) : (nmQ f H h n x).ok Try.prog := by
  show Runs _ _ _ _ _ (_ ++ #[])
  rw [Array.append_empty]; exact hr
theorem raQ_ok {H : AHeap} {z : Int} {r : Nat} (hr : Runs Try.prog 30 #[.int .i64 z] #[] (.float .f64 r) #[]) : (raQ H z r).ok Try.prog := by
  show Runs _ _ _ _ _ (_ ++ #[])
  rw [Array.append_empty]; exact hr.quiet rfl rfl _
def hNn (n : Nat) (M : Nat → Nat → P2) : AHeap := match n with | 1 => hN1 M | 2 => hN2 M | 3 => hN3 M | _ => hN4 M
/-- In a law's memory. -/
def InH (n : Nat) (zs : List Int) : Prop := ∀ (f : FuncId) (M M' : Nat → Nat → P2) (X : P2) (tx : Bool) (x : Nat), (∃ bs, Runs Try.prog f #[.slice (some ⟨n, 0, none⟩) n n] (hNn n M') (.float .f64 x) (hNn n M' ++ bs)) →
  Runs Try.prog f #[.slice (some ⟨posO (heap0 zs).size n, 0, none⟩) n n] (froze (lawH2 (heap0 zs) n M M' (xL tx X))) (.float .f64 x) (froze (lawH2 (heap0 zs) n M M' (xL tx X)))
def BothN (n : Nat) : Prop := ∀ M : Nat → Nat → P2, OkM n M → ∃ x, NN x ∧ (∃ bs, Runs Try.prog 14 #[.slice (some ⟨n, 0, none⟩) n n] (hNn n M) (.float .f64 x) (hNn n M ++ bs)) ∧ (∃ bs, Runs Try.prog 24 #[.slice (some ⟨n, 0, none⟩) n n] (hNn n M) (.float .f64 x) (hNn n M ++ bs))

theorem jacNorms_of {n : Nat} (hn : 1 ≤ n) {zs : List Int} {m k rare : Int} (hs : m % 4 = Int.ofNat (n - 1)) (hat : NsAt n zs) (hin : InH n zs) (hbo : BothN n) :
    Tells 11 #[arg0 zs, .int .i64 m, .int .i64 k, .int .i64 rare] (heap0 zs) (.bool true) := by
  have hm : ∀ i c : Nat, ∃ X : P2, (mkQ (getW2 zs n i c) k X).ok Try.prog ∧ Bd 1075 X.1 ∧ Bd 1075 X.2 := fun i c => by
    obtain ⟨a, b, h1, h2, h3, _⟩ := make_runs (getW2 zs n i c) k (jw ((getW2 zs n i c).tdiv 7))
    exact ⟨(a, b), h1, h2, h3⟩
  let M : Nat → Nat → P2 := fun i c => Classical.choose (hm i c)
  have hM : ∀ i c, (mkQ (getW2 zs n i c) k (M i c)).ok Try.prog ∧ Bd 1075 (M i c).1 ∧ Bd 1075 (M i c).2 := fun i c => Classical.choose_spec (hm i c)
  generalize M = M at hM
  have okM : OkM n M := ⟨fun i c => ⟨((hM i c).2.1.fi (by decide)).nn, ((hM i c).2.2.fi (by decide)).nn⟩, fun _ i => ((hM i i).2.2.fi (by decide)).2.1⟩
  obtain ⟨i1, q1⟩ := rare_runs rare
  obtain ⟨i2, q2⟩ := rare_runs (jw (rare.tdiv 10))
  obtain ⟨t, ht⟩ := leq_some (rareW i1) (rareW i2)
  have okU : OkM n (updM t n (rareW i1, rareW i2) M) := upd_ok okM (fun h => by subst h; exact rare_leq ht)
  obtain ⟨x, x0, x1, x2⟩ := hbo M okM
  obtain ⟨y, y0, y1, y2⟩ := hbo _ okU
  obtain ⟨q, lg, hl, hrun⟩ := hat m k rare M x y (rareW i1) (rareW i2) t
  refine tells_of hrun ?_
  have hw : (wi4O m 4 (Int.ofNat (n - 1))).ok Try.prog := hs ▸ wi4_atS m 3 (by decide)
  unfold nsO
  exact app_ok' ⟨known4S, hw, trivial⟩ (app_ok' (tO2_ok (fun i c => (hM i c).1) hl n 0 (by omega)) ⟨nmQ_ok (hin _ _ _ _ _ _ x1), nmQ_ok (hin _ _ _ _ _ _ x2), (fc _ rfl _ _).trans (nn_self x0).1, raQ_ok q1, raQ_ok q2, (fc _ rfl _ _).trans ht,
    nmQ_ok (hin _ _ _ _ _ _ y1), nmQ_ok (hin _ _ _ _ _ _ y2), same1_at y0, trivial⟩)

theorem jacNorms_tells (zs : List Int) (m k rare : Int) : Tells 11 #[arg0 zs, .int .i64 m, .int .i64 k, .int .i64 rare] (heap0 zs) (.bool true) := by
  have h0 := Int.emod_nonneg m (b := 4) (by decide)
  have h1 := Int.emod_lt_of_pos m (b := 4) (by decide)
  have h : m % 4 = 0 ∨ m % 4 = 1 ∨ m % 4 = 2 ∨ m % 4 = 3 := by omega
  rcases h with h | h | h | h
  · refine jacNorms_of (n := 1) (by decide) h (ns1 zs) (fun f M M' X tx x hx => ?_) (fun M hM => both1 hM)
    cases zs with
    | nil => exact kr1_0 hx
    | cons z l => exact kr1_1 _ hx
  · refine jacNorms_of (n := 2) (by decide) h (ns2 zs) (fun f M M' X tx x hx => ?_) (fun M hM => both2 hM)
    cases zs with
    | nil => exact kr2_0 hx
    | cons z l => exact kr2_1 _ hx
  · refine jacNorms_of (n := 3) (by decide) h (ns3 zs) (fun f M M' X tx x hx => ?_) (fun M hM => both3 hM)
    cases zs with
    | nil => exact kr3_0 hx
    | cons z l => exact kr3_1 _ hx
  · refine jacNorms_of (n := 4) (by decide) h (ns4 zs) (fun f M M' X tx x hx => ?_) (fun M hM => both4 hM)
    cases zs with
    | nil => exact kr4_0 hx
    | cons z l => exact kr4_1 _ hx

end Go.Proofs.Ytdlinjijccnaeaa
