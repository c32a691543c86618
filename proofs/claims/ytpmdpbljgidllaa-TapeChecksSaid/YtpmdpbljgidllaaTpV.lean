/- The laws' own Values: numbers, as many as variables; its contract, in any memory. -/
import Derived.Test.YtpmdpbljgidllaaTpP
namespace Go.Proofs.Ytpmdpbljgidllaa
open Go
set_option linter.unusedVariables false
set_option linter.unusedSimpArgs false
set_option maxRecDepth 100000

noncomputable def askTv (g : FuncId) : Nat := if g == 17 then 1 else if g == 1000020 || g == 1000021 || g == 1000025 || g == 1000026 then 7 else 0
def vw8 (f : Nat) : Nat := fop .quo .f64 f 4620693217682128896
def sVl (n l : Nat) (p : Nat → Addr) (z w c : Nat → Int) (f : Nat → Nat) : List Ans :=
  ((List.range n).flatMap fun i => [yes true] ++ (if i < l then [yes true, pAnsT (p i), isI (z i)] else [yes false]) ++ [isI (w i), isI (c i), vAns (.float .f64 (f i))]) ++ [yes false]
noncomputable def lVl (H : List (Option ABlk)) (n l len : Nat) (ns : Value) (p : Nat → Addr) (z w c : Nat → Int) (f : Nat → Nat) : List Obl :=
  ((List.range n).flatMap fun i => [cpO .lss (Int.ofNat i) (Int.ofNat n) true] ++ (if i < l then [cpO .lss (Int.ofNat i) len true, .ex (indexAddrV Try.prog 23 ns (.int .i64 (Int.ofNat i)) = some (.pointer (some (p i)))), .ex (readVar Try.prog (H ++ grRf i (fun i => vw8 (f i))).toArray 3 (p i) = some (.int .i64 (z i)))] else [cpO .lss (Int.ofNat i) len false]) ++
    [wiOt (if i < l then z i else Int.ofNat i) 65 (w i), arO .sub (w i) 32 (c i), cvO (c i) (f i)]) ++ [cpO .lss (Int.ofNat n) (Int.ofNat n) false]
def ValRun (n l : Nat) : Prop := ∀ (bz : Option ABlk) (len : Nat) (p : Nat → Addr) (z w c : Nat → Int) (f : Nat → Nat),
  askN askTv lssC 12 19 #[.int .i64 (Int.ofNat n), .slice (some ⟨0, 0, none⟩) len len] #[bz] (sVl n l p z w c f) =
    some (.slice (some ⟨1 + (2 * n - 1), 0, none⟩) n n, ([bz] ++ grRf n (fun i => vw8 (f i))).toArray, lVl [bz] n l len (.slice (some ⟨0, 0, none⟩) len len) p z w c f)
def ValNil (n : Nat) : Prop := ∀ (p : Nat → Addr) (z w c : Nat → Int) (f : Nat → Nat),
  askN askTv lssC 12 19 #[.int .i64 (Int.ofNat n), .slice none 0 1] #[] (sVl n 0 p z w c f) =
    some (.slice (some ⟨2 * n - 1, 0, none⟩) n n, (grRf n (fun i => vw8 (f i))).toArray, lVl [] n 0 0 (.slice none 0 1) p z w c f)
theorem valNil_1 : ValNil 1 := fun _ _ _ _ _ => by kernel_rfl
theorem valRun_1_0 : ValRun 1 0 := fun _ _ _ _ _ _ _ => by kernel_rfl
theorem valRun_1_1 : ValRun 1 1 := fun _ _ _ _ _ _ _ => by kernel_rfl
theorem valNil_2 : ValNil 2 := fun _ _ _ _ _ => by kernel_rfl
theorem valRun_2_0 : ValRun 2 0 := fun _ _ _ _ _ _ _ => by kernel_rfl
theorem valRun_2_1 : ValRun 2 1 := fun _ _ _ _ _ _ _ => by kernel_rfl
theorem valRun_2_2 : ValRun 2 2 := fun _ _ _ _ _ _ _ => by kernel_rfl
theorem valNil_3 : ValNil 3 := fun _ _ _ _ _ => by kernel_rfl
theorem valRun_3_0 : ValRun 3 0 := fun _ _ _ _ _ _ _ => by kernel_rfl
theorem valRun_3_1 : ValRun 3 1 := fun _ _ _ _ _ _ _ => by kernel_rfl
theorem valRun_3_2 : ValRun 3 2 := fun _ _ _ _ _ _ _ => by kernel_rfl
theorem valRun_3_3 : ValRun 3 3 := fun _ _ _ _ _ _ _ => by kernel_rfl
theorem valNil_4 : ValNil 4 := fun _ _ _ _ _ => by kernel_rfl
theorem valRun_4_0 : ValRun 4 0 := fun _ _ _ _ _ _ _ => by kernel_rfl
theorem valRun_4_1 : ValRun 4 1 := fun _ _ _ _ _ _ _ => by kernel_rfl
theorem valRun_4_2 : ValRun 4 2 := fun _ _ _ _ _ _ _ => by kernel_rfl
theorem valRun_4_3 : ValRun 4 3 := fun _ _ _ _ _ _ _ => by kernel_rfl
theorem valRun_4_4 : ValRun 4 4 := fun _ _ _ _ _ _ _ => by kernel_rfl
theorem valNil (n : Nat) (h1 : 1 ≤ n) (h2 : n ≤ 4) : ValNil n := by
  have : n = 1 ∨ n = 2 ∨ n = 3 ∨ n = 4 := by omega
  rcases this with rfl | rfl | rfl | rfl
  · exact valNil_1
  · exact valNil_2
  · exact valNil_3
  · exact valNil_4
theorem tvalRunA_1 : ∀ l, l ≤ 1 → ValRun 1 l
  | 0, _ => valRun_1_0
  | 1, _ => valRun_1_1
  | l + 2, h => absurd h (by omega)
theorem tvalRunA_2 : ∀ l, l ≤ 2 → ValRun 2 l
  | 0, _ => valRun_2_0
  | 1, _ => valRun_2_1
  | 2, _ => valRun_2_2
  | l + 3, h => absurd h (by omega)
theorem tvalRunA_3 : ∀ l, l ≤ 3 → ValRun 3 l
  | 0, _ => valRun_3_0
  | 1, _ => valRun_3_1
  | 2, _ => valRun_3_2
  | 3, _ => valRun_3_3
  | l + 4, h => absurd h (by omega)
theorem tvalRunA_4 : ∀ l, l ≤ 4 → ValRun 4 l
  | 0, _ => valRun_4_0
  | 1, _ => valRun_4_1
  | 2, _ => valRun_4_2
  | 3, _ => valRun_4_3
  | 4, _ => valRun_4_4
  | l + 5, h => absurd h (by omega)
theorem tvalRun (n l : Nat) (h1 : 1 ≤ n) (h2 : n ≤ 4) (h : l ≤ n) : ValRun n l := by
  have : n = 1 ∨ n = 2 ∨ n = 3 ∨ n = 4 := by omega
  rcases this with rfl | rfl | rfl | rfl
  · exact tvalRunA_1 l h
  · exact tvalRunA_2 l h
  · exact tvalRunA_3 l h
  · exact tvalRunA_4 l h

/-- The i-th number. -/
def vlI (ms : List Int) (i : Nat) : Int := wr (ms.getD i (Int.ofNat i) % 65 - 32)
def tvlT (n : Nat) (ms : List Int) : List Nat := (List.range n).map fun i => vw8 (Fz (vlI ms i))

theorem each_ok {P : Program} (l : List Nat) (f : Nat → List Obl) (h : ∀ i ∈ l, okAll P (f i)) : okAll P (l.flatMap f) := by
  induction l with
  | nil => trivial
  | cons i l ih => rw [List.flatMap_cons]; exact okApp (h i (List.mem_cons_self ..)) (ih fun i hi => h i (List.mem_cons_of_mem _ hi))

theorem lVl_ok {H : List (Option ABlk)} {n l : Nat} {ms : List Int} {ns : Value} (hl : l = min n ms.length) (hmem : ∀ i, i < l → ∀ c : List (Option ABlk), indexAddrV Try.prog 23 ns (.int .i64 (Int.ofNat i)) = some (.pointer (some ⟨0, i, none⟩)) ∧ readVar Try.prog (H ++ c).toArray 3 ⟨0, i, none⟩ = some (.int .i64 (ms.getD i (Int.ofNat i)))) :
    okAll Try.prog (lVl H n l ms.length ns (fun i => ⟨0, i, none⟩) (fun i => ms.getD i (Int.ofNat i)) (fun i => ms.getD i (Int.ofNat i) % 65) (vlI ms) (fun i => Fz (vlI ms i))) := by
  unfold lVl
  refine okApp (each_ok _ _ fun i hi => ?_) ⟨cmp_ok (decide_eq_false (by omega)), trivial⟩
  have hin := List.mem_range.1 hi
  refine okApp (okApp ⟨cmp_ok (decide_eq_true hin), trivial⟩ ?_) ⟨?_, ar_sub _ _, cv_ok _, trivial⟩
  · by_cases c : i < l
    · rw [if_pos c]
      exact ⟨cmp_ok (decide_eq_true (by omega)), (hmem i c []).1, (hmem i c _).2, trivial⟩
    · rw [if_neg c]
      exact ⟨cmp_ok (decide_eq_false (by omega)), trivial⟩
  · by_cases c : i < l
    · rw [if_pos c]
      exact wi_ok _ (n := 65) (by omega) (by omega)
    · rw [if_neg c]
      have e : ms.getD i (Int.ofNat i) = Int.ofNat i := by
        rw [List.getD_eq_getElem?_getD, List.getElem?_eq_none (by omega)]; rfl
      simp only [e]
      exact wi_ok _ (n := 65) (by omega) (by omega)

theorem grRf_last4 {N : Nat} (hN : 1 ≤ N) (hN3 : N ≤ 4) (f : Nat → Nat) : (grRf N f)[2 * N - 1]? = some (nwF ((List.range N).map f)) := by
  have : N = 1 ∨ N = 2 ∨ N = 3 ∨ N = 4 := by omega
  rcases this with rfl | rfl | rfl | rfl <;> rfl
theorem nwF_plain (l : List Nat) (t : TypeId) (z : Nat) (o : Bool) : PlainB ⟨(l.flatMap fC).toArray, t, z, o⟩ := plain_flat (fun a u hu => by simp only [fC, List.mem_singleton] at hu; subst hu; rfl) l _ _ _

theorem val_small (n : Nat) (h1 : 1 ≤ n) (h2 : n ≤ 4) (ms : List Int) : Runs Try.prog 19 #[.int .i64 (Int.ofNat n), arg0 ms] (heap0 ms) (.slice (some ⟨(heap0 ms).size, 0, none⟩) n n) (heap0 ms ++ #[nwF (tvlT n ms)]) := by
  have hlast := grRf_last4 h1 h2 (fun i => vw8 (Fz (vlI ms i)))
  cases ms with
  | nil =>
    have w := askN_runs (valNil n h1 h2 (fun i => ⟨0, i, none⟩) (fun i => ([] : List Int).getD i (Int.ofNat i)) (fun i => ([] : List Int).getD i (Int.ofNat i) % 65) (vlI []) (fun i => Fz (vlI [] i))) (lVl_ok (ms := []) (by simp) (fun i hi => by omega))
    refine Runs.keep1 (c := n) (H := heap0 []) (k := 2 * n - 1) (bs := (grRf n (fun i => vw8 (Fz (vlI [] i)))).toArray) (heap0_frozen []) ?_ (by rw [List.getElem?_toArray, hlast]; rfl) (nwF_plain _ _ _ _)
    have e : (heap0 [] : AHeap) = #[] := rfl
    rw [e, Array.empty_append]
    simp only [Array.size_empty, Nat.zero_add]
    exact w
  | cons z rest =>
    have hB : (⟨((z :: rest).map (Value.int .i64)).toArray, 3, 1, false⟩ : ABlk).cells = ((z :: rest).flatMap iC).toArray := by rw [iC_map]
    generalize hBd : (⟨((z :: rest).map (Value.int .i64)).toArray, 3, 1, false⟩ : ABlk) = B at hB
    have hH : heap0 (z :: rest) = #[some B] := by rw [← hBd]; rfl
    have hfz := heap0_frozen (z :: rest)
    rw [hH] at hfz ⊢
    have ha : arg0 (z :: rest) = .slice (some ⟨0, 0, none⟩) (z :: rest).length (z :: rest).length := rfl
    rw [ha]
    generalize z :: rest = ms at *
    have w := askN_runs (tvalRun n (min n ms.length) h1 h2 (by omega) (some B) ms.length (fun i => ⟨0, i, none⟩) (fun i => ms.getD i (Int.ofNat i)) (fun i => ms.getD i (Int.ofNat i) % 65) (vlI ms) (fun i => Fz (vlI ms i))) (lVl_ok (ms := ms) rfl (fun i hi c => by
      have hlt : i < ms.length := by omega
      refine ⟨ixI (by simp) (by simpa using hlt) rfl, rdI (B := B) rfl hB (k := i) ?_ rfl⟩
      rw [List.getD_eq_getElem?_getD, List.getElem?_eq_getElem hlt]; rfl))
    refine Runs.keep1 (c := n) (H := #[some B]) (k := 2 * n - 1) (bs := (grRf n (fun i => vw8 (Fz (vlI ms i)))).toArray) hfz ?_ (by rw [List.getElem?_toArray, hlast]; rfl) (nwF_plain _ _ _ _)
    exact Eq.mp (congrArg (fun h => Runs Try.prog _ _ _ _ h) (cons_arr _ _)) w

/-- Values, in any memory. -/
theorem val_in (n : Nat) (h1 : 1 ≤ n) (h2 : n ≤ 4) {ms : List Int} {H : AHeap} (hf : AllFrozen H) {va : Value} (hh : Handed H ms va) : Runs Try.prog 19 #[.int .i64 (Int.ofNat n), va] H (.slice (some ⟨H.size, 0, none⟩) n n) (H ++ #[nwF (tvlT n ms)]) := by
  have hbs : ∀ (j : Nat) (B : ABlk), (#[nwF (tvlT n ms)] : AHeap)[j]? = some (some B) → B.own = true ∧ PlainB B := by
    intro j B hB
    match j, hB with
    | 0, hB => injection hB with hB; injection hB with hB; subst hB; exact ⟨rfl, nwF_plain _ _ _ _⟩
    | j + 1, hB => simp at hB
  have hv : ∀ σ : Nat → Nat, RelV (relB (heap0 ms).size H.size σ) (.slice (some ⟨(heap0 ms).size, 0, none⟩) n n) (.slice (some ⟨H.size, 0, none⟩) n n) := by
    intro σ
    have e0 : relB (heap0 ms).size H.size σ (heap0 ms).size = H.size := by unfold relB; rw [if_neg (by omega)]; omega
    have := RelV.slice (τ := relB (heap0 ms).size H.size σ) (heap0 ms).size 0 n n
    rw [e0] at this
    exact this
  have harg : ∀ {σ : Nat → Nat} {u0 u : Value}, BackA (heap0 ms).size σ u0 u → ∀ (i : Nat) (h1 : i < (#[.int .i64 (Int.ofNat n), u0] : Array Value).size) (h2 : i < (#[.int .i64 (Int.ofNat n), u] : Array Value).size), BackA (heap0 ms).size σ (#[.int .i64 (Int.ofNat n), u0] : Array Value)[i] (#[.int .i64 (Int.ofNat n), u] : Array Value)[i] := by
    intro σ u0 u h i h1 h2
    have : i = 0 ∨ i = 1 := by simp at h1; omega
    rcases this with rfl | rfl
    · exact .inl (.clos rfl)
    · exact h
  rcases hh with ⟨rfl, rfl⟩ | ⟨b, B, hne, rfl, hb, hc⟩
  · exact (val_small n h1 h2 []).move (fun _ => 0) (fun i hi => by simp [heap0] at hi) (fun i B0 h => by simp [heap0] at h) rfl (harg (.inr ⟨rfl, .inl rfl⟩)) (hv _) hbs
  · obtain ⟨z, r, rfl⟩ : ∃ z r, ms = z :: r := by cases ms with | nil => exact absurd rfl hne | cons z r => exact ⟨z, r, rfl⟩
    refine (val_small n h1 h2 (z :: r)).move (fun _ => b) (fun i hi => ?_) (fun i B0 h => ?_) rfl (harg (.inl (.slice 0 0 _ _ (by simp [heap0])))) (hv _) hbs
    · have : i = 0 := by simp [heap0] at hi; exact hi
      subst this
      exact ⟨_, rfl⟩
    · have hi0 : i = 0 := by
        have := (Array.getElem?_eq_some_iff.1 h).1
        simp [heap0] at this
        exact this
      subst hi0
      simp [heap0] at h
      subst h
      refine ⟨rfl, ?_, B, hb, hc⟩
      intro i u hu
      have : u ∈ (z :: r).map (Value.int .i64) := List.mem_of_getElem? (by simpa using hu)
      obtain ⟨a, _, rfl⟩ := List.mem_map.1 this
      rfl

end Go.Proofs.Ytpmdpbljgidllaa
