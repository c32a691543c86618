/- tape.EvalIv's contract: in a memory that holds a field and numbers, a new row of what its operations reckon. -/
import Derived.Test.YtpmdpbljgidllaaTpEiG
import Derived.Test.YtpmdpbljgidllaaTpH
namespace Go.Proofs.Ytpmdpbljgidllaa
open Go
set_option linter.unusedVariables false
set_option linter.unusedSimpArgs false
set_option maxRecDepth 100000

section
variable {b0 b1 b2 : Option ABlk} {N : Nat} {ops : List OpD} {out : List Int} {xs : List (Nat × Nat)}

theorem outBti_full {N : Nat} {out : List Int} (F : Nat → Nat × Nat) (h : out.length = N) : outBti N N (fun i => F (out.getD i 0).toNat) = nwP (evOut F out) := by
  subst h
  unfold outBti evOut nwP
  rw [List.flatMap_map]
  have e : (List.range out.length).flatMap (fun n => pC (if n < out.length then F (out.getD n 0).toNat else (0, 0))) = ((List.range out.length).map fun i => out.getD i 0).flatMap fun u => pC (F u.toNat) := by
    rw [List.flatMap_map]
    unfold List.flatMap
    congr 1
    apply List.map_congr_left
    intro i hi
    rw [if_pos (List.mem_range.1 hi)]
  rw [e, range_getD]

theorem EvI.outs (h : EvI b0 b1 b2 N ops out xs) (b3 : Option ABlk) (h2 : 2 ≤ ops.length) (g : Nat → Option ABlk) : okAll Try.prog (lgOi (hpEi [b0, b1, b2, b3] N ops.length ops.length (regP ops xs) g) (rvE ops.length) N
    (fun i => out.getD i 0) (fun i => ⟨6 + (3 * (ops.length - 1) + 2), (out.getD i 0).toNat * 2, none⟩) (fun i => regP ops xs (out.getD i 0).toNat)) := by
  obtain ⟨k, hk⟩ : ∃ k, ops.length = k + 1 := ⟨ops.length - 1, by omega⟩
  unfold lgOi
  refine okApp ?_ ⟨cmp_ok (decide_eq_false (by omega)), trivial⟩
  have key : ∀ l : List Nat, (∀ i ∈ l, i < N) → okAll Try.prog (l.flatMap fun i => [.cmp .lss 3 (.int .i64 (Int.ofNat i)) (.int .i64 (Int.ofNat N)) true, .ex (readVar Try.prog (hpEi [b0, b1, b2, b3] N ops.length ops.length (regP ops xs) g ++ [outBti N i (fun i => regP ops xs (out.getD i 0).toNat)]).toArray 3 ⟨1, i, none⟩ = some (.int .i64 (out.getD i 0))),
      .ex (indexAddrV Try.prog 37 (rvE ops.length) (.int .i64 (out.getD i 0)) = some (.pointer (some ⟨6 + (3 * (ops.length - 1) + 2), (out.getD i 0).toNat * 2, none⟩))), .ex (readVar Try.prog (hpEi [b0, b1, b2, b3] N ops.length ops.length (regP ops xs) g ++ [outBti N i (fun i => regP ops xs (out.getD i 0).toNat)]).toArray 39 ⟨6 + (3 * (ops.length - 1) + 2), (out.getD i 0).toNat * 2, none⟩ = some (vI (regP ops xs (out.getD i 0).toNat)))]) := by
    intro l hl
    induction l with
    | nil => trivial
    | cons i l ih =>
      rw [List.flatMap_cons]
      refine okApp ?_ (ih fun i hi => hl i (List.mem_cons_of_mem _ hi))
      have hi := hl i (List.mem_cons_self ..)
      have hio : i < out.length := by rw [h.lo]; exact hi
      have hg : out[i]? = some (out.getD i 0) := by
        rw [List.getD_eq_getElem?_getD, List.getElem?_eq_getElem hio]; rfl
      obtain ⟨u0, u1⟩ := h.oo _ (List.mem_of_getElem? hg)
      obtain ⟨B, hB, hc⟩ := h.m1
      have hr := reg_okI (b0 := b0) (b1 := b1) (b2 := b2) (N := N) (A := out.getD i 0) (k := k) u0 (by omega) b3 ops.length (regP ops xs) g [outBti N i (fun i => regP ops xs (out.getD i 0).toNat)]
      rw [← hk, show k = ops.length - 1 by omega] at hr
      refine ⟨cmp_ok (decide_eq_true hi), rdI (B := B) (l := out) (k := i) ?_ hc hg rfl, hr.1, hr.2.1, trivial⟩
      rw [hB]; rfl
  exact key _ fun i hi => List.mem_range.1 hi

/-- The run of a field. -/
theorem EvI.run (h : EvI b0 b1 b2 N ops out xs) (hr : ∀ k, Rt (regP ops xs k)) (b3 : Option ABlk) (h2 : 2 ≤ ops.length) (hM : ops.length < 21) (hN : 1 ≤ N) (hN3 : N ≤ 3) (hf : AllFrozen #[b0, b1, b2, b3]) :
    Runs Try.prog 45 #[kindVi, tpV 0 1 N ops.length, .slice (some ⟨2, 0, none⟩) N N] #[b0, b1, b2, b3] (.slice (some ⟨4, 0, none⟩) N N) (#[b0, b1, b2, b3] ++ #[nwP (evOut (regP ops xs) out)]) := by
  obtain ⟨g, j, hrd⟩ := h.rounds hr b3 h2 hM ops.length 0 (by omega) (fun _ => none) (j0Ei N ops.length)
  have fin := finEi N ops.length hN hN3 h2 hM b0 b1 b2 b3 (.slice (some ⟨2, 0, none⟩) N N) (regP ops xs) g j (fun i => out.getD i 0) (fun i => ⟨6 + (3 * (ops.length - 1) + 2), (out.getD i 0).toNat * 2, none⟩) (fun i => regP ops xs (out.getD i 0).toNat)
  have hruns := askT_runs fin (h.outs b3 h2 g) (fun z hz => by
    rw [List.mem_singleton] at hz
    subst hz
    exact hrd)
  rw [outBti_full (regP ops xs) h.lo] at hruns
  have e : (hpEi [b0, b1, b2, b3] N ops.length ops.length (regP ops xs) g ++ [nwP (evOut (regP ops xs) out)]).toArray =
      #[b0, b1, b2, b3] ++ ([kbEi, tbE N ops.length] ++ jkE g ops.length ++ rgEi (regP ops xs) ops.length ++ [nwP (evOut (regP ops xs) out)]).toArray := by
    apply Array.ext'
    simp [hpEi, List.append_assoc]
  rw [e] at hruns
  have hk : ([kbEi, tbE N ops.length] ++ jkE g ops.length ++ rgEi (regP ops xs) ops.length ++ [nwP (evOut (regP ops xs) out)]).toArray[2 + 3 * ops.length]? = some (nwP (evOut (regP ops xs) out)) := by
    have hl : ([kbEi, tbE N ops.length] ++ jkE g ops.length ++ rgEi (regP ops xs) ops.length).length = 2 + 3 * ops.length := by
      obtain ⟨k, hk⟩ : ∃ k, ops.length = k + 1 := ⟨ops.length - 1, by omega⟩
      rw [hk]
      simp [jkE, rgEi]
      omega
    rw [List.getElem?_toArray, ← hl, List.getElem?_append_right (Nat.le_refl _), Nat.sub_self]
    rfl
  have e2 : 6 + 3 * ops.length = (#[b0, b1, b2, b3] : AHeap).size + (2 + 3 * ops.length) := by simp; omega
  rw [e2] at hruns
  refine Runs.keep1 hf hruns hk fun i u hu => ?_
  exact pC_clos _ _ (List.mem_of_getElem? (by simpa using hu))
end

noncomputable def askRunI (g : FuncId) : Nat := if g == 45 then 1 else 0
theorem eval_walkI (c0 c1 c2 : ABlk) (h0 : c0.own = false) (h1 : c1.own = false) (h2 : c2.own = false) (N M : Nat) (l : List (Nat × Nat)) :
    askN askRunI noC 12 20 #[tpV 0 1 N M, .slice (some ⟨2, 0, none⟩) N N] #[some c0, some c1, some c2] [⟨fun n => .slice (some ⟨n, 0, none⟩) N N, [nwP l]⟩] =
      some (.slice (some ⟨4, 0, none⟩) N N, #[some c0, some c1, some c2, some ⟨#[.int .i64 N, .slice (some ⟨0, 0, none⟩) M M, .slice (some ⟨1, 0, none⟩) N N], 25, 0, true⟩, nwP l],
        [.run 45 #[kindVi, tpV 0 1 N M, .slice (some ⟨2, 0, none⟩) N N] #[some c0, some c1, some c2, some ⟨#[.int .i64 N, .slice (some ⟨0, 0, none⟩) M M, .slice (some ⟨1, 0, none⟩) N N], 25, 0, false⟩] (.slice (some ⟨4, 0, none⟩) N N) (#[some c0, some c1, some c2, some ⟨#[.int .i64 N, .slice (some ⟨0, 0, none⟩) M M, .slice (some ⟨1, 0, none⟩) N N], 25, 0, false⟩] ++ #[nwP l])]) := by
  obtain ⟨a, b, c, d⟩ := c0
  obtain ⟨a1, b1, c1, d1⟩ := c1
  obtain ⟨a2, b2, c2, d2⟩ := c2
  dsimp only at h0 h1 h2
  subst h0 h1 h2
  kernel_rfl

/-- A field and numbers in a memory of their own: tape.Eval. -/
theorem EvI.eval {c0 c1 c2 : ABlk} {N : Nat} {ops : List OpD} {out : List Int} {xs : List (Nat × Nat)} (h : EvI (some c0) (some c1) (some c2) N ops out xs) (hr : ∀ k, Rt (regP ops xs k)) (h0 : c0.own = false) (h1 : c1.own = false) (h2 : c2.own = false) (hM2 : 2 ≤ ops.length) (hM : ops.length < 21) (hN : 1 ≤ N) (hN3 : N ≤ 3) :
    Runs Try.prog 20 #[tpV 0 1 N ops.length, .slice (some ⟨2, 0, none⟩) N N] #[some c0, some c1, some c2] (.slice (some ⟨3, 0, none⟩) N N) (#[some c0, some c1, some c2] ++ #[nwP (evOut (regP ops xs) out)]) := by
  have hf4 : ∀ (b3 : Option ABlk), (∀ B, b3 = some B → B.own = false) → AllFrozen #[some c0, some c1, some c2, b3] := by
    intro b3 hb b B hB
    match b, hB with
    | 0, hB => simp at hB; subst hB; exact h0
    | 1, hB => simp at hB; subst hB; exact h1
    | 2, hB => simp at hB; subst hB; exact h2
    | 3, hB => simp at hB; exact hb B hB
    | n + 4, hB => simp at hB
  have hf3 : AllFrozen #[some c0, some c1, some c2] := by
    intro b B hB
    match b, hB with
    | 0, hB => simp at hB; subst hB; exact h0
    | 1, hB => simp at hB; subst hB; exact h1
    | 2, hB => simp at hB; subst hB; exact h2
    | n + 3, hB => simp at hB
  have w := askN_runs (eval_walkI c0 c1 c2 h0 h1 h2 N ops.length (evOut (regP ops xs) out)) ⟨h.run hr _ hM2 hM hN hN3 (hf4 _ (by rintro B hB; injection hB with hB; subst hB; rfl)), trivial⟩
  refine Runs.keep1 (k := 1) (H := #[some c0, some c1, some c2]) (bs := #[some ⟨#[.int .i64 N, .slice (some ⟨0, 0, none⟩) ops.length ops.length, .slice (some ⟨1, 0, none⟩) N N], 25, 0, true⟩, nwP (evOut (regP ops xs) out)]) hf3 w rfl fun i u hu => ?_
  exact pC_clos _ _ (List.mem_of_getElem? (by simpa using hu))

end Go.Proofs.Ytpmdpbljgidllaa
