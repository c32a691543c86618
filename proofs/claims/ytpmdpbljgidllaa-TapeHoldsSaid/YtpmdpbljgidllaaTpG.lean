/- tape.Eval: what it tells is what its operations reckon, one after the other. -/
import Derived.Test.YtpmdpbljgidllaaTpF
import Derived.Test.YtpmdpbljgidllaaSlices
namespace Go.Proofs.Ytpmdpbljgidllaa
open Go
set_option linter.unusedVariables false
set_option linter.unusedSimpArgs false
set_option maxRecDepth 100000

/-! what types are -/
theorem tmE_back {x rv : Value} {M k : Nat} {tm' : List Value} (hl : tm'.length = 135) (t2 : getT tm' 2 = x) (t3 : getT tm' 3 = .pointer (some ⟨4, 0, none⟩)) (t4 : getT tm' 4 = .pointer (some ⟨5, 0, none⟩)) (t7 : getT tm' 7 = rv)
    (t13 : getT tm' 13 = .slice (some ⟨0, 0, none⟩) M M) (t14 : getT tm' 14 = .int .i64 M) (t15 : getT tm' 15 = .int .i64 k) : ∃ j', tm' = tmE x rv M k j' := by
  refine ⟨getT tm', (tm_eq hl).trans ?_⟩
  unfold tmE
  apply List.map_congr_left
  intro i _
  split
  · rename_i h; subst h; exact t2
  split
  · rename_i h; subst h; exact t3
  split
  · rename_i h; subst h; exact t4
  split
  · rename_i h; subst h; exact t7
  split
  · rename_i h; subst h; exact t13
  split
  · rename_i h; subst h; exact t14
  split
  · rename_i h; subst h; exact t15
  rfl
theorem reE {b0 b1 b2 b3 : Option ABlk} {x : Value} {N M k : Nat} {F : Nat → Nat} {v : Nat} {tm' : List Value} {H' : AHeap} (h : slE tm' H' = outE b0 b1 b2 b3 x N M k F v) (hv : F k = v) :
    ∃ g' j', tm' = tmE x (rvE (k + 1)) M (k + 1) j' ∧ H' = (hpE [b0, b1, b2, b3] N M (k + 1) F g').toArray := by
  unfold slE outE at h
  simp only [Prod.mk.injEq, List.cons.injEq, and_true] at h
  obtain ⟨hl, ⟨t2, t3, t4, t7, t13, t14, t15⟩, ht, hn, hz⟩ := h
  obtain ⟨j', hj⟩ := tmE_back hl t2 t3 t4 t7 t13 t14 t15
  refine ⟨fun i => H'.toList.getD (6 + i) none, j', hj, ?_⟩
  · have := list_parts none H'.toList _ 6 (3 * k + 2) _ ht hn hz
    apply Array.ext'
    refine this.trans ?_
    have e : ((List.range (k + 1)).flatMap fun i => fC (F i)) = ((List.range k).flatMap fun i => fC (F i)) ++ fC v := by
      rw [List.range_succ, List.flatMap_append, List.flatMap_cons, List.flatMap_nil, List.append_nil, hv]
    show _ = [b0, b1, b2, b3] ++ [kbE, tbE N M] ++ List.map (fun i => H'.toList.getD (6 + i) none) (List.range (3 * k + 2)) ++ [some ⟨((List.range (k + 1)).flatMap fun i => fC (F i)).toArray, 30, 1, true⟩]
    rw [e]
    rfl

theorem hpE_reg {bs : List (Option ABlk)} (hb : bs.length = 4) {N M k : Nat} {F : Nat → Nat} {g : Nat → Option ABlk} (c : List (Option ABlk)) : (hpE bs N M (k + 1) F g ++ c).toArray[6 + (3 * k + 2)]? = some (some ⟨((List.range (k + 1)).flatMap fun i => fC (F i)).toArray, 30, 1, true⟩) := by
  unfold hpE jkE rgE
  rw [List.getElem?_toArray, List.getElem?_append_left (by simp; omega), List.getElem?_append_right (by simp; omega)]
  have e : 6 + (3 * k + 2) - (bs ++ [kbE, tbE N M] ++ (List.range (3 * k + 2)).map g).length = 0 := by simp [hb]; omega
  show [_][_]? = _
  rw [e]
  rfl
section
variable {b0 b1 b2 : Option ABlk} {N : Nat} {ops : List OpD} {out : List Int} {xs : List Nat}

theorem reg_ok {A : Int} {k : Nat} (h0 : 0 ≤ A) (h1 : A < (k + 1 : Nat)) (b3 : Option ABlk) (M : Nat) (F : Nat → Nat) (g : Nat → Option ABlk) (c : List (Option ABlk)) : okAll Try.prog (lgR (hpE [b0, b1, b2, b3] N M (k + 1) F g ++ c) (rvE (k + 1)) A ⟨6 + (3 * k + 2), A.toNat, none⟩ (F A.toNat)) := by
  refine ⟨ixF h0 h1 rfl, rdF (B := _) (l := (List.range (k + 1)).map F) (k := A.toNat) (hpE_reg rfl c) ?_ ?_ rfl, trivial⟩
  · rw [flat_range]
  · have : A.toNat < k + 1 := by omega
    rw [List.getElem?_map, List.getElem?_range this]; rfl

theorem EvH.round (h : EvH b0 b1 b2 N ops out xs) (b3 : Option ABlk) {k : Nat} {o : OpD} (ho : ops[k]? = some o) (hk : k < 21) (g : Nat → Option ABlk) (j : Nat → Value) :
    ∃ g' j', evR Try.prog (Runs Try.prog) (orcD 12) q1 bodyE (tmE (.slice (some ⟨2, 0, none⟩) N N) (rvE k) ops.length k j) (hpE [b0, b1, b2, b3] N ops.length k (regF ops xs) g).toArray
      (.normal, tmE (.slice (some ⟨2, 0, none⟩) N N) (rvE (k + 1)) ops.length (k + 1) j', (hpE [b0, b1, b2, b3] N ops.length (k + 1) (regF ops xs) g').toArray) := by
  have hd := h.head ho (H := hpE [b0, b1, b2, b3] N ops.length k (regF ops xs) g) rfl
  have hok := h.ok k o ho
  have hF : regF ops xs k = stepT (fun c => c) opF (fun i => xs.getD i 0) (regF ops xs) o := regT_at ho hok
  unfold stepT at hF
  rcases hok with h0 | ⟨h1, hA0, hA1⟩ | ⟨h2, h5, hA0, hA1, hB0, hB1⟩
  · rw [if_pos h0] at hF
    rw [h0] at hd
    have r := rdCon k hk b0 b1 b2 b3 N ops.length o.A o.B o.C (.slice (some ⟨2, 0, none⟩) N N) ⟨0, k * 4, none⟩ (regF ops xs) g j
    unfold runE at r
    obtain ⟨tm', H', hs, hev⟩ := rnd_part r hd
    obtain ⟨g', j', rfl, rfl⟩ := reE hs hF
    exact ⟨g', j', hev⟩
  · rw [if_neg (by omega), if_pos h1] at hF
    rw [h1] at hd
    have r := rdVar k hk b0 b1 b2 b3 N ops.length o.A o.B o.C (xs.getD o.A.toNat 0) (.slice (some ⟨2, 0, none⟩) N N) ⟨0, k * 4, none⟩ ⟨2, o.A.toNat, none⟩ (regF ops xs) g j
    unfold runE at r
    obtain ⟨tm', H', hs, hev⟩ := rnd_part r (okApp hd (h.var hA0 hA1 rfl))
    obtain ⟨g', j', rfl, rfl⟩ := reE hs hF
    exact ⟨g', j', hev⟩
  · rw [if_neg (by omega), if_neg (by omega)] at hF
    cases k with
    | zero => omega
    | succ k =>
      have r := rdBin (k + 1) o.K (by omega) hk h2 h5 b0 b1 b2 b3 N ops.length o.A o.B o.C (regF ops xs o.A.toNat) (regF ops xs o.B.toNat) (.slice (some ⟨2, 0, none⟩) N N) ⟨0, (k + 1) * 4, none⟩ ⟨6 + (3 * k + 2), o.A.toNat, none⟩ ⟨6 + (3 * k + 2), o.B.toNat, none⟩ (regF ops xs) g j
      unfold runE at r
      obtain ⟨tm', H', hs, hev⟩ := rnd_part r (okApp (okApp hd (reg_ok hA0 hA1 b3 _ _ _ _)) (reg_ok hB0 hB1 b3 _ _ _ _))
      obtain ⟨g', j', rfl, rfl⟩ := reE hs hF
      exact ⟨g', j', hev⟩

theorem EvH.rounds (h : EvH b0 b1 b2 N ops out xs) (b3 : Option ABlk) (h2 : 2 ≤ ops.length) (hM : ops.length < 21) : ∀ (d k : Nat), k + d = ops.length → ∀ (g : Nat → Option ABlk) (j : Nat → Value),
    ∃ g' j', Rds (evR Try.prog (Runs Try.prog) (orcD 12) q1 bodyE) (tmE (.slice (some ⟨2, 0, none⟩) N N) (rvE k) ops.length k j) (hpE [b0, b1, b2, b3] N ops.length k (regF ops xs) g).toArray
      (.exit 0, tmE (.slice (some ⟨2, 0, none⟩) N N) (rvE ops.length) ops.length ops.length j', (hpE [b0, b1, b2, b3] N ops.length ops.length (regF ops xs) g').toArray)
  | 0, k, hk, g, j => by
    have hk' : k = ops.length := by omega
    subst hk'
    have r := rdEnd ops.length h2 hM b0 b1 b2 b3 N ops.length (.slice (some ⟨2, 0, none⟩) N N) (regF ops xs) g j
    obtain ⟨tm', H', hs, hev⟩ := rnd_part (g := fun tm H => ((tm.length, [getT tm 2, getT tm 3, getT tm 4, getT tm 7, getT tm 13, getT tm 14, getT tm 15]), H)) r ⟨cmp_ok (decide_eq_false (by omega)), trivial⟩
    simp only [Prod.mk.injEq, List.cons.injEq, and_true] at hs
    obtain ⟨⟨hl, t2, t3, t4, t7, t13, t14, t15⟩, rfl⟩ := hs
    obtain ⟨j', rfl⟩ := tmE_back hl t2 t3 t4 t7 t13 t14 t15
    exact ⟨g, j', .last hev (by simp)⟩
  | d + 1, k, hk, g, j => by
    have hlt : k < ops.length := by omega
    obtain ⟨g1, j1, h1⟩ := h.round b3 (List.getElem?_eq_getElem hlt) (by omega) g j
    obtain ⟨g2, j2, h3⟩ := h.rounds b3 h2 hM d (k + 1) (by omega) g1 j1
    exact ⟨g2, j2, .next h1 h3⟩
end

end Go.Proofs.Ytpmdpbljgidllaa
