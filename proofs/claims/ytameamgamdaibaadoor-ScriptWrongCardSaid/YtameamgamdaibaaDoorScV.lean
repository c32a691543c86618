/- Contracts seen from elsewhere: from a greater memory, told by other numbers. -/
import Derived.Test.YtameamgamdaibaaDoorGen
namespace Go.Proofs.YtameamgamdaibaaDoor
open Go
set_option linter.unusedVariables false
set_option linter.unusedSimpArgs false
set_option maxRecDepth 100000

def AllFrozen (H : AHeap) : Prop := ∀ (b : Nat) (B : ABlk), H[b]? = some (some B) → B.own = false
theorem froze_all (H : AHeap) : AllFrozen (froze H) := fun b B h => (froze_get h).1

theorem vr_cap {m : Mp} {b o n c c' : Nat} {v : Value} (h : VR m (.slice (some ⟨b, o, none⟩) n c) v) : VR m (.slice (some ⟨b, o, none⟩) n c') v := by
  cases h with
  | slice ht hn hr => exact .slice ht hn hr

theorem AllFrozen.nofp {H : AHeap} (h : AllFrozen H) {m : Mp} : ∀ g, ¬ FP H m g := by
  rintro g ⟨b, B, l, hb, ho, _⟩
  rw [h b B hb] at ho
  cases ho


section
variable {P : Program}
/-- A contract about a part of memory, told by other numbers, that reads alone. -/
theorem Runs.view {f : FuncId} {args2 args1 : Array Value} {H2 H3 H1 : AHeap} {v : Value} {ρ : Nat → Nat} (h : Runs P f args2 H2 v H3) (hf : AllFrozen H2) (hv : closN 4 v = true) (hs : RelS 0 ρ args2.toList H2 args1.toList H1) : Runs P f args1 H1 v H1 := by
  intro m w args' hr ha
  have ha2 : VRs (reM H2.size ρ m) args2 args' := by
    have hl : args2.size = args1.size := by simpa using hs.len
    refine ⟨hl.trans ha.1, fun i h1 h2 => ?_⟩
    refine (hs.tmp i args2[i] (args1[i]'(by omega)) ?_ ?_).vr (ha.2 i (by omega) h2)
    · simp [h1]
    · simp [show i < args1.size by omega]
  obtain ⟨h1, h2⟩ := h (reM H2.size ρ m) w args' (hs.hr hr) ha2
  refine ⟨h1, h2.mono ?_⟩
  rintro e w' ⟨v', m', he, hvr, hr', hst⟩
  have hk := fun g (hg : g < w.heap.size) => hst.keep g hg (hf.nofp _)
  exact ⟨v', m, he, hvr.clos_any 4 _ _ hv, hr.same hst.size hk, ⟨.refl m, hst.os, hst.tape, hst.output, hst.size, fun g hg _ => hk g hg, fun g hg => .inl hg⟩⟩
/-- What is left, told by other numbers. -/
theorem Runs.ren {f : FuncId} {args : Array Value} {H H1 H2 : AHeap} {v1 v2 : Value} {ρ : Nat → Nat} (h : Runs P f args H v1 H1) (hs : RelS H.size ρ [v2] H2 [v1] H1) : Runs P f args H v2 H2 := by
  intro m w args' hr ha
  obtain ⟨h1, h2⟩ := h m w args' hr ha
  refine ⟨h1, h2.mono ?_⟩
  rintro e w' ⟨v', m', he, hvr, hr', hst⟩
  have s2 := hs.step hr'
  refine ⟨v', _, he, (hs.tmp 0 _ _ rfl rfl).vr hvr, hs.hr hr', ⟨fun b l hl => ?_, hst.os, hst.tape, hst.output, hst.size, hst.keep, fun g hg => ?_⟩⟩
  · have hb : b < H.size := by rw [← hr.size]; exact (Array.getElem?_eq_some_iff.1 hl).1
    exact s2.ext b l hb (hst.ext b l hl)
  · rcases s2.fp g hg with h | h
    · exact hst.fp g h
    · exact .inr (Nat.le_trans hst.size h)

def rhoN (c1 c2 big : Nat) (b : Nat) : Nat := if b < c1 then big else b - c1 + c2
def mpN (c1 z1 : Nat) (ρ1 : Nat → Nat) (m m' : Mp) : Mp := ((List.range z1).map fun b => if b < c1 then (m[b]?).getD deadLoc else (m'[ρ1 b]?).getD deadLoc).toArray
theorem mpN_size (c1 z1 : Nat) (ρ1 : Nat → Nat) (m m' : Mp) : (mpN c1 z1 ρ1 m m').size = z1 := by simp [mpN]
theorem mpN_lo {c1 z1 : Nat} {ρ1 : Nat → Nat} {m m' : Mp} {b : Nat} {l : Loc} (hb : b < c1) (hz : b < z1) (h : m[b]? = some l) : (mpN c1 z1 ρ1 m m')[b]? = some l := by
  unfold mpN
  simp only [List.getElem?_toArray, List.getElem?_map, List.getElem?_range hz, Option.map_some, if_pos hb, h, Option.getD_some]
theorem mpN_hi {c1 z1 : Nat} {ρ1 : Nat → Nat} {m m' : Mp} {b : Nat} {l : Loc} (hb : ¬ b < c1) (hz : b < z1) (h : m'[ρ1 b]? = some l) : (mpN c1 z1 ρ1 m m')[b]? = some l := by
  unfold mpN
  simp only [List.getElem?_toArray, List.getElem?_map, List.getElem?_range hz, Option.map_some, if_neg hb, h, Option.getD_some]
theorem mpN_back {c1 z1 : Nat} {ρ1 : Nat → Nat} {m m' : Mp} {b : Nat} {l : Loc} (h : (mpN c1 z1 ρ1 m m')[b]? = some l) (hl : l.live = true) : b < z1 ∧ ((b < c1 ∧ m[b]? = some l) ∨ (¬ b < c1 ∧ m'[ρ1 b]? = some l)) := by
  have hb : b < z1 := by have := lt_of_get h; rwa [mpN_size] at this
  refine ⟨hb, ?_⟩
  unfold mpN at h
  simp only [List.getElem?_toArray, List.getElem?_map, List.getElem?_range hb, Option.map_some, Option.some.injEq] at h
  by_cases hc : b < c1
  · rw [if_pos hc] at h
    refine .inl ⟨hc, ?_⟩
    cases hm : m[b]? with
    | none => rw [hm] at h; simp only [Option.getD_none] at h; subst h; cases hl
    | some l2 => rw [hm] at h; simp only [Option.getD_some] at h; rw [h]
  · rw [if_neg hc] at h
    refine .inr ⟨hc, ?_⟩
    cases hm : m'[ρ1 b]? with
    | none => rw [hm] at h; simp only [Option.getD_none] at h; subst h; cases hl
    | some l2 => rw [hm] at h; simp only [Option.getD_some] at h; rw [h]
/-- The new blocks, there (right) and here (left). -/
structure RelN (z1 : Nat) (ρ1 : Nat → Nat) (bs1 bs2 : AHeap) : Prop where
  size : bs1.size = bs2.size
  blk : ∀ (j : Nat) (B1 : ABlk), bs1[j]? = some (some B1) → ∃ B2, bs2[j]? = some (some B2) ∧ RelK z1 ρ1 B1 B2
theorem Runs.viewN {f : FuncId} {args2 args1 : Array Value} {H2 bs2 H1 bs1 : AHeap} {v2 v1 : Value} {ρ : Nat → Nat} (h : Runs P f args2 H2 v2 (H2 ++ bs2)) (hf2 : AllFrozen H2) (hf1 : AllFrozen H1) (hs : RelS 0 ρ args2.toList H2 args1.toList H1)
    (hv : RelA (H1.size + bs1.size) (rhoN H1.size H2.size (H2.size + bs2.size)) v1 v2) (hb : RelN (H1.size + bs1.size) (rhoN H1.size H2.size (H2.size + bs2.size)) bs1 bs2) : Runs P f args1 H1 v1 (H1 ++ bs1) := by
  intro m w args' hr ha
  have ha2 : VRs (reM H2.size ρ m) args2 args' := by
    have hl : args2.size = args1.size := by simpa using hs.len
    refine ⟨hl.trans ha.1, fun i h1 h2 => ?_⟩
    refine (hs.tmp i args2[i] (args1[i]'(by omega)) ?_ ?_).vr (ha.2 i (by omega) h2)
    · simp [h1]
    · simp [show i < args1.size by omega]
  obtain ⟨h1, h2⟩ := h (reM H2.size ρ m) w args' (hs.hr hr) ha2
  refine ⟨h1, h2.mono ?_⟩
  rintro e w' ⟨v', m', he, hvr, hr', hst⟩
  have hk := fun g (hg : g < w.heap.size) => hst.keep g hg (hf2.nofp _)
  have hms : m.size = H1.size := hr.size
  have hms' : m'.size = H2.size + bs2.size := by rw [hr'.size]; simp
  generalize hz : H1.size + bs1.size = z1 at hv hb
  generalize hρ : rhoN H1.size H2.size (H2.size + bs2.size) = ρ1 at hv hb
  have hlo : ∀ b, b < H1.size → ρ1 b = H2.size + bs2.size := fun b hb => by rw [← hρ]; unfold rhoN; rw [if_pos hb]
  have hhi : ∀ j, ρ1 (H1.size + j) = H2.size + j := fun j => by rw [← hρ]; unfold rhoN; rw [if_neg (by omega)]; omega
  have ext : Ext m (mpN H1.size z1 ρ1 m m') := fun b l hl => by
    have := lt_of_get hl
    exact mpN_lo (by omega) (by omega) hl
  have extL : ExtL (reM z1 ρ1 m') (mpN H1.size z1 ρ1 m m') := fun b l hb hl => by
    obtain ⟨g1, g2⟩ := reM_back hb hl
    by_cases hc : b < H1.size
    · rw [hlo b hc] at g2
      have := lt_of_get g2
      omega
    · exact mpN_hi hc g1 g2
  have newFP : ∀ (j : Nat) (B2 : ABlk) (l : Loc), bs2[j]? = some (some B2) → B2.own = true → m'[H2.size + j]? = some l → w.heap.size ≤ l.blk := fun j B2 l hj ho hl => by
    have hB : (H2 ++ bs2)[H2.size + j]? = some (some B2) := by rw [Array.getElem?_append_right (by omega)]; simpa using hj
    rcases hst.fp l.blk ⟨_, B2, l, hB, ho, hl, rfl⟩ with g | g
    · exact absurd g (hf2.nofp _)
    · exact g
  have sp : ∀ (b : Nat) (B : ABlk), (H1 ++ bs1)[b]? = some (some B) → (b < H1.size ∧ H1[b]? = some (some B)) ∨ ∃ j, b = H1.size + j ∧ bs1[j]? = some (some B) := fun b B hB => by
    by_cases hc : b < H1.size
    · rw [Array.getElem?_append_left hc] at hB
      exact .inl ⟨hc, hB⟩
    · refine .inr ⟨b - H1.size, by omega, ?_⟩
      rw [Array.getElem?_append_right (by omega)] at hB
      exact hB
  have fp : ∀ g, FP (H1 ++ bs1) (mpN H1.size z1 ρ1 m m') g → FP H1 m g ∨ w.heap.size ≤ g := by
    rintro g ⟨b, B, l, hB, ho, hl, rfl⟩
    rcases sp b B hB with ⟨hc, hB⟩ | ⟨j, rfl, hj⟩
    · rw [hf1 b B hB] at ho; cases ho
    · obtain ⟨B2, hj2, hK⟩ := hb.blk j B hj
      have hB2 : (H2 ++ bs2)[H2.size + j]? = some (some B2) := by rw [Array.getElem?_append_right (by omega)]; simpa using hj2
      obtain ⟨l0, cs, fr, hl0, r⟩ := hr'.blk _ B2 hB2
      have hjs := lt_of_get hj
      have e1 := mpN_hi (c1 := H1.size) (z1 := z1) (ρ1 := ρ1) (m := m) (m' := m') (show ¬ H1.size + j < H1.size by omega) (by omega) (by rw [hhi]; exact hl0)
      rw [e1] at hl
      injection hl with hl
      subst hl
      exact .inr (newFP j B2 l0 hj2 (hK.own ho) hl0)
  refine ⟨v', _, he, (hv.vr hvr).monoL extL, hr.step ⟨by rw [mpN_size]; simp [← hz], ?_, ?_, ?_⟩ hst.size (fun g hg _ => hk g hg) fp, ⟨ext, hst.os, hst.tape, hst.output, hst.size, fun g hg _ => hk g hg, fp⟩⟩
  · intro b l hb hl
    obtain ⟨_, ⟨_, g⟩ | ⟨_, g⟩⟩ := mpN_back hb hl
    · exact Nat.lt_of_lt_of_le (hr.old b l g hl) hst.size
    · exact hr'.old _ l g hl
  · intro b B hB
    rcases sp b B hB with ⟨hc, hB⟩ | ⟨j, rfl, hj⟩
    · obtain ⟨l, cs, fr, hl, r⟩ := hr.blk b B hB
      exact ⟨l, cs, fr, ext b l hl, r.mono ext (hk _ (hr.old b l hl r.live))⟩
    · obtain ⟨B2, hj2, hK⟩ := hb.blk j B hj
      have hB2 : (H2 ++ bs2)[H2.size + j]? = some (some B2) := by rw [Array.getElem?_append_right (by omega)]; simpa using hj2
      obtain ⟨l, cs, fr, hl, r⟩ := hr'.blk _ B2 hB2
      have hjs := lt_of_get hj
      refine ⟨l, cs, fr, mpN_hi (by omega) (by omega) (by rw [hhi]; exact hl), r.real, r.size, fun o => r.own (hK.own o), fun o => ?_, ?_, fun i v hv => ?_, r.live⟩
      · obtain ⟨g1, g2, g3, g4⟩ := r.mine (hK.own o)
        exact ⟨g1, g2, g3.trans hK.elem.symm, g4.trans hK.esz.symm⟩
      · have := r.fits; have := hK.size; omega
      · have hi : i < B2.cells.size := Nat.lt_of_lt_of_le (lt_of_get hv) hK.size
        obtain ⟨v', g1, g2⟩ := r.vals i _ (Array.getElem?_eq_getElem hi)
        exact ⟨v', g1, ((hK.cells i v _ hv (Array.getElem?_eq_getElem hi)).vr g2).monoL extL⟩
  · intro b b' B B' l l' hB hB' hl hl' ho he
    rcases sp b B hB with ⟨hc, hB⟩ | ⟨j, rfl, hj⟩
    · rw [hf1 b B hB] at ho; cases ho
    · obtain ⟨B2, hj2, hK⟩ := hb.blk j B hj
      have hB2 : (H2 ++ bs2)[H2.size + j]? = some (some B2) := by rw [Array.getElem?_append_right (by omega)]; simpa using hj2
      obtain ⟨l0, cs, fr, hl0, r⟩ := hr'.blk _ B2 hB2
      have hjs := lt_of_get hj
      have e1 := mpN_hi (c1 := H1.size) (z1 := z1) (ρ1 := ρ1) (m := m) (m' := m') (show ¬ H1.size + j < H1.size by omega) (by omega) (by rw [hhi]; exact hl0)
      rw [e1] at hl
      injection hl with hl
      subst hl
      have hge := newFP j B2 l0 hj2 (hK.own ho) hl0
      rcases sp b' B' hB' with ⟨hc', hB'⟩ | ⟨j', rfl, hj'⟩
      · obtain ⟨l1, cs1, fr1, hl1, r1⟩ := hr.blk b' B' hB'
        have e2 := ext b' l1 hl1
        rw [e2] at hl'
        injection hl' with hl'
        subst hl'
        have := hr.old b' l1 hl1 r1.live
        omega
      · obtain ⟨B2', hj2', hK'⟩ := hb.blk j' B' hj'
        have hB2' : (H2 ++ bs2)[H2.size + j']? = some (some B2') := by rw [Array.getElem?_append_right (by omega)]; simpa using hj2'
        obtain ⟨l1, cs1, fr1, hl1, r1⟩ := hr'.blk _ B2' hB2'
        have hjs' := lt_of_get hj'
        have e2 := mpN_hi (c1 := H1.size) (z1 := z1) (ρ1 := ρ1) (m := m) (m' := m') (show ¬ H1.size + j' < H1.size by omega) (by omega) (by rw [hhi]; exact hl1)
        rw [e2] at hl'
        injection hl' with hl'
        subst hl'
        have := hr'.inj _ _ B2 B2' l0 l1 hB2 hB2' hl0 hl1 (hK.own ho) he
        omega

end

end Go.Proofs.YtameamgamdaibaaDoor
