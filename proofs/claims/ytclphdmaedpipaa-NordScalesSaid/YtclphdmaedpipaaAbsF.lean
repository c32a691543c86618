/- The interpreter's operations are the model's, continued: slicing, making, appending, two operands. -/
import Derived.Test.YtclphdmaedpipaaAbsE
import Derived.Laws.MakeOwn
namespace Go.Proofs.Ytclphdmaedpipaa
open Go
set_option linter.unusedVariables false

section
variable {P : Program}

theorem intOf_int {m : Mp} {v v' : Value} {n : Int} (hv : VR m v v') (h : intOf? v = some n) : ∃ k, v' = .int k n := by
  cases hv <;> simp [intOf?] at h
  subst h
  exact ⟨_, rfl⟩

theorem run_sliceBound {k : IntKind} {i : Int} {y : Nat} {code : BoundsCode} (h0 : 0 ≤ i) (h1 : i ≤ y) (w : World) : (Instr.sliceBound (.int k i) y code).run P w = .ok i.toNat w := by
  simp [Instr.sliceBound, asIntOf, h0, h1]

theorem VR.opt {m : Mp} {lo lo' : Option Value} (h : lo.isSome = lo'.isSome) (hv : ∀ v v', lo = some v → lo' = some v' → VR m v v') :
    (lo = none ∧ lo' = none) ∨ ∃ v v', lo = some v ∧ lo' = some v' ∧ VR m v v' := by
  cases lo <;> cases lo' <;> simp at h
  · exact .inl ⟨rfl, rfl⟩
  · exact .inr ⟨_, _, rfl, rfl, hv _ _ rfl rfl⟩

/-- How optional operands stand. -/
def VRo (m : Mp) (x y : Option Value) : Prop := (x = none ∧ y = none) ∨ ∃ v v', x = some v ∧ y = some v' ∧ VR m v v'

theorem run_sliceAt' {t : TypeId} {m : Mp} {x x' : Value} {lo lo' hi hi' mx mx' : Option Value} (hx : VR m x x') (hlo : VRo m lo lo') (hhi : VRo m hi hi') (hmx : VRo m mx mx') {v : Value} (h : sliceV P t x lo hi mx = some v) (w : World) :
    ∃ v', (Instr.sliceAt t x' lo' hi' mx').run P w = .ok v' w ∧ VR m v v' := by
  unfold sliceV at h
  split at h
  · rename_i s
    cases hx
    split at h
    · rename_i hc
      simp only [Bool.and_eq_true] at hc
      obtain ⟨⟨hm, hl⟩, hh⟩ := hc
      have e1 : mx' = none := by
        rcases hmx with ⟨rfl, rfl⟩ | ⟨a, b, rfl, rfl, _⟩
        · rfl
        · simp at hm
      have e2 : lo' = lo := by
        rcases hlo with ⟨rfl, rfl⟩ | ⟨a, b, rfl, rfl, hv⟩
        · rfl
        · rw [hv.exact 1 _ _ (by simpa using hl)]
      have e3 : hi' = hi := by
        rcases hhi with ⟨rfl, rfl⟩ | ⟨a, b, rfl, rfl, hv⟩
        · rfl
        · rw [hv.exact 1 _ _ (by simpa using hh)]
      rw [e1, e2, e3]
      exact ⟨v, (pureV_sound h m).1 w, (pureV_sound h m).2⟩
    · cases h
  · rename_i a n c
    cases hx with
    | @slice _ a' _ _ c' ha hn hr =>
      split at h
      · rename_i e hu
        split at h
        · rename_i i hinf
          split at h
          · cases h
          · rename_i hne
            split at h
            · rename_i l hh mm el eh em
              split at h
              · rename_i hc
                simp only [Bool.and_eq_true, decide_eq_true_eq] at hc
                obtain ⟨⟨⟨⟨h0l, hlh⟩, hhm⟩, hmn⟩, hmh⟩ := hc
                -- the real bounds
                have hbounds : ∃ M : Nat, (mm.toNat : Int) = mm ∧ (Instr.sliceBounds true n c' lo' hi' mx').run P w = .ok (l.toNat, hh.toNat, M) w ∧ hh.toNat ≤ M ∧ M ≤ c' := by
                  have hm0 : 0 ≤ mm := by omega
                  rcases hmx with ⟨rfl, rfl⟩ | ⟨v1, v1', rfl, rfl, hv1⟩
                  · simp [optInt] at em; subst em
                    refine ⟨c', by omega, ?_, by omega, Nat.le_refl _⟩
                    rcases hhi with ⟨rfl, rfl⟩ | ⟨v2, v2', rfl, rfl, hv2⟩
                    · simp [optInt] at eh; subst eh
                      rcases hlo with ⟨rfl, rfl⟩ | ⟨v3, v3', rfl, rfl, hv3⟩
                      · simp [optInt] at el; subst el
                        simp [Instr.sliceBounds]
                      · obtain ⟨k3, rfl⟩ := intOf_int hv3 (by simpa [optInt] using el)
                        simp [Instr.sliceBounds, run_sliceBound (P := P) (k := k3) (i := l) (y := n) h0l (by omega)]
                    · obtain ⟨k2, rfl⟩ := intOf_int hv2 (by simpa [optInt] using eh)
                      rcases hlo with ⟨rfl, rfl⟩ | ⟨v3, v3', rfl, rfl, hv3⟩
                      · simp [optInt] at el; subst el
                        simp [Instr.sliceBounds, run_sliceBound (P := P) (k := k2) (i := hh) (y := c') (by omega) (by omega)]
                      · obtain ⟨k3, rfl⟩ := intOf_int hv3 (by simpa [optInt] using el)
                        simp [Instr.sliceBounds, run_sliceBound (P := P) (k := k2) (i := hh) (y := c') (by omega) (by omega), run_sliceBound (P := P) (k := k3) (i := l) (y := hh.toNat) h0l (by omega)]
                  · obtain ⟨k1, rfl⟩ := intOf_int hv1 (by simpa [optInt] using em)
                    refine ⟨mm.toNat, by omega, ?_, by omega, by omega⟩
                    rcases hhi with ⟨rfl, rfl⟩ | ⟨v2, v2', rfl, rfl, hv2⟩
                    · simp at hmh
                    · obtain ⟨k2, rfl⟩ := intOf_int hv2 (by simpa [optInt] using eh)
                      rcases hlo with ⟨rfl, rfl⟩ | ⟨v3, v3', rfl, rfl, hv3⟩
                      · simp [optInt] at el; subst el
                        simp [Instr.sliceBounds, run_sliceBound (P := P) (k := k1) (i := mm) (y := c') hm0 (by omega), run_sliceBound (P := P) (k := k2) (i := hh) (y := mm.toNat) (by omega) (by omega)]
                      · obtain ⟨k3, rfl⟩ := intOf_int hv3 (by simpa [optInt] using el)
                        simp [Instr.sliceBounds, run_sliceBound (P := P) (k := k1) (i := mm) (y := c') hm0 (by omega), run_sliceBound (P := P) (k := k2) (i := hh) (y := mm.toNat) (by omega) (by omega), run_sliceBound (P := P) (k := k3) (i := l) (y := hh.toNat) h0l (by omega)]
                obtain ⟨M, _, hb, hM1, hM2⟩ := hbounds
                have hrun : (Instr.sliceAt t (.slice (some a') n c') lo' hi' mx').run P w = .ok (.slice (if M = l.toNat then some a' else some (a'.add (l.toNat * i.size))) (hh.toNat - l.toNat) (M - l.toNat)) w := by
                  unfold Instr.sliceAt
                  simp [Instr.slice, run_underlying hu, hb, run_size hinf]
                refine ⟨_, hrun, ?_⟩
                split at h
                · rename_i hl0
                  injection h with h; subst h
                  subst hl0
                  simp only [Int.toNat_zero, Nat.zero_mul, Nat.sub_zero]
                  have : (if M = 0 then some a' else some (a'.add 0)) = some a' := by split <;> simp [Addr.add]
                  rw [this]
                  exact .slice ha hM1 fun lc hlc ho hz => Nat.le_trans (Nat.mul_le_mul_right _ hM2) (hr lc hlc ho hz)
                · rename_i hl0
                  split at h
                  · rename_i hlh'
                    injection h with h; subst h
                    subst hlh'
                    rw [Nat.sub_self]
                    exact .loose _ _
                  · rename_i hlh'
                    injection h with h; subst h
                    rw [if_neg (by omega)]
                    refine .slice (tr_add ha _) (by omega) fun lc hlc ho hz => ?_
                    exfalso
                    have : 0 < l.toNat * i.size := Nat.mul_pos (by omega) (by omega)
                    simp at hz
                    omega
              · cases h
            · cases h
        · cases h
      · cases h
  · cases h

theorem run_makeSlice' {t : TypeId} {H H' : AHeap} {m : Mp} {w : World} (hr : HR H m w) {l l' c c' : Value} (hl : VR m l l') (hc : VR m c c') {v : Value} (h : makeSliceV P H t l c = some (v, H')) :
    ∃ v' m' w', (Instr.makeSlice t l' c').run P w = .ok v' w' ∧ VR m' v v' ∧ HR H' m' w' ∧ Step H m w H' m' w' := by
  unfold makeSliceV at h
  split at h
  · rename_i e k1 n k2 mm hu
    cases hl
    cases hc
    split at h
    · rename_i i hinf
      split at h
      · rename_i z hz
        split at h
        · rename_i hcond
          simp only [Bool.and_eq_true, beq_iff_eq, decide_eq_true_eq] at hcond
          obtain ⟨⟨⟨⟨⟨⟨hcl, hzs⟩, hpos⟩, hby⟩, hn0⟩, hnm⟩, hm⟩ := hcond
          injection h with h
          simp only [Prod.mk.injEq] at h
          obtain ⟨rfl, rfl⟩ := h
          have hbytes : (i.bytes : Int) * mm ≤ 281474976710656 := by
            have h1 : (i.bytes : Int) * mm ≤ 1048576 * mm := Int.mul_le_mul_of_nonneg_right (by omega) (by omega)
            omega
          have hrun := run_make (P := P) w t e i z hu hinf hz k1 k2 n mm hn0 hnm hbytes (by omega)
          have hmade : madeCells z.cells (mm.toNat * i.size) = (repL z.cells.toList mm.toNat).toArray := by
            have := rep_eq z.cells (by omega) mm.toNat
            rw [hzs] at this
            unfold madeCells
            rw [hzs]
            exact this
          rw [hmade] at hrun
          have hzl : z.cells.toList.length = i.size := by simpa using hzs
          have hal := hr.alloc (repL z.cells.toList n.toNat).toArray (repL z.cells.toList mm.toNat).toArray e i.size (by
              simp only [List.size_toArray, repL_length]
              exact Nat.mul_le_mul_right _ (by omega)) (by
              intro j x hx
              have hj := lt_of_get hx
              simp only [List.size_toArray, repL_length, hzl] at hj
              have hj2 : j < mm.toNat * i.size := Nat.lt_of_lt_of_le hj (Nat.mul_le_mul_right _ (by omega))
              have g1 := repL_get z.cells.toList (by omega) n.toNat j (by rw [hzl]; exact hj)
              have g2 := repL_get z.cells.toList (by omega) mm.toNat j (by rw [hzl]; exact hj2)
              simp only [List.getElem?_toArray] at hx ⊢
              rw [g1] at hx
              rw [g2]
              exact (closN_cells (m := m) hcl).list.get hx)
          refine ⟨_, _, _, hrun, ?_, hal.1, hal.2⟩
          refine .slice (by unfold tr; rw [← hr.size, push_new]; rfl) (by omega) fun lc hlc ho hz0 => ?_
          rw [show (⟨H.size, 0, none⟩ : Addr).block = m.size from hr.size.symm, push_new] at hlc
          injection hlc with hlc
          subst hlc
          simp [repL_length, hzs]
        · cases h
      · cases h
    · cases h
  · cases h

/-! ### appending -/

theorem run_app_room {t ty e : TypeId} {i : TypeInfo} (hu : P.underlying t = some (.slice e)) (hi : P.info? e = some i) (g sLen sCap : Nat) (cur : Array Value) (elem : TypeId) (w : World) (hg : w.heap[g]? = some (.cells cur elem (0, 0)))
    (x : Value) (n : Nat) (news : List Value) (hlen : (Builtin.lenOf x).run P w = .ok n w) (hf : (Builtin.firstCells i.size n x).run P w = .ok news.toArray w) (h1 : ∀ u ∈ news, u.oneCell' = true)
    (hroom : sLen + n ≤ sCap) (hfit : sLen * i.size + news.length ≤ cur.size) :
    (Builtin.append_ #[t, t] ty #[.slice (some ⟨g, 0, none⟩) sLen sCap, x]).run P w =
      .ok (.slice (some ⟨g, 0, none⟩) (sLen + n) sCap) (w.setRow g (cur.toList.take (sLen * i.size) ++ news ++ cur.toList.drop (sLen * i.size + news.length)).toArray) := by
  have hst := run_storeCells_at P g (sLen * i.size) elem news 0 cur w hg (by simpa using hfit) h1
  simp only [Nat.add_zero] at hst
  simp [Builtin.append_, run_underlying hu, sizeOf, typeInfo, hi, hlen, hroom, hf, add_plain, hst]

theorem run_app_grow {t ty e : TypeId} {i : TypeInfo} {z : Value} (hu : P.underlying t = some (.slice e)) (hi : P.info? e = some i) (hz : i.zero = some z) (base : Option Addr) (sLen sCap : Nat) (w : World)
    (olds news : List Value) (x : Value) (n : Nat) (hlen : (Builtin.lenOf x).run P w = .ok n w)
    (ho : (Builtin.firstCells i.size sLen (.slice base sLen sCap)).run P w.drew = .ok olds.toArray w.drew)
    (hf : (Builtin.firstCells i.size n x).run P w.drew = .ok news.toArray w.drew)
    (hg : sCap < sLen + n) (h63 : ((sLen + n : Nat) : Int) ≤ 9223372036854775807) (hfit : Builtin.nextslicecap (sLen + n) sCap * i.bytes ≤ 281474976710656) :
    ∃ cap, sLen + n ≤ cap ∧ (Builtin.append_ #[t, t] ty #[.slice base sLen sCap, x]).run P w =
      .ok (.slice (some ⟨w.heap.size, 0, none⟩) (sLen + n) cap) (w.drew.alloc (.cells ((olds ++ news).toArray ++ Builtin.zeroCells z.cells (cap - (sLen + n))) e)) := by
  have hn : ¬ (sLen + n ≤ sCap) := by omega
  have h63' : ¬ (9223372036854775807 < ((sLen : Int) + (n : Int))) := by omega
  have h48' : ¬ (281474976710656 < Builtin.nextslicecap (sLen + n) sCap * i.bytes) := by omega
  refine ⟨grownCap w (sLen + n) sCap e, grownCap_ge w _ _ _, ?_⟩
  simp [Builtin.append_, run_underlying hu, sizeOf, typeInfo, zeroValue, hi, hz, hlen, hn, h63', h48', Question.forced, ho, hf, newRow, grownCap]
  congr 2
  apply Array.ext'
  simp [List.append_assoc]

end
end Go.Proofs.Ytclphdmaedpipaa
