/- The interpreter's operations are the model's, the last: appending, two operands, conversions; and each operation as a whole. -/
import Derived.Test.YtclphdmaedpipaaAbsF
namespace Go.Proofs.Ytclphdmaedpipaa
open Go
set_option linter.unusedVariables false

section
variable {P : Program}

theorem news_sound {H : AHeap} {m : Mp} {w : World} (hr : HR H m w) {x x' : Value} (hx : VR m x x') {size n : Nat} {cs : Array Value} (h : newsV H size x = some (n, cs)) :
    ∃ news : List Value, (Builtin.lenOf x').run P w = .ok n w ∧ (Builtin.firstCells size n x').run P w = .ok news.toArray w ∧ (Builtin.firstCells size n x').run P w.drew = .ok news.toArray w.drew ∧
      VRl m cs.toList news ∧ (∀ u ∈ news, u.oneCell' = true) ∧ news.length = n * size ∧ cs.size = n * size := by
  unfold newsV at h
  split at h
  · injection h with h
    simp only [Prod.mk.injEq] at h
    obtain ⟨rfl, rfl⟩ := h
    cases hx
    exact ⟨[], by simp [Builtin.lenOf], by simp [Builtin.firstCells], by simp [Builtin.firstCells], .nil, by simp, by simp, by simp⟩
  · rename_i a k c
    cases hx with
    | @slice _ a' _ _ c' ha hn hroom =>
      split at h
      · rename_i B hb
        split at h
        · rename_i hc
          simp only [Bool.and_eq_true, decide_eq_true_eq] at hc
          obtain ⟨hle, hone⟩ := hc
          injection h with h
          simp only [Prod.mk.injEq] at h
          obtain ⟨rfl, rfl⟩ := h
          obtain ⟨cs, hsz, hv, hcell⟩ := hr.load ha hb (k * size) hle
          rw [← cut_eq] at hv
          have hl : cs.toList.length = k * size := by simpa using hsz
          refine ⟨cs.toList, by simp [Builtin.lenOf], ?_, ?_, hv.list, ?_, hl, ?_⟩
          · have := run_firstCells_some (P := P) w size k a' k c' cs.toList hl hcell
            simpa [Builtin.firstCells] using this
          · have := run_firstCells_some (P := P) w.drew size k a' k c' cs.toList hl (by simpa using hcell)
            simpa [Builtin.firstCells] using this
          · intro u hu
            obtain ⟨j, hj, rfl⟩ := List.getElem_of_mem hu
            have hj' : j < (cut B.cells a.off (k * size)).toList.length := by rw [hv.list.length]; exact hj
            obtain ⟨y, hy1, hy2⟩ := hv.list.get (List.getElem?_eq_getElem hj')
            rw [List.getElem?_eq_getElem hj] at hy1
            injection hy1 with hy1
            rw [hy1]
            exact oneCell_of hy2 ((List.all_eq_true.1 hone) _ (List.getElem_mem hj'))
          · rw [hv.1]; exact hsz
        · cases h
      · cases h
  · cases h

theorem drewHR {H : AHeap} {m : Mp} {w : World} (h : HR H m w) : HR H m w.drew := h.drawn _
theorem drewStep (H : AHeap) (m : Mp) (w : World) : Step H m w H m w.drew := Step.drawn H m w _

theorem run_append' {t t2 ty : TypeId} {H H' : AHeap} {m : Mp} {w : World} (hr : HR H m w) {s s' x x' : Value} (hs : VR m s s') (hx : VR m x x') {v : Value} (h : appendV P H t t2 s x = some (v, H')) :
    ∃ v' m' w', (Builtin.append_ #[t, t2] ty #[s', x']).run P w = .ok v' w' ∧ VR m' v v' ∧ HR H' m' w' ∧ Step H m w H' m' w' := by
  unfold appendV at h
  split at h
  · rename_i e hu
    split at h
    · rename_i i hinf
      split at h
      · rename_i z hz
        split at h
        · rename_i hc
          simp only [Bool.and_eq_true, beq_iff_eq, decide_eq_true_eq] at hc
          obtain ⟨⟨⟨rfl, hpos⟩, hzs⟩, hby⟩ := hc
          split at h
          · rename_i n cs hnews
            obtain ⟨news, hlen, hf, hfd, hvl, hone, hnl, hcs⟩ := news_sound (P := P) hr hx hnews
            have hbound : ∀ k, k ≤ 16777216 → k * i.bytes ≤ 140737488355328 := fun k hk => Nat.le_trans (Nat.mul_le_mul hk hby) (by decide)
            split at h
            · cases hs
              split at h
              · rename_i hn0
                subst hn0
                injection h with h
                simp only [Prod.mk.injEq] at h
                obtain ⟨rfl, rfl⟩ := h
                refine ⟨.slice none 0 0, m, w, ?_, .nilslice, hr, .refl _ _ _⟩
                simp [Builtin.append_, run_underlying hu, sizeOf, typeInfo, hinf, hlen, hf]
              · rename_i hn0
                split at h
                · rename_i hle
                  injection h with h
                  simp only [Prod.mk.injEq] at h
                  obtain ⟨rfl, rfl⟩ := h
                  obtain ⟨cap, hcap, hrun⟩ := run_app_grow (P := P) (ty := ty) hu hinf hz none 0 0 w [] news x' n hlen (by simp [Builtin.firstCells]) hfd (by omega) (by omega) (growslice_fits (by omega) (by simpa using hbound n hle))
                  simp only [Nat.zero_add, List.nil_append] at hrun hcap
                  have hal := (drewHR hr).alloc cs (news.toArray ++ Builtin.zeroCells z.cells (cap - n)) e i.size (by simp [hcs, hnl]) (by
                    intro j u hu'
                    have hj := lt_of_get hu'
                    obtain ⟨y, hy, hvy⟩ := hvl.get (i := j) (x := u) (by simpa using hu')
                    have hjn : j < news.length := by rw [hnl, ← hcs]; exact hj
                    refine ⟨y, ?_, hvy⟩
                    rw [Array.getElem?_append_left (by simpa using hjn)]
                    simpa using hy)
                  refine ⟨_, _, _, hrun, ?_, hal.1, (drewStep H m w).trans hal.2⟩
                  refine .slice (by unfold tr; rw [← hr.size, push_new]; rfl) hcap fun lc hlc ho h0 => ?_
                  rw [show (⟨H.size, 0, none⟩ : Addr).block = m.size from hr.size.symm, push_new] at hlc
                  injection hlc with hlc
                  subst hlc
                  simp only [Array.size_append, List.size_toArray, hnl, size_zeroCells, hzs]
                  rw [← Nat.add_mul]
                  exact Nat.mul_le_mul_right _ (by omega)
                · cases h
            · rename_i a len c
              cases hs with
              | @slice _ a' _ _ c' ha hn hroom =>
                split at h
                · rename_i B hb
                  split at h
                  · rename_i hc
                    simp only [Bool.and_eq_true, beq_iff_eq, decide_eq_true_eq] at hc
                    obtain ⟨⟨⟨⟨⟨hown, helem⟩, hesz⟩, hoff⟩, hlenB⟩, hle⟩ := hc
                    injection h with h
                    simp only [Prod.mk.injEq] at h
                    obtain ⟨rfl, rfl⟩ := h
                    obtain ⟨l, cur, fr, hl, r, rfl⟩ := hr.at_ ha hb
                    obtain ⟨hfr, hbase, hle2, hlesz⟩ := r.mine hown
                    subst hfr
                    have hlo : l.own = true := r.own hown
                    have hrm := hroom l hl hlo hoff
                    have hcur := r.size
                    have hfit := r.fits
                    rw [hbase, hoff]
                    simp only [Nat.zero_add]
                    by_cases hfits : len + n ≤ c'
                    · have hmul : (len + n) * i.size ≤ cur.size := by
                        rw [hcur]
                        refine Nat.le_trans (Nat.mul_le_mul_right _ hfits) ?_
                        rw [hlesz, hesz] at hrm
                        exact hrm
                      have hspace : len * i.size + news.length ≤ cur.size := by rw [hnl, ← Nat.add_mul]; exact hmul
                      have hrun := run_app_room (P := P) (ty := ty) hu hinf l.blk len c' cur l.elem w r.real x' n news hlen hf hone hfits hspace
                      generalize hcs' : (cur.toList.take (len * i.size) ++ news ++ cur.toList.drop (len * i.size + news.length)).toArray = cs' at hrun
                      have hsz' : cs'.size = cur.size := by
                        rw [← hcs']
                        simp only [List.size_toArray, List.length_append, List.length_take, List.length_drop, Array.length_toList]
                        omega
                      have hg := hr.grow hb hown hl r (B.cells.toList ++ cs.toList).toArray cs' hsz' (by
                        simp only [List.size_toArray, List.length_append, Array.length_toList]
                        rw [hsz', hcs, ← hlenB, ← hnl]; exact hspace) (by
                        intro j u hj
                        simp only [List.getElem?_toArray] at hj
                        rw [← hcs']
                        simp only [List.getElem?_toArray]
                        have htl : (cur.toList.take (len * i.size)).length = len * i.size := by simp; omega
                        by_cases hjl : j < len * i.size
                        · rw [List.getElem?_append_left (by simp; omega)] at hj
                          obtain ⟨y, hy1, hy2⟩ := r.vals j u (by simpa using hj)
                          refine ⟨y, ?_, hy2⟩
                          rw [List.append_assoc, List.getElem?_append_left (by omega), List.getElem?_take_of_lt hjl]
                          simpa [hbase] using hy1
                        · rw [List.getElem?_append_right (by simp; omega)] at hj
                          simp only [Array.length_toList] at hj
                          obtain ⟨y, hy1, hy2⟩ := hvl.get hj
                          have hlt := (List.getElem?_eq_some_iff.1 hy1).1
                          refine ⟨y, ?_, hy2⟩
                          rw [List.append_assoc, List.getElem?_append_right (by omega), htl, List.getElem?_append_left (by omega)]
                          rw [← hlenB] at hy1
                          exact hy1)
                      refine ⟨_, _, _, hrun, ?_, hg.1, hg.2⟩
                      refine .slice (by unfold tr; rw [← hr.size, push_new]; simp [hbase, r.live]) hfits fun lc hlc ho h0 => ?_
                      rw [show (⟨H.size, 0, none⟩ : Addr).block = m.size from hr.size.symm, push_new] at hlc
                      injection hlc with hlc
                      subst hlc
                      exact hrm
                    · obtain ⟨olds, hosz, hov, hoc⟩ := hr.load ha hb B.cells.size (by omega)
                      rw [hbase, hoff] at hoc
                      simp only [Nat.add_zero] at hoc
                      have hol : olds.toList.length = len * i.size := by simp [hosz, hlenB]
                      have hofc := run_firstCells_some (P := P) w.drew i.size len ⟨l.blk, 0, none⟩ len c' olds.toList hol (by simpa using hoc)
                      obtain ⟨cap, hcap, hrun⟩ := run_app_grow (P := P) (ty := ty) hu hinf hz (some ⟨l.blk, 0, none⟩) len c' w olds.toList news x' n hlen hofc hfd (by omega) (by omega) (growslice_fits (by omega) (hbound _ hle))
                      have hk := hr.kill a.block
                      have hkd := drewHR hk.1
                      have hal := hkd.alloc (B.cells.toList ++ cs.toList).toArray ((olds.toList ++ news).toArray ++ Builtin.zeroCells z.cells (cap - (len + n))) e i.size (by
                        simp [hcs, hnl, hosz]) (by
                        intro j u hj
                        simp only [List.getElem?_toArray] at hj
                        have hov' : VRl m B.cells.toList olds.toList := by
                          have := hov.list
                          rw [hoff] at this
                          simpa using this
                        obtain ⟨y, hy1, hy2⟩ := (hov'.append hvl).get hj
                        have hlt := (List.getElem?_eq_some_iff.1 hy1).1
                        refine ⟨y, ?_, hy2⟩
                        rw [Array.getElem?_append_left (by simpa using hlt)]
                        simpa using hy1)
                      have hB : ({ B with cells := (B.cells.toList ++ cs.toList).toArray } : ABlk) = ⟨(B.cells.toList ++ cs.toList).toArray, e, i.size, true⟩ := by
                        cases B
                        simp only at hown helem hesz
                        simp [hown, helem, hesz]
                      rw [hB]
                      refine ⟨_, _, _, hrun, ?_, hal.1, (hk.2.trans (drewStep _ m w)).trans hal.2⟩
                      refine .slice (by unfold tr; rw [← hr.size, push_new]; rfl) hcap fun lc hlc ho h0 => ?_
                      rw [show (⟨H.size, 0, none⟩ : Addr).block = m.size from hr.size.symm, push_new] at hlc
                      injection hlc with hlc
                      subst hlc
                      simp only [Array.size_append, List.size_toArray, List.length_append, hol, hnl, size_zeroCells, hzs]
                      rw [← Nat.add_mul, ← Nat.add_mul]
                      exact Nat.mul_le_mul_right _ (by omega)
                  · cases h
                · cases h
            · cases h
          · cases h
        · cases h
      · cases h
    · cases h
  · cases h

end
end Go.Proofs.Ytclphdmaedpipaa
