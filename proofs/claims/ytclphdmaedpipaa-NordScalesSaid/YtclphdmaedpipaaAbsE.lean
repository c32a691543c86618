/- The interpreter's operations are the model's, continued: slices, parts, indexes, conversions, appending, making. -/
import Derived.Test.YtclphdmaedpipaaAbsD
namespace Go.Proofs.Ytclphdmaedpipaa
open Go
set_option linter.unusedVariables false

section
variable {P : Program}

theorem run_buildSlice' {t : TypeId} {len : Nat} {m : Mp} (parts parts' : List (Nat × Value)) (hi : parts.map (·.1) = parts'.map (·.1)) (hv : VRl m (parts.map (·.2)) (parts'.map (·.2)))
    {e : TypeId} {i : TypeInfo} {cells : Array Value} (h : sliceCells P t len parts = some (e, i, cells)) (w : World) :
    ∃ cells', (Instr.buildSlice t len parts'.toArray).run P w = .ok (.slice (some ⟨w.heap.size, 0, none⟩) len len) (w.alloc (.cells cells' e)) ∧ VRs m cells cells' ∧ cells.size = len * i.size := by
  unfold sliceCells at h
  split at h
  · rename_i e' hu
    split at h
    · rename_i inf hinf
      split at h
      · rename_i z hz
        split at h
        · rename_i hc
          simp only [Bool.and_eq_true, beq_iff_eq, decide_eq_true_eq] at hc
          obtain ⟨⟨⟨hcl, hle⟩, hpos⟩, hzs⟩ := hc
          split at h
          · rename_i cs hfill
            injection h with h
            simp only [Prod.mk.injEq] at h
            obtain ⟨rfl, rfl, rfl⟩ := h
            have hz' : VRs m (repL z.cells.toList len).toArray (repL z.cells.toList len).toArray := by
              refine VRl.arr ?_
              have hzl := (closN_cells (m := m) hcl).list
              clear hfill
              induction len with
              | zero => exact .nil
              | succ n ih => exact hzl.append (ih (by rw [Nat.succ_mul] at hle; omega))
            obtain ⟨r', h1, h2⟩ := fill_rel (m := m) _ (fun j => some (j * inf.size, inf.size)) (fun _ _ h => h) parts parts' _ _ cs hi hv hz' hfill
            have hsz : cs.size = len * inf.size := by
              have : ∀ (place : Nat → Option (Nat × Nat)) (ps : List (Nat × Value)) (a r : Array Value), fillL place a ps = some r → r.size = a.size := by
                intro place ps
                induction ps with
                | nil => intro a r hr; simp only [fillL] at hr; injection hr with hr; rw [hr]
                | cons p ps ih =>
                  intro a r hr
                  obtain ⟨pi, pv⟩ := p
                  simp only [fillL] at hr
                  split at hr
                  · cases hr
                  · split at hr
                    · rw [ih _ _ hr, putL_size]
                    · cases hr
              rw [this _ _ _ _ hfill]
              simp [repL_length, hzs]
            refine ⟨r', ?_, h2, hsz⟩
            unfold Instr.buildSlice
            have hrep := rep_eq z.cells (by omega) len
            rw [hzs] at hrep
            by_cases h0 : len * inf.size = 0
            · have hl0 : len = 0 := by
                rcases Nat.mul_eq_zero.1 h0 with h | h
                · exact h
                · omega
              subst hl0
              have hr0 : (repL z.cells.toList 0).toArray = #[] := rfl
              rw [hr0] at h1
              simp [run_underlying hu, run_size hinf, show Array.range 0 = #[] from rfl, h1, newRow]
            · have hgt : ¬ (len * inf.size > 2 ^ 24) := by omega
              simp only [Sem.run_bind, run_underlying hu, Result.andThen_ok, run_size hinf, if_neg hgt, if_neg h0, Sem.run_pure, run_zero hinf hz, Sem.run_ite, hzs, hrep, h1, newRow, run_newObj]
              rfl
          · cases h
        · cases h
      · cases h
    · cases h
  · cases h

theorem tr_add {m : Mp} {a a' : Addr} (h : tr m a = some a') (n : Nat) : tr m ⟨a.block, a.off + n, none⟩ = some (a'.add n) := by
  unfold tr at *
  split at h
  · rename_i l hl
    split at h
    · rename_i hc
      simp only [Bool.and_eq_true] at hc
      injection h with h
      subst h
      simp only [hl]
      rw [add_plain]
      simp [Nat.add_assoc, hc.1]
    · cases h
  · cases h

theorem run_part {t : TypeId} {m : Mp} {cs cs' : Array Value} (hc : VRs m cs cs') {off : Nat} {v : Value} (h : partV P t cs off = some v) (w : World) :
    ∃ v', (part t cs' off).run P w = .ok v' w ∧ VR m v v' := by
  have agg : ∀ (i : TypeInfo), P.info? t = some i → (isAgg t).run P w = .ok true w → off + i.size ≤ cs.size → ∃ v', (part t cs' off).run P w = .ok v' w ∧ VR m (.agg (cut cs off i.size)) v' := by
    intro i hi hag hle
    refine ⟨.agg (cs'.extract off (off + i.size)), by simp [part, hag, run_size hi], .agg' ?_⟩
    rw [cut_eq]
    refine .of_list ?_
    simp only [Array.toList_extract, List.extract]
    exact (hc.list.drop _).take _
  unfold partV at h
  split at h
  · rename_i fs hu
    split at h
    · rename_i i hi
      split at h
      · injection h with h; subst h
        exact agg i hi (by simp [isAgg, run_underlying hu]) (by assumption)
      · cases h
    · cases h
  · rename_i n e hu
    split at h
    · rename_i i hi
      split at h
      · injection h with h; subst h
        exact agg i hi (by simp [isAgg, run_underlying hu]) (by assumption)
      · cases h
    · cases h
  · rename_i d h1 h2 hu
    obtain ⟨v', hg, hv⟩ := hc.get h
    refine ⟨v', ?_, hv⟩
    have hag : (isAgg t).run P w = .ok false w := by
      unfold isAgg
      cases d <;> first | (exact (h1 _ rfl).elim) | (exact (h2 _ _ rfl).elim) | simp [run_underlying hu]
    simp [part, hag, hg]
  · cases h

theorem run_field' {t : TypeId} {m : Mp} {x x' : Value} (hx : VR m x x') {f : Nat} {v : Value} (h : fieldV P t x f = some v) (w : World) :
    ∃ v', (Instr.field t x' f).run P w = .ok v' w ∧ VR m v v' := by
  unfold fieldV at h
  split at h
  · rename_i fs cs hu
    cases hx with
    | agg h1 h2 =>
      split at h
      · rename_i fd hf
        obtain ⟨v', hr, hv⟩ := run_part ⟨h1, h2⟩ h w
        exact ⟨v', by simp [Instr.field, run_underlying hu, hf, asAgg, hr], hv⟩
      · cases h
  · cases h

theorem run_fieldAt' {t : TypeId} {m : Mp} {x x' : Value} (hx : VR m x x') {f : Nat} {v : Value} (h : fieldAddrV P t x f = some v) (w : World) :
    ∃ v', (Instr.fieldAt t x' f).run P w = .ok v' w ∧ VR m v v' := by
  unfold fieldAddrV at h
  split at h
  · rename_i fs a hu
    cases hx with
    | @ptr _ a' ha =>
      split at h
      · rename_i fd hf
        split at h
        · rename_i inf hinf
          split at h
          · cases h
          · rename_i hne
            injection h with h; subst h
            exact ⟨.pointer (some (a'.add fd.offset)), by simp [Instr.fieldAt, run_underlying hu, hf, Instr.sureAddr, fieldPlace, run_size hinf, hne], .ptr (tr_add ha _)⟩
        · cases h
      · cases h
  · cases h

theorem run_indexAt' {t : TypeId} {m : Mp} {x x' i i' : Value} (hx : VR m x x') (hi : VR m i i') {v : Value} (h : indexAddrV P t x i = some v) (w : World) :
    ∃ v', (Instr.indexAt t x' i').run P w = .ok v' w ∧ VR m v v' := by
  unfold indexAddrV at h
  split at h
  · rename_i k j
    cases hi
    split at h
    · rename_i e a n c hu
      cases hx with
      | @slice _ a' _ _ c' ha hn hr =>
        split at h
        · rename_i inf hinf
          split at h
          · rename_i hc
            have hc := ltI_iff hc
            injection h with h; subst h
            exact ⟨.pointer (some (a'.add (j.toNat * inf.size))), by simp [Instr.indexAt, asIntOf, run_underlying hu, run_size hinf, hc.1, hc.2], .ptr (tr_add ha _)⟩
          · cases h
        · cases h
    · rename_i n e a hu
      cases hx with
      | @ptr _ a' ha =>
        split at h
        · rename_i inf hinf
          split at h
          · rename_i hc
            have hc := ltI_iff hc
            injection h with h; subst h
            exact ⟨.pointer (some (a'.add (j.toNat * inf.size))), by simp [Instr.indexAt, asIntOf, run_underlying hu, run_size hinf, hc.1, hc.2, Instr.sureAddr], .ptr (tr_add ha _)⟩
          · cases h
        · cases h
    · cases h
  · cases h

theorem run_index' {t : TypeId} {m : Mp} {x x' i i' : Value} (hx : VR m x x') (hi : VR m i i') {v : Value} (h : indexV P t x i = some v) (w : World) :
    ∃ v', (Instr.index t x' i').run P w = .ok v' w ∧ VR m v v' := by
  unfold indexV at h
  split at h
  · cases hx
    cases hi
    exact ⟨v, (pureV_sound h m).1 w, (pureV_sound h m).2⟩
  · rename_i cs k j
    cases hi
    cases hx with
    | agg h1 h2 =>
      split at h
      · rename_i n e hu
        split at h
        · rename_i inf hinf
          split at h
          · rename_i hc
            simp only [Bool.and_eq_true, decide_eq_true_eq] at hc
            obtain ⟨v', hr, hv⟩ := run_part ⟨h1, h2⟩ h w
            exact ⟨v', by simp [Instr.index, asIntOf, run_underlying hu, run_size hinf, hc.1, hc.2, hr], hv⟩
          · cases h
        · cases h
      · cases h
  · cases h

theorem run_len' {t ty : TypeId} {m : Mp} {x x' : Value} (hx : VR m x x') {v : Value} (h : lenV P t x = some v) (w : World) :
    (Builtin.len_ #[t] ty #[x']).run P w = .ok v w ∧ VR m v v := by
  unfold lenV at h
  split at h
  · rename_i s hu
    cases hx
    injection h with h; subst h
    exact ⟨by simp [Builtin.len_, run_underlying hu, goInt], .int _ _⟩
  · rename_i e a n c hu
    injection h with h; subst h
    refine ⟨?_, .int _ _⟩
    cases hx <;> simp [Builtin.len_, run_underlying hu, goInt]
  · rename_i n e hu
    injection h with h; subst h
    exact ⟨by simp [Builtin.len_, run_underlying hu, goInt], .int _ _⟩
  · cases h

end
end Go.Proofs.Ytclphdmaedpipaa
