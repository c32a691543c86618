/- The interpreter's operations are the model's: reading, writing, laying parts, slices, appending. -/
import Derived.Test.YtclphdmaedpipaaAbsC
namespace Go.Proofs.Ytclphdmaedpipaa
open Go
set_option linter.unusedVariables false

theorem oneCell_of {m : Mp} {x y : Value} (h : VR m x y) (hx : x.oneCell' = true) : y.oneCell' = true := by
  cases h <;> first | rfl | cases hx

theorem VRs.get {m : Mp} {xs ys : Array Value} (h : VRs m xs ys) {i : Nat} {x : Value} (hx : xs[i]? = some x) : ∃ y, ys[i]? = some y ∧ VR m x y := by
  have hi := lt_of_get hx
  have hi' : i < ys.size := by rw [← h.1]; exact hi
  refine ⟨ys[i], Array.getElem?_eq_getElem hi', ?_⟩
  rw [Array.getElem?_eq_getElem hi] at hx
  injection hx with hx
  rw [← hx]; exact h.2 i hi hi'

theorem VRs.of_get {m : Mp} {xs ys : Array Value} (hs : xs.size = ys.size) (h : ∀ (i : Nat) (x : Value), xs[i]? = some x → ∃ y, ys[i]? = some y ∧ VR m x y) : VRs m xs ys := by
  refine ⟨hs, fun i hi hi' => ?_⟩
  obtain ⟨y, hy, hr⟩ := h i xs[i] (Array.getElem?_eq_getElem hi)
  rw [Array.getElem?_eq_getElem hi'] at hy
  injection hy with hy
  rw [hy]; exact hr

/-- Lists of values, one by one. -/
inductive VRl (m : Mp) : List Value → List Value → Prop
  | nil : VRl m [] []
  | cons {x y : Value} {xs ys : List Value} (h : VR m x y) (t : VRl m xs ys) : VRl m (x :: xs) (y :: ys)

theorem VRl.length {m : Mp} {xs ys : List Value} (h : VRl m xs ys) : xs.length = ys.length := by induction h <;> simp [*]
theorem VRl.mono {m m' : Mp} (he : Ext m m') {xs ys : List Value} (h : VRl m xs ys) : VRl m' xs ys := by
  induction h with
  | nil => exact .nil
  | cons h _ ih => exact .cons (h.mono he) ih
theorem VRl.append {m : Mp} {xs ys us vs : List Value} (h : VRl m xs ys) (h' : VRl m us vs) : VRl m (xs ++ us) (ys ++ vs) := by
  induction h with
  | nil => exact h'
  | cons h _ ih => exact .cons h ih
theorem VRl.drop {m : Mp} {xs ys : List Value} (h : VRl m xs ys) : ∀ n, VRl m (xs.drop n) (ys.drop n) := by
  induction h with
  | nil => intro n; simp; exact .nil
  | cons h t ih => intro n; cases n with
    | zero => exact .cons h t
    | succ n => exact ih n
theorem VRl.take {m : Mp} {xs ys : List Value} (h : VRl m xs ys) : ∀ n, VRl m (xs.take n) (ys.take n) := by
  induction h with
  | nil => intro n; simp; exact .nil
  | cons h t ih => intro n; cases n with
    | zero => exact .nil
    | succ n => exact .cons h (ih n)
theorem VRl.get {m : Mp} {xs ys : List Value} (h : VRl m xs ys) : ∀ {i : Nat} {x : Value}, xs[i]? = some x → ∃ y, ys[i]? = some y ∧ VR m x y := by
  induction h with
  | nil => intro i x hx; simp at hx
  | cons h t ih => intro i x hx; cases i with
    | zero => simp at hx; subst hx; exact ⟨_, rfl, h⟩
    | succ i => simpa using ih (by simpa using hx)
theorem VRl.set {m : Mp} {xs ys : List Value} (h : VRl m xs ys) {x y : Value} (hx : VR m x y) : ∀ n, VRl m (xs.set n x) (ys.set n y) := by
  induction h with
  | nil => intro n; simp; exact .nil
  | cons h t ih => intro n; cases n with
    | zero => exact .cons hx t
    | succ n => exact .cons h (ih n)
theorem VRl.of_forall {m : Mp} : ∀ {xs ys : List Value}, xs.length = ys.length → (∀ (i : Nat) (x y : Value), xs[i]? = some x → ys[i]? = some y → VR m x y) → VRl m xs ys
  | [], [], _, _ => .nil
  | [], _ :: _, h, _ => by simp at h
  | _ :: _, [], h, _ => by simp at h
  | x :: xs, y :: ys, h, hf => .cons (hf 0 x y rfl rfl) (VRl.of_forall (by simpa using h) fun i a b ha hb => hf (i + 1) a b (by simpa using ha) (by simpa using hb))
theorem VRl.monoL {m m' : Mp} (he : ExtL m m') {xs ys : List Value} (h : VRl m xs ys) : VRl m' xs ys := by
  induction h with
  | nil => exact .nil
  | cons h _ ih => exact .cons (h.monoL he) ih

theorem VRs.list {m : Mp} {xs ys : Array Value} (h : VRs m xs ys) : VRl m xs.toList ys.toList :=
  VRl.of_forall (by simpa using h.1) fun i x y hx hy => by
    obtain ⟨y', h1, h2⟩ := h.get (i := i) (x := x) (by simpa using hx)
    have : ys[i]? = some y := by simpa using hy
    rw [this] at h1; injection h1 with h1; rw [h1]; exact h2
theorem VRl.arr {m : Mp} {xs ys : List Value} (h : VRl m xs ys) : VRs m xs.toArray ys.toArray :=
  VRs.of_get (by simpa using h.length) fun i x hx => by simpa using h.get (i := i) (x := x) (by simpa using hx)
theorem VRs.of_list {m : Mp} {xs ys : Array Value} (h : VRl m xs.toList ys.toList) : VRs m xs ys := by simpa using h.arr

theorem VR.agg' {m : Mp} {xs ys : Array Value} (h : VRs m xs ys) : VR m (.agg xs) (.agg ys) := .agg h.1 h.2
theorem VR.tuple' {m : Mp} {xs ys : Array Value} (h : VRs m xs ys) : VR m (.tuple xs) (.tuple ys) := .tuple h.1 h.2
theorem VR.func' {m : Mp} (fn : Fn) {xs ys us vs : Array Value} (h : VRs m xs ys) (h' : VRs m us vs) : VR m (.func fn xs us) (.func fn ys vs) := .func fn h.1 h.2 h'.1 h'.2

theorem VRl.clos (m : Mp) : ∀ (xs : List Value), xs.all (closN 4) = true → VRl m xs xs
  | [], _ => .nil
  | x :: xs, h => by
    simp only [List.all_cons, Bool.and_eq_true] at h
    exact .cons (.of_clos m 4 x h.1) (VRl.clos m xs h.2)

section
variable {P : Program}

theorem run_info {t : TypeId} {i : TypeInfo} (h : P.info? t = some i) (w : World) : (typeInfo t).run P w = .ok i w := by simp [typeInfo, h]
theorem run_size {t : TypeId} {i : TypeInfo} (h : P.info? t = some i) (w : World) : (sizeOf t).run P w = .ok i.size w := by simp [sizeOf, run_info h]
theorem run_zero {t : TypeId} {i : TypeInfo} {z : Value} (h : P.info? t = some i) (hz : i.zero = some z) (w : World) : (zeroValue t).run P w = .ok z w := by simp [zeroValue, run_info h, hz]

theorem cut_eq (cs : Array Value) (off n : Nat) : cut cs off n = cs.extract off (off + n) := by
  apply Array.ext'
  simp only [cut, Array.toList_extract, List.extract]
  congr 1; omega

theorem run_loadVar {t : TypeId} {H : AHeap} {m : Mp} {w : World} (hr : HR H m w) {a a' : Addr} (ha : tr m a = some a') {v : Value} (h : readVar P H t a = some v) :
    ∃ v', (loadVar t a').run P w = .ok v' w ∧ VR m v v' := by
  unfold readVar at h
  split at h
  · rename_i B hb
    have agg : ∀ (i : TypeInfo), P.info? t = some i → (isAgg t).run P w = .ok true w → a.off + i.size ≤ B.cells.size → ∃ v', (loadVar t a').run P w = .ok v' w ∧ VR m (.agg (cut B.cells a.off i.size)) v' := by
      intro i hi hag hle
      obtain ⟨cs, hsz, hv, hc⟩ := hr.load ha hb i.size hle
      have hl := run_loadCells_list (P := P) w a' cs.toList hc
      simp only [Array.length_toList, hsz, Array.toArray_toList] at hl
      refine ⟨.agg cs, ?_, by rw [cut_eq]; exact .agg' hv⟩
      unfold loadVar
      simp [hag, run_size hi, hl]
    split at h
    · rename_i fs hu
      split at h
      · rename_i i hi
        split at h
        · rename_i hle
          injection h with h; subst h
          exact agg i hi (by simp [isAgg, run_underlying hu]) hle
        · cases h
      · cases h
    · rename_i n e hu
      split at h
      · rename_i i hi
        split at h
        · rename_i hle
          injection h with h; subst h
          exact agg i hi (by simp [isAgg, run_underlying hu]) hle
        · cases h
      · cases h
    · rename_i d h1 h2 hu
      obtain ⟨v', hc, hv⟩ := hr.load1 ha hb h
      refine ⟨v', ?_, hv⟩
      have hag : (isAgg t).run P w = .ok false w := by
        unfold isAgg
        cases d <;> first | (exact (h1 _ rfl).elim) | (exact (h2 _ _ rfl).elim) | simp [run_underlying hu]
      unfold loadVar
      simp [hag, hc]
    · cases h
  · cases h

theorem putL_size : ∀ (vs : List Value) (cs : Array Value) (off : Nat), (putL cs off vs).size = cs.size
  | [], _, _ => rfl
  | v :: vs, cs, off => by simp [putL, putL_size vs]

theorem putL_get : ∀ (vs : List Value) (cs : Array Value) (off i : Nat), off + vs.length ≤ cs.size →
    (putL cs off vs)[i]? = if off ≤ i ∧ i < off + vs.length then vs[i - off]? else cs[i]?
  | [], cs, off, i, h => by
    have : ¬ (off ≤ i ∧ i < off + ([] : List Value).length) := by simp only [List.length_nil]; omega
    rw [if_neg this]; rfl
  | v :: vs, cs, off, i, h => by
    simp only [List.length_cons] at h
    rw [putL, putL_get vs _ (off + 1) i (by simp; omega)]
    by_cases h1 : i = off
    · subst h1
      rw [if_neg (by omega), if_pos (by simp)]
      rw [Array.getElem?_setIfInBounds_self_of_lt (by omega)]
      simp
    · by_cases h2 : off ≤ i ∧ i < off + (v :: vs).length
      · have h3 : off + 1 ≤ i ∧ i < off + 1 + vs.length := by simp only [List.length_cons] at h2; omega
        rw [if_pos h2, if_pos h3]
        have : i - off = (i - (off + 1)) + 1 := by omega
        rw [this]; simp
      · rw [if_neg h2, if_neg (by simp only [List.length_cons] at h2; omega)]
        rw [Array.getElem?_setIfInBounds_ne (by omega)]

theorem putL_rel {m : Mp} {vs vs' : List Value} (h : VRl m vs vs') : ∀ {cs cs' : Array Value} (off : Nat), VRs m cs cs' → VRs m (putL cs off vs) (putL cs' off vs') := by
  induction h with
  | nil => intro cs cs' off hc; exact hc
  | cons h t ih =>
    intro cs cs' off hc
    refine ih (off + 1) (.of_list ?_)
    simp only [Array.toList_setIfInBounds]
    exact hc.list.set h off

theorem run_storeVar' {t : TypeId} {H H' : AHeap} {m : Mp} {w : World} (hr : HR H m w) {a a' : Addr} (ha : tr m a = some a') {v v' : Value} (hv : VR m v v') (h : writeVar P H t a v = some H') :
    ∃ w', (storeVar t a' v').run P w = .ok () w' ∧ HR H' m w' ∧ Step H m w H' m w' := by
  unfold writeVar at h
  split at h
  · rename_i B i hb hi
    split at h
    · rename_i hc
      simp only [Bool.and_eq_true, beq_iff_eq, decide_eq_true_eq] at hc
      obtain ⟨⟨⟨hown, hsz⟩, hle⟩, hone⟩ := hc
      injection h with h; subst h
      obtain ⟨l, cs, fr, hl, r, rfl⟩ := hr.at_ ha hb
      obtain ⟨hfr, hbase, helem, _⟩ := r.mine hown
      subst hfr
      have hvs := hv.cells
      have hvl := hvs.list
      have hlen : v'.cells.toList.length = i.size := by rw [← hvl.length]; simpa using hsz
      have hfit := r.fits
      have hone' : ∀ x ∈ v'.cells.toList, x.oneCell' = true := by
        intro x hx
        obtain ⟨j, hj, rfl⟩ := List.getElem_of_mem hx
        have hj' : j < v.cells.toList.length := by rw [hvl.length]; exact hj
        obtain ⟨y, hy1, hy2⟩ := hvl.get (i := j) (x := v.cells.toList[j]) (List.getElem?_eq_getElem hj')
        rw [List.getElem?_eq_getElem hj] at hy1
        injection hy1 with hy1
        rw [hy1]
        refine oneCell_of hy2 ?_
        exact (List.all_eq_true.1 hone) _ (List.getElem_mem hj')
      have hst := run_storeCells_at P l.blk (l.base + a.off) l.elem v'.cells.toList 0 cs w r.real (by rw [hlen]; omega) hone'
      simp only [Nat.add_zero] at hst
      generalize hcs' : (cs.toList.take (l.base + a.off) ++ v'.cells.toList ++ cs.toList.drop (l.base + a.off + v'.cells.toList.length)).toArray = cs' at hst
      have hlen' : v'.cells.size = i.size := by simpa using hlen
      have hcsz : cs'.size = cs.size := by
        rw [← hcs']
        simp only [List.size_toArray, List.length_append, List.length_take, List.length_drop, Array.length_toList]
        omega
      have hst2 := hr.store hb hown hl r (putL B.cells a.off v.cells.toList) cs' hcsz (by rw [putL_size]; omega) (by
        intro k x hx
        rw [putL_get _ _ _ _ (by simp; omega)] at hx
        have hb0 : l.base = 0 := hbase
        have hget : cs'[k]? = if a.off ≤ k ∧ k < a.off + v'.cells.size then v'.cells[k - a.off]? else cs[k]? := by
          rw [← hcs', hb0]
          simp only [Nat.zero_add, List.getElem?_toArray, Array.length_toList]
          by_cases hk : k < a.off
          · rw [if_neg (by omega), List.append_assoc, List.getElem?_append_left (by simp; omega), List.getElem?_take_of_lt hk]
            simp
          · have hk1 : (List.take a.off cs.toList).length = a.off := by simp; omega
            rw [List.append_assoc, List.getElem?_append_right (by omega), hk1]
            by_cases hk2 : k < a.off + v'.cells.size
            · rw [if_pos ⟨by omega, hk2⟩, List.getElem?_append_left (by simp; omega)]
              simp
            · rw [if_neg (by omega), List.getElem?_append_right (by simp; omega), List.getElem?_drop]
              simp only [Array.length_toList, Array.getElem?_toList]
              congr 1; omega
        rw [hget]
        simp only [Array.length_toList] at hx
        have hss : v.cells.size = v'.cells.size := hvs.1
        by_cases hk : a.off ≤ k ∧ k < a.off + v.cells.size
        · rw [if_pos hk] at hx
          rw [if_pos (by omega)]
          exact hvs.get (by simpa using hx)
        · rw [if_neg hk] at hx
          rw [if_neg (by omega)]
          have := r.vals k x hx
          simpa [hb0] using this)
      refine ⟨w.setRow l.blk cs', ?_, hst2.1, hst2.2⟩
      unfold storeVar
      simp [run_size hi, hlen', hst]
    · cases h
  · cases h

/-! ### parts laid over cells -/

theorem fold_put : ∀ (l : List Value) (k : Nat) (cs : Array Value) (off : Nat), (l.zipIdx k).foldl (fun cs (p : Value × Nat) => cs.setIfInBounds (off + p.2) p.1) cs = putL cs (off + k) l
  | [], _, _, _ => rfl
  | v :: l, k, cs, off => by
    simp only [List.zipIdx_cons, List.foldl_cons, putL]
    rw [fold_put l (k + 1) _ off]
    congr 1

theorem fill_rel {m : Mp} (place place' : Nat → Option (Nat × Nat)) (hp : ∀ i x, place i = some x → place' i = some x) :
    ∀ (parts parts' : List (Nat × Value)) (cs cs' r : Array Value), parts.map (·.1) = parts'.map (·.1) → VRl m (parts.map (·.2)) (parts'.map (·.2)) → VRs m cs cs' → fillL place cs parts = some r →
      ∃ r', Instr.fill place' cs' parts' = some r' ∧ VRs m r r'
  | [], [], cs, cs', r, _, _, hc, h => by simp only [fillL] at h; injection h with h; subst h; exact ⟨cs', rfl, hc⟩
  | [], _ :: _, _, _, _, h, _, _, _ => by simp at h
  | _ :: _, [], _, _, _, h, _, _, _ => by simp at h
  | (i, v) :: parts, (i', v') :: parts', cs, cs', r, hi, hv, hc, h => by
    simp only [List.map_cons, List.cons.injEq] at hi
    obtain ⟨rfl, hi⟩ := hi
    cases hv with
    | cons hv hvs =>
      simp only [fillL] at h
      split at h
      · cases h
      · rename_i off size hpl
        split at h
        · rename_i hcond
          simp only [Bool.and_eq_true, beq_iff_eq, decide_eq_true_eq] at hcond
          have hsz : v'.cells.size = size := by rw [← hv.cells_size]; exact hcond.1
          have hcs : off + size ≤ cs'.size := by rw [← hc.1]; exact hcond.2
          obtain ⟨r', hr1, hr2⟩ := fill_rel place place' hp parts parts' _ _ r hi hvs (putL_rel hv.cells.list off hc) h
          refine ⟨r', ?_, hr2⟩
          simp only [Instr.fill, hp i _ hpl]
          rw [if_neg (by simp [hsz]; omega)]
          rw [← Array.foldl_toList, Array.toList_zipIdx, fold_put]
          simpa using hr1
        · cases h

theorem repL_length (z : List Value) : ∀ n, (repL z n).length = n * z.length
  | 0 => by simp [repL]
  | n + 1 => by simp [repL, repL_length z n, Nat.succ_mul, Nat.add_comm]
theorem repL_get (z : List Value) (hz : 0 < z.length) : ∀ (n i : Nat), i < n * z.length → (repL z n)[i]? = z[i % z.length]?
  | 0, i, h => by simp at h
  | n + 1, i, h => by
    simp only [repL]
    by_cases hi : i < z.length
    · rw [List.getElem?_append_left hi, Nat.mod_eq_of_lt hi]
    · rw [List.getElem?_append_right (by omega), repL_get z hz n (i - z.length) (by rw [Nat.succ_mul] at h; omega)]
      congr 1
      rw [Nat.mod_eq_sub_mod (by omega : i ≥ z.length)]
theorem rep_eq (z : Array Value) (hz : 0 < z.size) (n : Nat) : (Array.range (n * z.size)).map (z[· % z.size]!) = (repL z.toList n).toArray := by
  apply Array.ext
  · simp [repL_length]
  · intro i h1 h2
    simp only [Array.size_map, Array.size_range] at h1
    have hm : i % z.size < z.size := Nat.mod_lt _ hz
    have hg := repL_get z.toList (by simpa using hz) n i (by simpa using h1)
    simp only [Array.length_toList, Array.getElem?_toList] at hg
    rw [Array.getElem?_eq_getElem hm] at hg
    have h2' : i < (repL z.toList n).length := by simpa using h2
    rw [List.getElem?_eq_getElem h2'] at hg
    injection hg with hg
    simp [hg, hm]

theorem closN_cells {m : Mp} {z : Value} (h : closN 4 z = true) : VRs m z.cells z.cells := (VR.of_clos m 4 z h).cells

theorem run_places (fs : List Field) (w : World) (h : fs.all (fun f => (P.info? f.type).isSome) = true) :
    (fs.mapM (fun f => do pure (f.offset, ← sizeOf f.type) : Field → Sem (Nat × Nat))).run P w = .ok (fs.map fun f => (f.offset, ((P.info? f.type).map (·.size)).getD 0)) w := by
  induction fs with
  | nil => simp
  | cons f fs ih =>
    simp only [List.all_cons, Bool.and_eq_true] at h
    obtain ⟨i, hi⟩ := Option.isSome_iff_exists.1 h.1
    simp only [List.mapM_cons, Sem.run_bind, run_size hi, Result.andThen_ok, ih h.2, Sem.run_pure]
    simp [hi]

theorem run_build' {t : TypeId} {m : Mp} (parts parts' : List (Nat × Value)) (hi : parts.map (·.1) = parts'.map (·.1)) (hv : VRl m (parts.map (·.2)) (parts'.map (·.2))) {v : Value} (h : buildV P t parts = some v) (w : World) :
    ∃ v', (Instr.build t parts'.toArray).run P w = .ok v' w ∧ VR m v v' := by
  unfold buildV at h
  split at h
  · rename_i i hinf
    split at h
    · rename_i z hz
      split at h
      · rename_i hcl
        split at h
        · rename_i fs hu
          split at h
          · rename_i hall
            simp only [Option.map_eq_some_iff] at h
            obtain ⟨r, hr, rfl⟩ := h
            have hplaces := run_places (P := P) fs.toList w hall
            obtain ⟨r', h1, h2⟩ := fill_rel (m := m) (fieldPlaceL P fs) (fun k => (fs.map fun f => (f.offset, ((P.info? f.type).map (·.size)).getD 0))[k]?) (by
              intro k x hx
              unfold fieldPlaceL at hx
              split at hx
              · rename_i f hf
                split at hx
                · rename_i inf hinf'
                  simp [hf, hinf', hx] at hx ⊢
                · cases hx
              · cases hx) parts parts' _ _ r hi hv (closN_cells hcl) hr
            refine ⟨.agg r', ?_, .agg' h2⟩
            unfold Instr.build
            have hm : (fs.mapM (fun f => do pure (f.offset, ← sizeOf f.type) : Field → Sem (Nat × Nat))).run P w = .ok (fs.map fun f => (f.offset, ((P.info? f.type).map (·.size)).getD 0)) w := by
              rw [Array.mapM_eq_mapM_toList]
              simp only [Sem.run_map, hplaces, Result.andThen_ok]
              congr 1
              apply Array.ext'
              simp
            simp only [Sem.run_bind, run_zero hinf hz, Result.andThen_ok, run_underlying hu, hm]
            rw [h1]
            rfl
          · cases h
        · rename_i n e hu
          split at h
          · rename_i inf hinf'
            simp only [Option.map_eq_some_iff] at h
            obtain ⟨r, hr, rfl⟩ := h
            obtain ⟨r', h1, h2⟩ := fill_rel (m := m) _ (fun j => some (j * inf.size, inf.size)) (fun _ _ h => h) parts parts' _ _ r hi hv (closN_cells hcl) hr
            refine ⟨.agg r', ?_, .agg' h2⟩
            unfold Instr.build
            simp only [Sem.run_bind, run_zero hinf hz, Result.andThen_ok, run_underlying hu, run_size hinf']
            rw [h1]
            rfl
          · cases h
        · cases h
      · cases h
    · cases h
  · cases h

end
end Go.Proofs.Ytclphdmaedpipaa
