/- The law NordAll returns true, whatever the numbers. -/
import Derived.Test.YtclphdmaedpipaaNaQ
import Derived.Test.YtclphdmaedpipaaTpKf
import Derived.Test.YtclphdmaedpipaaNaR1
import Derived.Test.YtclphdmaedpipaaNaR5
import Derived.Test.YtclphdmaedpipaaNaR5k
import Derived.Test.YtclphdmaedpipaaNordMakeQ1
import Derived.Test.YtclphdmaedpipaaNordMakeQ2
import Derived.Test.YtclphdmaedpipaaNordMakeQ3
import Derived.Test.YtclphdmaedpipaaNordMakeQ4
import Derived.Test.YtclphdmaedpipaaNordMakeQ5
namespace Go.Proofs.Ytclphdmaedpipaa
open Go
set_option linter.unusedVariables false
set_option linter.unusedSimpArgs false
set_option maxRecDepth 100000

theorem zrn_1_1 : ZRows 1 1 := fun e f => by kernel_rfl
theorem zrn_1_2 : ZRows 1 2 := fun e f => by kernel_rfl
theorem zrn_1_3 : ZRows 1 3 := fun e f => by kernel_rfl
theorem zrn_2_1 : ZRows 2 1 := fun e f => by kernel_rfl
theorem zrn_2_2 : ZRows 2 2 := fun e f => by kernel_rfl
theorem zrn_2_3 : ZRows 2 3 := fun e f => by kernel_rfl
theorem zrn_3_1 : ZRows 3 1 := fun e f => by kernel_rfl
theorem zrn_3_2 : ZRows 3 2 := fun e f => by kernel_rfl
theorem zrn_3_3 : ZRows 3 3 := fun e f => by kernel_rfl
theorem zrn_4_1 : ZRows 4 1 := fun e f => by kernel_rfl
theorem zrn_4_2 : ZRows 4 2 := fun e f => by kernel_rfl
theorem zrn_4_3 : ZRows 4 3 := fun e f => by kernel_rfl
theorem zrn_5_1 : ZRows 5 1 := fun e f => by kernel_rfl
theorem zrn_5_2 : ZRows 5 2 := fun e f => by kernel_rfl
theorem zrn_5_3 : ZRows 5 3 := fun e f => by kernel_rfl
def OfOK (q : Nat) : Prop := (ofB q).length = onB q ∧ (ofB q)[onB q - 1]? = some (rowW true (q + 1) (lA q))
theorem of_1 : OfOK 1 := ⟨by kernel_rfl, by kernel_rfl⟩
theorem of_2 : OfOK 2 := ⟨by kernel_rfl, by kernel_rfl⟩
theorem of_3 : OfOK 3 := ⟨by kernel_rfl, by kernel_rfl⟩
theorem of_4 : OfOK 4 := ⟨by kernel_rfl, by kernel_rfl⟩
theorem of_5 : OfOK 5 := ⟨by kernel_rfl, by kernel_rfl⟩
theorem nw_row (k : Nat) (f : Nat → Nat) : nwF ((List.range k).map f) = rowW true k f := by
  unfold nwF rowW
  congr 3
  generalize List.range k = l
  induction l with
  | nil => rfl
  | cons a l ih => exact congrArg (fW (f a) :: ·) ih
theorem fC_row (k : Nat) (f : Nat → Nat) : (((List.range k).map f).flatMap fC).toArray = ((List.range k).map fun i => fW (f i)).toArray := by
  congr 1
  generalize List.range k = l
  induction l with
  | nil => rfl
  | cons a l ih => exact congrArg (fW (f a) :: ·) ih
theorem tbO_ok {k : Nat} {X : Nat → Nat → Nat} : ∀ m j : Nat, okAll Try.prog (tbO k X X m j)
  | 0, _ => trivial
  | m + 1, j => by
    have ih := tbO_ok (k := k) (X := X) m (j + 1)
    unfold tbO
    generalize List.range k = l
    induction l with
    | nil => exact ih
    | cons i l ihl => exact ⟨same_refl _, ihl⟩
theorem eqU_ok (a : Int) : (eqU a).ok Try.prog := by
  have h : cmpV Try.prog .eql 3 (.int .i64 a) (.int .i64 a) = some (a == a) := by kernel_rfl
  exact h.trans (by simp)
theorem rn_of {f : FuncId} {args : Array Value} {o o2 : Option ABlk} {L : List (Option ABlk)} {v : Value} {bs : List (Option ABlk)} (h : (rnO f args (o :: o2 :: L) v bs).ok Try.prog) : (rnG f args #[o, o2] L v bs).ok Try.prog := h
theorem g2_size (o o2 : Option ABlk) (L : List (Option ABlk)) : (froze (G #[o, o2] L)).size = 2 + L.length := fg_size _ _
section
variable {o o2 : Option ABlk} {L : List (Option ABlk)} {q k p : Nat} {X : Nat → Nat → Nat}
theorem inz (h : InL L 2 (q + 1) 0 q k X) : InG (froze (G #[o, o2] L)) (q + 3) 2 q k X := h.g (by show q + 3 = 2 + (q + 1); omega) rfl
theorem g_pred (hP : PredAt q k) (h : InL L 2 (q + 1) 0 q k X) (hp : p = 2 + L.length) : (rnG 16 #[slZ (q + 3) q] #[o, o2] L (pV p q) (pBs q k p X)).ok Try.prog := by
  have := pred_inG hP (inz (o := o) (o2 := o2) h)
  rw [g2_size, ← hp] at this
  exact this
theorem g_dpred (hP : DPredAt q k) (h : InL L 2 (q + 1) 0 q k X) (hp : p = 2 + L.length) : (rnG 19 #[slZ (q + 3) q] #[o, o2] L (dcV p q) (dcB q k p (predW q X))).ok Try.prog := by
  have := dpred_inG hP (inz (o := o) (o2 := o2) h)
  rw [g2_size, ← hp] at this
  exact this
theorem g_at (hP : AtAt q k) {t : Nat} (h : InL L 2 (q + 1) 0 q k X) (hp : p = 2 + L.length) : (rnG 18 #[slZ (q + 3) q, fW t] #[o, o2] L (slV p k) (aBs q k X t)).ok Try.prog := by
  have := at_inG (t := t) hP (inz (o := o) (o2 := o2) h)
  rw [g2_size, ← hp] at this
  exact this
theorem g_dat (hP : DAtAt q k) {t : Nat} (h : InL L 2 (q + 1) 0 q k X) (hp : p = 2 + L.length) : (rnG 34 #[slZ (q + 3) q, fW t] #[o, o2] L (daV p k) (daB q k X t)).ok Try.prog := by
  have := dat_inG (t := t) hP (inz (o := o) (o2 := o2) h)
  rw [g2_size, ← hp] at this
  exact this
theorem g_resc (hP : RescAt q k) {Y : Nat → Nat → Nat} {s : Int} (h : InL L 2 (q + 1) 0 q k X) (hp : p = 2 + L.length) (hs : ∀ j i, Runs Try.prog 45 #[fW (X j i), .int .i64 (jkW j s)] #[] (fW (Y j i)) #[]) :
    (rnG 24 #[slZ (q + 3) q, .int .i64 s] #[o, o2] L (pV (p + 1) q) (rsB q k p Y s)).ok Try.prog := by
  have := resc_inG hP (inz (o := o) (o2 := o2) h) hs
  rw [g2_size, ← hp] at this
  exact this
theorem g_dresc (hP : DRescAt q k) {Y : Nat → Nat → Nat} {s : Int} (h : InL L 2 (q + 1) 0 q k X) (hp : p = 2 + L.length) (hs : ∀ j i, Runs Try.prog 49 #[fW (X j i), .int .i64 (jkW j s)] #[] (fW (Y j i)) #[]) :
    (rnG 33 #[slZ (q + 3) q, .int .i64 s] #[o, o2] L (dcV p q) (dcB q k p Y)).ok Try.prog := by
  have := dresc_inG hP (inz (o := o) (o2 := o2) h) hs
  rw [g2_size, ← hp] at this
  exact this
theorem inR_of {i a : Nat} {f : Nat → Nat} {n : Nat} (h : L[i]? = some (rowW true n f)) (ha : a = 2 + i) : InR (froze (G #[o, o2] L)) a n f := by
  subst ha
  obtain ⟨B', h1, h2⟩ := fg_get (H := #[o, o2]) h
  exact ⟨⟨B', h1, h2⟩⟩
theorem g_cor (hP : CorAt q k) {l d il id : Nat} {A D : Nat → Nat} (h : InL L 2 (q + 1) 0 q k X) (hp : p = 2 + L.length) (hl : L[il]? = some (rowW true (q + 1) A)) (el : l = 2 + il) (hd : L[id]? = some (rowW true k D)) (ed : d = 2 + id) :
    (rnG 22 #[slZ (q + 3) q, slV l (q + 1), slV d k] #[o, o2] L (pV (p + 2) q) (ncG q k l d p (corY X A D))).ok Try.prog := by
  have := cor_inG hP (inz (o := o) (o2 := o2) h) (inR_of hl el) (inR_of hd ed)
  rw [g2_size, ← hp] at this
  exact this
theorem g_dcor (hP : DCorAt q k) {l d il id : Nat} {A D : Nat → Nat} (h : InL L 2 (q + 1) 0 q k X) (hp : p = 2 + L.length) (hl : L[il]? = some (rowW true (q + 1) A)) (el : l = 2 + il) (hd : L[id]? = some (rowW true k D)) (ed : d = 2 + id) :
    (rnG 32 #[slZ (q + 3) q, slV l (q + 1), slV d k] #[o, o2] L (dcV p q) (dcB q k p (corY X A D))).ok Try.prog := by
  have := dcor_inG hP (inz (o := o) (o2 := o2) h) (inR_of hl el) (inR_of hd ed)
  rw [g2_size, ← hp] at this
  exact this
end
theorem get_r {α : Type} {A B : List α} {i : Nat} {x : α} (h : B[i]? = some x) {n : Nat} (hn : n = A.length + i) : (A ++ B)[n]? = some x := by
  subst hn
  rw [List.getElem?_append_right (by omega), Nat.add_sub_cancel_left, h]
theorem pBs_len (q k e : Nat) (X : Nat → Nat → Nat) : (pBs q k e X).length = q + 2 := by simp [pBs]
theorem grRf_len (N : Nat) (f : Nat → Nat) : (grRf N f).length = 2 * N := by
  unfold grRf
  have : ∀ l : List Nat, (l.flatMap fun i => ([some ⟨(fC (f i)).toArray, 28, 1, true⟩, if i + 1 = N then some ⟨((List.range N).flatMap fun i => fC (f i)).toArray, 28, 1, true⟩ else none] : List (Option ABlk))).length = 2 * l.length := by
    intro l
    induction l with
    | nil => rfl
    | cons a l ih => rw [List.flatMap_cons, List.length_append, ih, List.length_cons]; simp; omega
  rw [this, List.length_range]

structure ShOK (q k : Nat) : Prop where
  kept : Kept q k
  zr : ZRows q k
  p : PredAt q k
  dp : DPredAt q k
  c : CorAt q k
  dc : DCorAt q k
  r : RescAt q k
  dr : DRescAt q k
  a : AtAt q k
  da : DAtAt q k
  f : OfOK q
  run : NaRun q k

set_option maxHeartbeats 4000000 in
theorem na_at {q k : Nat} (h5 : q ≤ 5) (k1 : 1 ≤ k) (k3 : k ≤ 3) (S : ShOK q k) {zs ms : List Int} (hmk : MakeOK q k zs) {o o2 : Option ABlk} {va vb : Value} (ha : Handed #[o, o2] zs va) (hb : Handed #[o, o2] ms vb)
    (order n kk step : Int) (s : Nat) (dv : Bool) (ho : order % Int.ofNat (4 + 1) = Int.ofNat (q - 1)) (hn : n % Int.ofNat (2 + 1) = Int.ofNat (k - 1)) :
    Tells 12 (naArgs order n kk step s va vb dv) #[o, o2] (.bool true) := by
  obtain ⟨ra, la, ba, runA⟩ := make_keptA (by omega) S.kept hmk n hn
  have hza : ∀ e, zBs2 e q k ra = rowsX q k e (xT q k fun i => ra.getD i 0) := fun e => by
    have := S.zr e (fun i => ra.getD i 0)
    rw [tab_eq la] at this
    exact this
  have bf : ∀ i, 0 ≤ ra.getD i 0 ∧ ra.getD i 0 ≤ 200 := by
    intro i
    rw [List.getD_eq_getElem?_getD]
    cases hg : ra[i]? with
    | none => exact ⟨by decide, by decide⟩
    | some r => exact ba r (List.mem_of_getElem? hg)
  have w0 := Int.emod_nonneg step (b := 33) (by decide)
  have w1 := Int.emod_lt_of_pos step (b := 33) (by decide)
  obtain ⟨w, hw⟩ : ∃ w : Nat, step % 33 = Int.ofNat w := ⟨(step % 33).toNat, by simp; omega⟩
  have hw8 : w ≤ 32 := by rw [hw] at w1; simp at w1; omega
  obtain ⟨c1, c2, c3, c4⟩ := hw_all hw8
  have v0 := Int.emod_nonneg kk (b := 81) (by decide)
  have v1 := Int.emod_lt_of_pos kk (b := 81) (by decide)
  have hsN : IntKind.i64.wrap (kk % 81 - 40) = kk % 81 - 40 := wrap_id (by omega) (by omega)
  obtain ⟨Y, hY⟩ := scales_x7 (q := q) (k := k) h5 bf (s := IntKind.i64.wrap (kk % 81 - 40)) (by omega) (by omega)
  have hN : mkN n = k := by
    unfold mkN
    have e3 : Int.ofNat (2 + 1) = 3 := rfl
    rw [e3] at hn
    rw [hn]
    simp
    omega
  obtain ⟨fx, hfx⟩ : ∃ fx : Nat → Nat, fx = fun i => vw8 (Fz (vlI ms i)) := ⟨_, rfl⟩
  generalize hX : (xT q k fun i => ra.getD i 0) = X at hza hY
  let V : NaV := { X := X, Y := Y, fd := fx, fx := fx, fy := evF n zs dv ((List.range k).map fx), M := mkM n zs, co := (opsB (mkOps n zs dv) true).cells, cu := (intB (mkOut n (mkM n zs)) true).cells, u := Int.ofNat w, v := kk % 81, u2 := Int.ofNat w, h := Int.ofNat (2 ^ w), hf := 0, g := hW w }
  have h := S.run o o2 order n kk step s va vb dv V
  have hh := fun (c : List (Option ABlk)) {zs : List Int} {v : Value} (h : Handed [o, o2].toArray zs v) => h.list c
  have ho5 := within8 order 4 (by decide)
  rw [ho] at ho5
  have m1 : (mkO q k 2 n va #[o, o2] X).ok Try.prog := by
    have := runA (froze #[o, o2]) va (froze_all _) ha.froze
    rw [froze_size, hza] at this
    exact this
  have hwi : (wObl step 33 (Int.ofNat w)).ok Try.prog := by
    rw [← hw]
    exact within8 step 32 (by decide)
  obtain ⟨f1, f2⟩ := S.f
  have z0 : InL (lN0 q k V) 2 (q + 1) 0 q k (x7 X) := (inL_rows q k 2 (x7 X)).app
  have z3 : InL (lN3 q k V) 2 (q + 1) 0 q k (x7 X) := z0.app.app.app
  have z5 : InL (lN5 q k V) 2 (q + 1) 0 q k (x7 X) := z3.app.app
  have z7 : InL (lN7 q k V) 2 (q + 1) 0 q k (x7 X) := z5.app.app
  have z9 : InL (lN9 q k V) 2 (q + 1) 0 q k (x7 X) := z7.app.app
  have l0 : (lN0 q k V).length = 8 * q + 12 := by
    unfold lN0
    rw [List.length_append, rowsX_len, f1]
    unfold onB
    omega
  have l1 : (lN1 q k V).length = 8 * q + 13 := by unfold lN1; rw [List.length_append, l0]; rfl
  have l2 : (lN2 q k V).length = 8 * q + 16 := by unfold lN2; rw [List.length_append, l1]; rfl
  have l3 : (lN3 q k V).length = 8 * q + 17 := by unfold lN3; rw [List.length_append, l2]; rfl
  have l4 : 2 + (lN4 q k V).length = pN q + (q + 2) := by unfold lN4; rw [List.length_append, l3, pBs_len]; unfold pN; omega
  have l5 : 2 + (lN5 q k V).length = p5 q := by unfold lN5; rw [List.length_append, dcB_len]; unfold p5; omega
  have l6 : 2 + (lN6 q k V).length = p5 q + (q + 4) := by unfold lN6; rw [List.length_append, ncG_len]; omega
  have l7 : 2 + (lN7 q k V).length = p7 q := by unfold lN7; rw [List.length_append, dcB_len]; unfold p7; omega
  have l8 : 2 + (lN8 q k V).length = p7 q + (q + 3) := by unfold lN8; rw [List.length_append, rsB_len]; omega
  have l9 : 2 + (lN9 q k V).length = p9 q := by unfold lN9; rw [List.length_append, dcB_len]; unfold p9; omega
  have la' : 2 + (lNa q k s V).length = p9 q + 1 := by unfold lNa; rw [List.length_append, aBs_len]; omega
  have lb : 2 + (lNb q k s V).length = pB' q k := by unfold lNb; rw [List.length_append, daB_len]; unfold pB'; omega
  have lc : 2 + (lNc q k s V).length = pB' q k + 3 := by unfold lNc; rw [List.length_append, ← lb]; simp; omega
  have ld : 2 + (lNd q k s V).length = pB' q k + 9 + 2 * k := by unfold lNd; rw [List.length_append, List.length_append, List.length_append, grRf_len, ← lb]; simp; omega
  have gl : (lN3 q k V)[8 * q + 11]? = some (rowW true (q + 1) (lA q)) := by
    refine get_app (get_app (get_app (get_r f2 ?_)))
    rw [rowsX_len]
    unfold onB
    omega
  have gd : (lN3 q k V)[8 * q + 12]? = some (rowW true k fx) := get_app (get_app (get_r (i := 0) rfl (by rw [l0])))
  have go : (lN3 q k V)[8 * q + 13]? = some (opB V.co) := get_app (get_r (i := 0) rfl (by rw [l1]))
  have gu : (lN3 q k V)[8 * q + 14]? = some (iB V.cu) := get_app (get_r (i := 1) rfl (by rw [l1]))
  have gx : (lN3 q k V)[8 * q + 16]? = some (rowW true k fx) := get_r (i := 0) rfl (by rw [l2])
  have up : ∀ {i : Nat} {x : Option ABlk}, (lN3 q k V)[i]? = some x → (lNb q k s V)[i]? = some x := fun h => get_app (get_app (get_app (get_app (get_app (get_app (get_app (get_app h)))))))
  have ev : ∀ {T : List (Option ABlk)} {p : Nat}, 2 + (lNb q k s V ++ T).length = p → (rnO 47 #[tpV (mN q + 1) (mN q + 2) k V.M, slV (mN q + 4) k] (fz o :: fz o2 :: (lNb q k s V ++ T)) (slV p k) [fB k V.fy]).ok Try.prog ∧
      (rnO 30 #[tpV (mN q + 1) (mN q + 2) k V.M, slV (mN q + 4) k] (fz o :: fz o2 :: (lNb q k s V ++ T)) (slV p k) [fB k V.fy]).ok Try.prog := by
    intro T p hp
    have e := evF_rn (l := fz o :: fz o2 :: (lNb q k s V ++ T)) n zs dv (xs := (List.range k).map fx) (N := k) (M := mkM n zs) (bo := mN q + 1) (bu := mN q + 2) (bx := mN q + 4) (s := p) hN rfl (by simp) (t := 0) (z := 0)
      (B := ⟨((List.range k).map fun i => fW (fx i)).toArray, 28, 1, true⟩)
      (by show (lNb q k s V ++ T)[8 * q + 13]? = _; exact get_app (up go)) (by show (lNb q k s V ++ T)[8 * q + 14]? = _; exact get_app (up gu)) (by show (lNb q k s V ++ T)[8 * q + 16]? = _; exact get_app (up gx)) (fC_row k fx).symm (by rw [← hp]; simp; omega)
    rw [nw_row] at e
    exact e
  refine tells_of h (okAll_append ?_ ?_)
  · refine okAll_append (okAll_append (okAll_append (okAll_append (okAll_append (okAll_append (okAll_append ⟨nord_known, ho5, m1, ?_, ?_, ?_, hwi, c1, c2, g_pred S.p z3 ?_, g_dpred S.dp z3.app ?_, trivial⟩ (tbO_ok _ _)) ⟨g_cor S.c z5 ?_ (get_app (get_app gl)) ?_ (get_app (get_app gd)) ?_, g_dcor S.dc z5.app ?_ (get_app (get_app (get_app gl))) ?_ (get_app (get_app (get_app gd))) ?_, trivial⟩) (tbO_ok _ _))
      ⟨within8 kk 80 (by decide), g_resc S.r z7 ?_ fun j i => (hY j i).1, within8 kk 80 (by decide), g_dresc S.dr z7.app ?_ fun j i => (hY j i).2, trivial⟩) (tbO_ok _ _)) ⟨g_at S.a z9 ?_, g_dat S.da z9.app ?_, trivial⟩) (sames_all (fun i => same_refl _) _)
    · have := val_rn (l := o :: o2 :: lN0 q k V) k1 (by omega) (hh (lN0 q k V) hb) (s := mN q) (by unfold mN; simp [l0] <;> omega)
      rw [nw_row, ← hfx] at this
      exact this
    · exact make_rn (l := o :: o2 :: lN1 q k V) n dv (hh (lN1 q k V) ha) hN rfl (s := mN q + 1) (by unfold mN; simp [l1] <;> omega)
    · have := val_rn (l := o :: o2 :: lN2 q k V) k1 (by omega) (hh (lN2 q k V) hb) (s := mN q + 4) (by unfold mN; simp [l2] <;> omega)
      rw [nw_row, ← hfx] at this
      exact this
    all_goals first
      | (rw [l3]; unfold pN; omega)
      | exact l4.symm
      | exact l5.symm
      | exact l6.symm
      | exact l7.symm
      | exact l8.symm
      | exact l9.symm
      | exact la'.symm
      | (unfold mN; omega)
  · refine okAll_append (okAll_append (okAll_append (okAll_append ⟨c3, ?_, ?_, trivial⟩ (map_ok _ _ fun i hi => c4)) ⟨eqU_ok _, eqU_ok _, eqU_ok _, eqU_ok _, trivial⟩) (sames_all (fun i => same_refl _) _)) (sames_all (fun i => same_refl _) _)
    · exact (ev lc).1
    · exact (ev ld).2

theorem sh_1_1 : ShOK 1 1 := ⟨kept_1_1, zrn_1_1, pred_1_1, dpred_1_1, cor_1_1, dcor_1_1, resc_1_1, dresc_1_1, att_1_1, datt_1_1, of_1, na_1_1⟩
theorem sh_1_2 : ShOK 1 2 := ⟨kept_1_2, zrn_1_2, pred_1_2, dpred_1_2, cor_1_2, dcor_1_2, resc_1_2, dresc_1_2, att_1_2, datt_1_2, of_1, na_1_2⟩
theorem sh_1_3 : ShOK 1 3 := ⟨kept_1_3, zrn_1_3, pred_1_3, dpred_1_3, cor_1_3, dcor_1_3, resc_1_3, dresc_1_3, att_1_3, datt_1_3, of_1, na_1_3⟩
theorem sh_2_1 : ShOK 2 1 := ⟨kept_2_1, zrn_2_1, pred_2_1, dpred_2_1, cor_2_1, dcor_2_1, resc_2_1, dresc_2_1, att_2_1, datt_2_1, of_2, na_2_1⟩
theorem sh_2_2 : ShOK 2 2 := ⟨kept_2_2, zrn_2_2, pred_2_2, dpred_2_2, cor_2_2, dcor_2_2, resc_2_2, dresc_2_2, att_2_2, datt_2_2, of_2, na_2_2⟩
theorem sh_2_3 : ShOK 2 3 := ⟨kept_2_3, zrn_2_3, pred_2_3, dpred_2_3, cor_2_3, dcor_2_3, resc_2_3, dresc_2_3, att_2_3, datt_2_3, of_2, na_2_3⟩
theorem sh_3_1 : ShOK 3 1 := ⟨kept_3_1, zrn_3_1, pred_3_1, dpred_3_1, cor_3_1, dcor_3_1, resc_3_1, dresc_3_1, att_3_1, datt_3_1, of_3, na_3_1⟩
theorem sh_3_2 : ShOK 3 2 := ⟨kept_3_2, zrn_3_2, pred_3_2, dpred_3_2, cor_3_2, dcor_3_2, resc_3_2, dresc_3_2, att_3_2, datt_3_2, of_3, na_3_2⟩
theorem sh_3_3 : ShOK 3 3 := ⟨kept_3_3, zrn_3_3, pred_3_3, dpred_3_3, cor_3_3, dcor_3_3, resc_3_3, dresc_3_3, att_3_3, datt_3_3, of_3, na_3_3⟩
theorem sh_4_1 : ShOK 4 1 := ⟨kept_4_1, zrn_4_1, pred_4_1, dpred_4_1, cor_4_1, dcor_4_1, resc_4_1, dresc_4_1, att_4_1, datt_4_1, of_4, na_4_1⟩
theorem sh_4_2 : ShOK 4 2 := ⟨kept_4_2, zrn_4_2, pred_4_2, dpred_4_2, cor_4_2, dcor_4_2, resc_4_2, dresc_4_2, att_4_2, datt_4_2, of_4, na_4_2⟩
theorem sh_4_3 : ShOK 4 3 := ⟨kept_4_3, zrn_4_3, pred_4_3, dpred_4_3, cor_4_3, dcor_4_3, resc_4_3, dresc_4_3, att_4_3, datt_4_3, of_4, na_4_3⟩
theorem sh_5_1 : ShOK 5 1 := ⟨kept_5_1, zrn_5_1, pred_5_1, dpred_5_1, cor_5_1, dcor_5_1, resc_5_1, dresc_5_1, att_5_1, datt_5_1, of_5, na_5_1⟩
theorem sh_5_2 : ShOK 5 2 := ⟨kept_5_2, zrn_5_2, pred_5_2, dpred_5_2, cor_5_2, dcor_5_2, resc_5_2, dresc_5_2, att_5_2, datt_5_2, of_5, na_5_2⟩
theorem sh_5_3 : ShOK 5 3 := ⟨kept_5_3, zrn_5_3, pred_5_3, dpred_5_3, cor_5_3, dcor_5_3, resc_5_3, dresc_5_3, att_5_3, datt_5_3, of_5, na_5_3⟩
theorem nordAll_pad {o o2 : Option ABlk} {va vb : Value} {zs ms : List Int} (ha : Handed #[o, o2] zs va) (hb : Handed #[o, o2] ms vb) (order n kk : Int) (s : Nat) (step : Int) (dv : Bool) : Tells 12 #[.int .i64 order, .int .i64 n, va, .int .i64 kk, .float .f64 s, vb, .int .i64 step, .bool dv] #[o, o2] (.bool true) := by
  have h1 := Int.emod_nonneg order (b := 5) (by decide)
  have h2 := Int.emod_lt_of_pos order (b := 5) (by decide)
  have h3 := Int.emod_nonneg n (b := 3) (by decide)
  have h4 := Int.emod_lt_of_pos n (b := 3) (by decide)
  have e5 : Int.ofNat (4 + 1) = 5 := rfl
  have e3 : Int.ofNat (2 + 1) = 3 := rfl
  have ho : order % Int.ofNat (4 + 1) = Int.ofNat (1 - 1) ∨ order % Int.ofNat (4 + 1) = Int.ofNat (2 - 1) ∨ order % Int.ofNat (4 + 1) = Int.ofNat (3 - 1) ∨ order % Int.ofNat (4 + 1) = Int.ofNat (4 - 1) ∨ order % Int.ofNat (4 + 1) = Int.ofNat (5 - 1) := by
    rw [e5]; simp; omega
  have hn : n % Int.ofNat (2 + 1) = Int.ofNat (1 - 1) ∨ n % Int.ofNat (2 + 1) = Int.ofNat (2 - 1) ∨ n % Int.ofNat (2 + 1) = Int.ofNat (3 - 1) := by
    rw [e3]; simp; omega
  rcases ho with ho | ho | ho | ho | ho <;> rcases hn with hn | hn | hn
  · exact na_at (by decide) (by decide) (by decide) sh_1_1 (make_1_1 zs) ha hb order n kk step s dv ho hn
  · exact na_at (by decide) (by decide) (by decide) sh_1_2 (make_1_2 zs) ha hb order n kk step s dv ho hn
  · exact na_at (by decide) (by decide) (by decide) sh_1_3 (make_1_3 zs) ha hb order n kk step s dv ho hn
  · exact na_at (by decide) (by decide) (by decide) sh_2_1 (make_2_1 zs) ha hb order n kk step s dv ho hn
  · exact na_at (by decide) (by decide) (by decide) sh_2_2 (make_2_2 zs) ha hb order n kk step s dv ho hn
  · exact na_at (by decide) (by decide) (by decide) sh_2_3 (make_2_3 zs) ha hb order n kk step s dv ho hn
  · exact na_at (by decide) (by decide) (by decide) sh_3_1 (make_3_1 zs) ha hb order n kk step s dv ho hn
  · exact na_at (by decide) (by decide) (by decide) sh_3_2 (make_3_2 zs) ha hb order n kk step s dv ho hn
  · exact na_at (by decide) (by decide) (by decide) sh_3_3 (make_3_3 zs) ha hb order n kk step s dv ho hn
  · exact na_at (by decide) (by decide) (by decide) sh_4_1 (make_4_1 zs) ha hb order n kk step s dv ho hn
  · exact na_at (by decide) (by decide) (by decide) sh_4_2 (make_4_2 zs) ha hb order n kk step s dv ho hn
  · exact na_at (by decide) (by decide) (by decide) sh_4_3 (make_4_3 zs) ha hb order n kk step s dv ho hn
  · exact na_at (by decide) (by decide) (by decide) sh_5_1 (make_5_1 zs) ha hb order n kk step s dv ho hn
  · exact na_at (by decide) (by decide) (by decide) sh_5_2 (make_5_2 zs) ha hb order n kk step s dv ho hn
  · exact na_at (by decide) (by decide) (by decide) sh_5_3 (make_5_3 zs) ha hb order n kk step s dv ho hn

end Go.Proofs.Ytclphdmaedpipaa
