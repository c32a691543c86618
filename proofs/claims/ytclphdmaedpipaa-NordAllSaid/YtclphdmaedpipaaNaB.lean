/- NordAll: what each of its functions of rows tells, in any memory. -/
import Derived.Test.YtclphdmaedpipaaNaA
namespace Go.Proofs.Ytclphdmaedpipaa
open Go
set_option linter.unusedVariables false
set_option linter.unusedSimpArgs false
set_option maxRecDepth 100000

/-! the document's rows: blocks, four a row -/
def dcF (q k e : Nat) (Y : Nat → Nat → Nat) (t : Nat) : Option ABlk :=
  bif Nat.beq (t % 4) 1 then rowW true k (Y (t / 4)) else bif Nat.beq (t % 4) 2 then some ⟨#[.slice (some ⟨e + (4 * (t / 4) + 1), 0, none⟩) k k], 30, 1, true⟩ else
  bif Nat.beq t (4 * q + 3) then some ⟨((List.range (q + 1)).map fun j => Value.slice (some ⟨e + (4 * j + 1), 0, none⟩) k k).toArray, 30, 1, true⟩ else none
def dcB (q k e : Nat) (Y : Nat → Nat → Nat) : List (Option ABlk) := (List.range (4 * (q + 1))).map (dcF q k e Y)
def dcV (e q : Nat) : Value := .slice (some ⟨e + (4 * q + 3), 0, none⟩) (q + 1) (q + 1)
def daF (q k : Nat) (X : Nat → Nat → Nat) (t s : Nat) : Option ABlk :=
  bif Nat.beq (s % 2) 0 then some ⟨#[fW (atL t (colX q X (s / 2)))], 28, 1, true⟩ else bif Nat.beq s (2 * k - 1) then rowW true k (fun i => atL t (colX q X i)) else none
def daB (q k : Nat) (X : Nat → Nat → Nat) (t : Nat) : List (Option ABlk) := (List.range (2 * k)).map (daF q k X t)
def daV (e k : Nat) : Value := .slice (some ⟨e + (2 * k - 1), 0, none⟩) k k
def DPredAt (q k : Nat) : Prop := ∀ X : Nat → Nat → Nat, callD 12 19 #[.slice (some ⟨q + 1, 0, none⟩) (q + 1) (q + 1)] (canH q k X) = some (dcV (q + 2) q, canH q k X ++ (dcB q k (q + 2) (predW q X)).toArray)
def DAtAt (q k : Nat) : Prop := ∀ (X : Nat → Nat → Nat) (t : Nat), callD 12 34 #[.slice (some ⟨q + 1, 0, none⟩) (q + 1) (q + 1), fW t] (canH q k X) = some (daV (q + 2) k, canH q k X ++ (daB q k X t).toArray)
noncomputable def askRd (f : FuncId) : Nat := if f == 49 then 1 else 2
noncomputable def scD (x : Nat) (z : Int) (y : Nat) : Obl := .run 49 #[fW x, .int .i64 z] #[] (fW y) #[]
noncomputable def rdO (k : Nat) (X Y : Nat → Nat → Nat) (s : Int) : Nat → Nat → List Obl
  | 0, _ => []
  | m + 1, j => ((List.range k).map fun i => scD (X j i) (jkW j s) (Y j i)) ++ rdO k X Y s m (j + 1)
def DRescAt (q k : Nat) : Prop := ∀ (X Y : Nat → Nat → Nat) (s : Int), askN askRd noC 12 33 #[.slice (some ⟨q + 1, 0, none⟩) (q + 1) (q + 1), .int .i64 s] (canH q k X) (rsA k Y (q + 1) 0) = some (dcV (q + 2) q, canH q k X ++ (dcB q k (q + 2) Y).toArray, rdO k X Y s (q + 1) 0)
def ldE (q k : Nat) (L D : Nat → Nat) : List (Option ABlk) := [rowW false (q + 1) L, rowW false k D]
def corY (X : Nat → Nat → Nat) (L D : Nat → Nat) (j i : Nat) : Nat := fop .add .f64 (X j i) (fop .mul .f64 (L j) (D i))
def ncG (q k l d e : Nat) (Y : Nat → Nat → Nat) : List (Option ABlk) :=
  some ⟨#[.slice (some ⟨l, 0, none⟩) (q + 1) (q + 1)], 30, 0, true⟩ :: some ⟨#[.slice (some ⟨d, 0, none⟩) k k], 30, 0, true⟩ :: outW true q k (e + 3) :: ((List.range (q + 1)).map fun j => rowW true k (Y j))
def corA (q k : Nat) : Array Value := #[.slice (some ⟨q + 1, 0, none⟩) (q + 1) (q + 1), .slice (some ⟨q + 2, 0, none⟩) (q + 1) (q + 1), .slice (some ⟨q + 2 + 1, 0, none⟩) k k]
def CorAt (q k : Nat) : Prop := ∀ (X : Nat → Nat → Nat) (L D : Nat → Nat), callD 12 22 (corA q k) (canH q k X ++ (ldE q k L D).toArray) = some (pV (q + 2 + 2 + 2) q, canH q k X ++ (ldE q k L D).toArray ++ (ncG q k (q + 2) (q + 2 + 1) (q + 2 + 2) (corY X L D)).toArray)
def DCorAt (q k : Nat) : Prop := ∀ (X : Nat → Nat → Nat) (L D : Nat → Nat), callD 12 32 (corA q k) (canH q k X ++ (ldE q k L D).toArray) = some (dcV (q + 2 + 2) q, canH q k X ++ (ldE q k L D).toArray ++ (dcB q k (q + 2 + 2) (corY X L D)).toArray)

/-! the same blocks elsewhere -/
theorem relB_new' (n N j : Nat) (σ : Nat → Nat) {a b : Nat} (ha : a = n + j) (hb : b = N + j) : relB n N σ a = b := by rw [ha, hb]; exact relB_new n N j σ
theorem rel_sl' (n N j off k c : Nat) (σ : Nat → Nat) {a b : Nat} (ha : a = n + j) (hb : b = N + j) : RelV (relB n N σ) (.slice (some ⟨a, off, none⟩) k c) (.slice (some ⟨b, off, none⟩) k c) := by
  rw [ha, hb]; exact rel_sl n N j off k c σ
/-- A block there and here. -/
def SameB (τ : Nat → Nat) (B B' : ABlk) : Prop := B.own = true ∧ B'.own = true ∧ B'.elem = B.elem ∧ B'.esz = B.esz ∧ B'.cells.size = B.cells.size ∧ ∀ (i : Nat) (u : Value), B'.cells[i]? = some u → ∃ u0, B.cells[i]? = some u0 ∧ RelV τ u0 u
theorem sameB_row {τ : Nat → Nat} {k : Nat} {X : Nat → Nat} {B : ABlk} (h : rowW true k X = some B) : SameB τ B B := by
  injection h with h
  subst h
  exact ⟨rfl, rfl, rfl, rfl, rfl, fun i u hu => ⟨u, hu, .clos (fW_cl hu)⟩⟩
theorem sameB_sls {τ : Nat → Nat} {n k : Nat} {T : TypeId} {z : Nat} {a b : Nat → Nat} (h : ∀ j, j < n → τ (a j) = b j) : SameB τ ⟨((List.range n).map fun j => Value.slice (some ⟨a j, 0, none⟩) k k).toArray, T, z, true⟩ ⟨((List.range n).map fun j => Value.slice (some ⟨b j, 0, none⟩) k k).toArray, T, z, true⟩ := by
  refine ⟨rfl, rfl, rfl, rfl, by simp, fun i u hu => ?_⟩
  have h3 : ((List.range n).map fun j => Value.slice (some ⟨b j, 0, none⟩) k k)[i]? = some u := by simpa using hu
  have hi : i < n := by
    have := (List.getElem?_eq_some_iff.1 h3).1
    simpa using this
  rw [List.getElem?_map, List.getElem?_range hi] at h3
  injection h3 with h3
  subst h3
  refine ⟨.slice (some ⟨a i, 0, none⟩) k k, ?_, ?_⟩
  · rw [List.getElem?_toArray, List.getElem?_map, List.getElem?_range hi]
    rfl
  · have g := RelV.slice (τ := τ) (a i) 0 k k
    rw [h i hi] at g
    exact g
theorem sameB_one {τ : Nat → Nat} {n : Nat} {T : TypeId} {z : Nat} {a b : Nat} (h : τ a = b) : SameB τ ⟨#[.slice (some ⟨a, 0, none⟩) n n], T, z, true⟩ ⟨#[.slice (some ⟨b, 0, none⟩) n n], T, z, true⟩ := by
  refine ⟨rfl, rfl, rfl, rfl, rfl, fun i u hu => ?_⟩
  match i, hu with
  | 0, hu =>
    have hu : Value.slice (some ⟨b, 0, none⟩) n n = u := Option.some.inj hu
    subst hu
    refine ⟨.slice (some ⟨a, 0, none⟩) n n, rfl, ?_⟩
    have g := RelV.slice (τ := τ) a 0 n n
    rw [h] at g
    exact g
  | i + 1, hu => cases hu
theorem dc_same {n0 N : Nat} {σ : Nat → Nat} {q k : Nat} {Y : Nat → Nat → Nat} (j : Nat) (B' : ABlk) (h : (dcB q k N Y)[j]? = some (some B')) : ∃ B, (dcB q k n0 Y)[j]? = some (some B) ∧ SameB (relB n0 N σ) B B' := by
  unfold dcB at h ⊢
  have hj : j < 4 * (q + 1) := by
    have := (List.getElem?_eq_some_iff.1 h).1
    simpa using this
  rw [List.getElem?_map, List.getElem?_range hj] at h
  rw [List.getElem?_map, List.getElem?_range hj]
  replace h := Option.some.inj h
  show ∃ B, some (dcF q k n0 Y j) = some (some B) ∧ _
  unfold dcF at h ⊢
  cases c1 : Nat.beq (j % 4) 1 with
  | true =>
    rw [c1] at h
    exact ⟨B', congrArg some h, sameB_row h⟩
  | false =>
    rw [c1] at h
    simp only [cond_false] at h ⊢
    cases c2 : Nat.beq (j % 4) 2 with
    | true =>
      rw [c2] at h
      simp only [cond_true] at h ⊢
      injection h with h
      subst h
      exact ⟨_, rfl, sameB_one (relB_new n0 N _ σ)⟩
    | false =>
      rw [c2] at h
      simp only [cond_false] at h ⊢
      cases c3 : Nat.beq j (4 * q + 3) with
      | true =>
        rw [c3] at h
        simp only [cond_true] at h ⊢
        injection h with h
        subst h
        exact ⟨_, rfl, sameB_sls fun i _ => relB_new n0 N _ σ⟩
      | false => rw [c3] at h; cases h
theorem da_same {τ : Nat → Nat} {q k : Nat} {X : Nat → Nat → Nat} {t : Nat} (j : Nat) (B' : ABlk) (h : (daB q k X t)[j]? = some (some B')) : ∃ B, (daB q k X t)[j]? = some (some B) ∧ SameB τ B B' := by
  refine ⟨B', h, ?_⟩
  unfold daB at h
  have hj : j < 2 * k := by
    have := (List.getElem?_eq_some_iff.1 h).1
    simpa using this
  rw [List.getElem?_map, List.getElem?_range hj] at h
  replace h := Option.some.inj h
  unfold daF at h
  cases c1 : Nat.beq (j % 2) 0 with
  | true =>
    rw [c1] at h
    simp only [cond_true] at h
    injection h with h
    subst h
    refine ⟨rfl, rfl, rfl, rfl, rfl, fun i u hu => ⟨u, hu, .clos ?_⟩⟩
    match i, hu with
    | 0, hu => exact (Option.some.inj hu) ▸ rfl
    | i + 1, hu => cases hu
  | false =>
    rw [c1] at h
    simp only [cond_false] at h
    cases c3 : Nat.beq j (2 * k - 1) with
    | true => rw [c3] at h; exact sameB_row h
    | false => rw [c3] at h; cases h
theorem nc_same {n0 N l d l' d' : Nat} {σ : Nat → Nat} {q k : Nat} {Y : Nat → Nat → Nat} (hl : relB n0 N σ l = l') (hd : relB n0 N σ d = d') (j : Nat) (B' : ABlk) (h : (ncG q k l' d' N Y)[j]? = some (some B')) : ∃ B, (ncG q k l d n0 Y)[j]? = some (some B) ∧ SameB (relB n0 N σ) B B' := by
  match j, h with
  | 0, h =>
    replace h := Option.some.inj (Option.some.inj h)
    subst h
    exact ⟨_, rfl, sameB_one hl⟩
  | 1, h =>
    replace h := Option.some.inj (Option.some.inj h)
    subst h
    exact ⟨_, rfl, sameB_one hd⟩
  | 2, h =>
    replace h := Option.some.inj (Option.some.inj h)
    subst h
    exact ⟨_, rfl, sameB_sls fun i _ => relB_new' n0 N (3 + i) σ (by omega) (by omega)⟩
  | j + 3, h =>
    have h5 : ((List.range (q + 1)).map fun j => rowW true k (Y j))[j]? = some (some B') := h
    refine ⟨B', h, ?_⟩
    obtain ⟨j', _, h6⟩ := List.mem_map.1 (List.mem_of_getElem? h5)
    exact sameB_row h6
theorem dcB_len (q k e : Nat) (Y : Nat → Nat → Nat) : (dcB q k e Y).length = 4 * (q + 1) := by simp [dcB]
theorem daB_len (q k : Nat) (X : Nat → Nat → Nat) (t : Nat) : (daB q k X t).length = 2 * k := by simp [daB]
theorem ncG_len (q k l d e : Nat) (Y : Nat → Nat → Nat) : (ncG q k l d e Y).length = q + 4 := by simp [ncG]
theorem plE_nil (H : AHeap) (p : Nat → Nat) : PlE H [] p := ⟨fun i h => absurd h (Nat.not_lt_zero i), fun i B h => by simp at h⟩

/-- A function of rows and closed values. -/
theorem leafC {f : FuncId} {q k o r : Nat} {X : Nat → Nat → Nat} {H : AHeap} {ex : List Value} {v0 v : Value} {bs0 bs : List (Option ABlk)} (hex : ∀ u ∈ ex, closN 4 u = true) (hin : InG H o r q k X)
    (hr : Runs Try.prog f (Value.slice (some ⟨q + 1, 0, none⟩) (q + 1) (q + 1) :: ex).toArray (canH q k X) v0 (canH q k X ++ bs0.toArray))
    (hv : RelV (relB (q + 2) H.size (sgG o r q)) v0 v) (hl : bs.length = bs0.length)
    (hb : ∀ (j : Nat) (B' : ABlk), bs[j]? = some (some B') → ∃ B, bs0[j]? = some (some B) ∧ SameB (relB (q + 2) H.size (sgG o r q)) B B') :
    Runs Try.prog f (Value.slice (some ⟨o, 0, none⟩) (q + 1) (q + 1) :: ex).toArray H v (H ++ bs.toArray) := leafG hex hin hr hv hl hb
theorem dpred_inG {q k o r : Nat} (hp : DPredAt q k) {X : Nat → Nat → Nat} {H : AHeap} (hin : InG H o r q k X) : Runs Try.prog 19 #[.slice (some ⟨o, 0, none⟩) (q + 1) (q + 1)] H (dcV H.size q) (H ++ (dcB q k H.size (predW q X)).toArray) :=
  leafC (ex := []) (fun u h => by cases h) hin (callD_runs (hp X)) (rel_sl (q + 2) H.size (4 * q + 3) 0 (q + 1) (q + 1) _) (by simp [dcB_len]) dc_same
theorem pred_inG {q k o r : Nat} (hp : PredAt q k) {X : Nat → Nat → Nat} {H : AHeap} (hin : InG H o r q k X) : Runs Try.prog 16 #[.slice (some ⟨o, 0, none⟩) (q + 1) (q + 1)] H (pV H.size q) (H ++ (pBs q k H.size X).toArray) := by
  refine leafC (ex := []) (fun u h => by cases h) hin (callD_runs (hp X)) (rel_sl (q + 2) H.size 0 0 (q + 1) (q + 1) _) (by simp [pBs]) fun j B' h => ?_
  match j, h with
  | 0, h =>
    replace h := Option.some.inj (Option.some.inj h)
    subst h
    exact ⟨_, rfl, sameB_sls fun i _ => relB_new' _ _ (1 + i) _ (by omega) (by omega)⟩
  | j + 1, h =>
    have h5 : ((List.range (q + 1)).map fun j => rowW true k (predW q X j))[j]? = some (some B') := h
    refine ⟨B', h, ?_⟩
    obtain ⟨j', _, h6⟩ := List.mem_map.1 (List.mem_of_getElem? h5)
    exact sameB_row h6
theorem dat_inG {q k o r : Nat} (hp : DAtAt q k) {X : Nat → Nat → Nat} {t : Nat} {H : AHeap} (hin : InG H o r q k X) : Runs Try.prog 34 #[.slice (some ⟨o, 0, none⟩) (q + 1) (q + 1), fW t] H (daV H.size k) (H ++ (daB q k X t).toArray) :=
  leafC (ex := [fW t]) (fun u h => by rw [List.mem_singleton] at h; subst h; rfl) hin (callD_runs (hp X t)) (rel_sl (q + 2) H.size (2 * k - 1) 0 k k _) rfl da_same
theorem rdO_ok {k : Nat} {X Y : Nat → Nat → Nat} {s : Int} (h : ∀ j i, (scD (X j i) (jkW j s) (Y j i)).ok Try.prog) : ∀ m j : Nat, okAll Try.prog (rdO k X Y s m j)
  | 0, _ => trivial
  | m + 1, j => by
    have ih := rdO_ok (k := k) h m (j + 1)
    unfold rdO
    generalize List.range k = l
    induction l with
    | nil => exact ih
    | cons i l ihl => exact ⟨h j i, ihl⟩
theorem dresc_inG {q k o r : Nat} (hp : DRescAt q k) {X Y : Nat → Nat → Nat} {s : Int} {H : AHeap} (hin : InG H o r q k X) (hs : ∀ j i, Runs Try.prog 49 #[fW (X j i), .int .i64 (jkW j s)] #[] (fW (Y j i)) #[]) :
    Runs Try.prog 33 #[.slice (some ⟨o, 0, none⟩) (q + 1) (q + 1), .int .i64 s] H (dcV H.size q) (H ++ (dcB q k H.size Y).toArray) :=
  leafC (ex := [.int .i64 s]) (fun u h => by rw [List.mem_singleton] at h; subst h; rfl) hin (askN_runs (hp X Y s) (rdO_ok (fun j i => hs j i) _ _)) (rel_sl (q + 2) H.size (4 * q + 3) 0 (q + 1) (q + 1) _) (by simp [dcB_len]) dc_same

/-! Correct: two more slices -/
structure InR (H : AHeap) (p k : Nat) (X : Nat → Nat) : Prop where
  row : ∃ B, H[p]? = some (some B) ∧ B.cells = ((List.range k).map fun i => fW (X i)).toArray
def pLD (l d j : Nat) : Nat := match j with
  | 0 => l
  | _ => d
theorem plE_ld {H : AHeap} {q k l d : Nat} {L D : Nat → Nat} (hl : InR H l (q + 1) L) (hd : InR H d k D) : PlE H (ldE q k L D) (pLD l d) := by
  refine ⟨fun i h => ?_, fun i B h => ?_⟩
  · match i, h with
    | 0, _ => exact ⟨_, rfl⟩
    | 1, _ => exact ⟨_, rfl⟩
    | i + 2, h => exact absurd h (by simp [ldE])
  · match i, h with
    | 0, h =>
      replace h := Option.some.inj (Option.some.inj h)
      subst h
      exact ⟨rfl, fun j u hu => fW_cl hu, hl.row⟩
    | 1, h =>
      replace h := Option.some.inj (Option.some.inj h)
      subst h
      exact ⟨rfl, fun j u hu => fW_cl hu, hd.row⟩
    | i + 2, h => cases h
theorem cor_ex {q k l d o r : Nat} : BackL (q + 2 + 2) (sgE o r q (pLD l d)) [.slice (some ⟨q + 2, 0, none⟩) (q + 1) (q + 1), .slice (some ⟨q + 2 + 1, 0, none⟩) k k] [.slice (some ⟨l, 0, none⟩) (q + 1) (q + 1), .slice (some ⟨d, 0, none⟩) k k] := by
  refine .cons ?_ (.cons ?_ .nil)
  · have g := BackV.slice (n := q + 2 + 2) (σ := sgE o r q (pLD l d)) (q + 2 + 0) 0 (q + 1) (q + 1) (by omega)
    rw [sgE_hi] at g
    exact g
  · have g := BackV.slice (n := q + 2 + 2) (σ := sgE o r q (pLD l d)) (q + 2 + 1) 0 k k (by omega)
    rw [sgE_hi] at g
    exact g
theorem relB_old {n N b : Nat} {σ : Nat → Nat} (h : b < n) : relB n N σ b = σ b := if_pos h
theorem cor_inG {q k o r l d : Nat} (hp : CorAt q k) {X : Nat → Nat → Nat} {L D : Nat → Nat} {H : AHeap} (hin : InG H o r q k X) (hl : InR H l (q + 1) L) (hd : InR H d k D) :
    Runs Try.prog 22 #[.slice (some ⟨o, 0, none⟩) (q + 1) (q + 1), .slice (some ⟨l, 0, none⟩) (q + 1) (q + 1), .slice (some ⟨d, 0, none⟩) k k] H (pV (H.size + 2) q) (H ++ (ncG q k l d H.size (corY X L D)).toArray) :=
  leafE (E := ldE q k L D) (p := pLD l d) hin (plE_ld hl hd) cor_ex (callD_runs (hp X L D)) (rel_sl (q + 2 + 2) H.size 2 0 (q + 1) (q + 1) _) (by simp [ncG_len])
    (nc_same ((relB_old (by show q + 2 < q + 2 + 2; omega)).trans (sgE_hi (j := 0))) ((relB_old (by show q + 2 + 1 < q + 2 + 2; omega)).trans (sgE_hi (j := 1))))
theorem dcor_inG {q k o r l d : Nat} (hp : DCorAt q k) {X : Nat → Nat → Nat} {L D : Nat → Nat} {H : AHeap} (hin : InG H o r q k X) (hl : InR H l (q + 1) L) (hd : InR H d k D) :
    Runs Try.prog 32 #[.slice (some ⟨o, 0, none⟩) (q + 1) (q + 1), .slice (some ⟨l, 0, none⟩) (q + 1) (q + 1), .slice (some ⟨d, 0, none⟩) k k] H (dcV H.size q) (H ++ (dcB q k H.size (corY X L D)).toArray) :=
  leafE (E := ldE q k L D) (p := pLD l d) hin (plE_ld hl hd) cor_ex (callD_runs (hp X L D)) (rel_sl (q + 2 + 2) H.size (4 * q + 3) 0 (q + 1) (q + 1) _) (by simp [dcB_len]) dc_same

end Go.Proofs.Ytclphdmaedpipaa
