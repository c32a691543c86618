/- How fast two solutions part: what jac.Norm tells of one to four rows of from-tos. -/
import Derived.Test.YtdlinjijccnaeaaIvW
import Derived.Test.YtdlinjijccnaeaaSlices
import Derived.Test.YtdlinjijccnaeaaDyad
namespace Go.Proofs.Ytdlinjijccnaeaa
open Go
set_option linter.unusedVariables false
set_option linter.unusedSimpArgs false
set_option maxRecDepth 100000

theorem askN_ex {ask : FuncId → Nat} {askC : BinOp → Value → Value → Bool} {d : Nat} {f : FuncId} {args : Array Value} {H : AHeap} {s : List Ans} {v : Value} {l : List Obl}
    (h : (askN ask askC d f args H s).map (fun r => (r.1, r.2.1.toList.take H.size, r.2.2)) = some (v, H.toList, l)) (hl : okAll Try.prog l) : ∃ bs, Runs Try.prog f args H v (H ++ bs) := by
  simp only [Option.map_eq_some_iff] at h
  obtain ⟨⟨v1, H1, l1⟩, h1, h2⟩ := h
  simp only [Prod.mk.injEq] at h2
  obtain ⟨rfl, h3, rfl⟩ := h2
  refine ⟨(H1.toList.drop H.size).toArray, ?_⟩
  have e : H ++ (H1.toList.drop H.size).toArray = H1 := by
    apply Array.toList_inj.1
    rw [Array.toList_append]
    conv => lhs; lhs; rw [← h3]
    exact List.take_append_drop _ _
  rw [e]
  exact askN_runs h1 hl

def fW (x : Nat) : Value := .float .f64 x
noncomputable def askNm (f : FuncId) : Nat := if f == 35 || f == 34 then 1 else if f == 33 then 4 else 2
def rA (e u : Nat → Nat) (i : Nat) : Nat → Nat → List Ans
  | 0, _ => []
  | m + 1, k => bif Nat.beq k i then rA e u i m (k + 1) else isG (e k) :: isG (u k) :: rA e u i m (k + 1)
noncomputable def rO (M : Nat → P2) (e u : Nat → Nat) (i : Nat) : Nat → Nat → Nat → List Obl
  | 0, _, _ => []
  | m + 1, k, s => bif Nat.beq k i then rO M e u i m (k + 1) s else .run 35 #[vI (M k)] #[] (.float .f64 (e k)) #[] :: .run 34 #[.float .f64 (fop .add .f64 s (e k))] #[] (.float .f64 (u k)) #[] :: rO M e u i m (k + 1) (u k)
def rS (u : Nat → Nat) (i : Nat) : Nat → Nat → Nat → Nat
  | 0, _, s => s
  | m + 1, k, s => bif Nat.beq k i then rS u i m (k + 1) s else rS u i m (k + 1) (u k)
/-- Row i, of n. -/
def rowW (n : Nat) (M : Nat → Nat → P2) (u : Nat → Nat → Nat) (i : Nat) : Nat := rS (u i) i n 0 (M i i).2
def nA (n : Nat) (e u : Nat → Nat → Nat) (t : Nat → Bool) : Nat → Nat → List Ans
  | 0, _ => []
  | m + 1, i => rA (e i) (u i) i n 0 ++ (yes false :: ((bif Nat.beq i 0 then [] else [yes (t i)]) ++ nA n e u t m (i + 1)))
noncomputable def nO (n : Nat) (M : Nat → Nat → P2) (e u : Nat → Nat → Nat) (t : Nat → Bool) : Nat → Nat → Nat → List Obl
  | 0, _, _ => []
  | m + 1, i, x => rO (M i) (e i) (u i) i n 0 (M i i).2 ++ (cmpF .neq (rowW n M u i) (rowW n M u i) false ::
      ((bif Nat.beq i 0 then [] else [cmpF .gtr (rowW n M u i) x (t i)]) ++ nO n M e u t m (i + 1) (bif Nat.beq i 0 then rowW n M u i else sel (t i) (rowW n M u i) x)))
def nS (n : Nat) (M : Nat → Nat → P2) (u : Nat → Nat → Nat) (t : Nat → Bool) : Nat → Nat → Nat → Nat
  | 0, _, x => x
  | m + 1, i, x => nS n M u t m (i + 1) (bif Nat.beq i 0 then rowW n M u i else sel (t i) (rowW n M u i) x)
def cells (n : Nat) (R : Nat → P2) : Nat → List Value
  | 0 => []
  | m + 1 => fW (R (n - (m + 1))).1 :: fW (R (n - (m + 1))).2 :: cells n R m
def rBlk (own : Bool) (n : Nat) (R : Nat → P2) : Option ABlk := some ⟨(cells n R n).toArray, 29, 2, own⟩
def oCells (n : Nat) (σ : Nat → Nat) : Nat → List Value
  | 0 => []
  | m + 1 => .slice (some ⟨σ (n - (m + 1)), 0, none⟩) n n :: oCells n σ m
def oBlk (own : Bool) (n : Nat) (σ : Nat → Nat) : Option ABlk := some ⟨(oCells n σ n).toArray, 26, 1, own⟩
def idN (i : Nat) : Nat := i
def tB (t1 t2 t3 : Bool) (i : Nat) : Bool := match i with | 1 => t1 | 2 => t2 | _ => t3
def hN1 (M : Nat → Nat → P2) : AHeap := #[rBlk false 1 (M 0), oBlk false 1 idN]
def hN2 (M : Nat → Nat → P2) : AHeap := #[rBlk false 2 (M 0), rBlk false 2 (M 1), oBlk false 2 idN]
def hN3 (M : Nat → Nat → P2) : AHeap := #[rBlk false 3 (M 0), rBlk false 3 (M 1), rBlk false 3 (M 2), oBlk false 3 idN]
def hN4 (M : Nat → Nat → P2) : AHeap := #[rBlk false 4 (M 0), rBlk false 4 (M 1), rBlk false 4 (M 2), rBlk false 4 (M 3), oBlk false 4 idN]
theorem norm1_came (M : Nat → Nat → P2) (e u : Nat → Nat → Nat) (t1 t2 t3 : Bool) : (askN askNm fltC 12 14 #[.slice (some ⟨1, 0, none⟩) 1 1] (hN1 M) (nA 1 e u (tB t1 t2 t3) 1 0)).map (fun r => (r.1, r.2.1.toList.take (hN1 M).size, r.2.2)) =
    some (.float .f64 (nS 1 M u (tB t1 t2 t3) 1 0 0), (hN1 M).toList, nO 1 M e u (tB t1 t2 t3) 1 0 0) := by
  kernel_rfl
theorem norm2_came (M : Nat → Nat → P2) (e u : Nat → Nat → Nat) (t1 t2 t3 : Bool) : (askN askNm fltC 12 14 #[.slice (some ⟨2, 0, none⟩) 2 2] (hN2 M) (nA 2 e u (tB t1 t2 t3) 2 0)).map (fun r => (r.1, r.2.1.toList.take (hN2 M).size, r.2.2)) =
    some (.float .f64 (nS 2 M u (tB t1 t2 t3) 2 0 0), (hN2 M).toList, nO 2 M e u (tB t1 t2 t3) 2 0 0) := by
  cases t1 <;> kernel_rfl
theorem norm3_came (M : Nat → Nat → P2) (e u : Nat → Nat → Nat) (t1 t2 t3 : Bool) : (askN askNm fltC 12 14 #[.slice (some ⟨3, 0, none⟩) 3 3] (hN3 M) (nA 3 e u (tB t1 t2 t3) 3 0)).map (fun r => (r.1, r.2.1.toList.take (hN3 M).size, r.2.2)) =
    some (.float .f64 (nS 3 M u (tB t1 t2 t3) 3 0 0), (hN3 M).toList, nO 3 M e u (tB t1 t2 t3) 3 0 0) := by
  cases t1 <;> cases t2 <;> kernel_rfl
theorem norm4_came (M : Nat → Nat → P2) (e u : Nat → Nat → Nat) (t1 t2 t3 : Bool) : (askN askNm fltC 12 14 #[.slice (some ⟨4, 0, none⟩) 4 4] (hN4 M) (nA 4 e u (tB t1 t2 t3) 4 0)).map (fun r => (r.1, r.2.1.toList.take (hN4 M).size, r.2.2)) =
    some (.float .f64 (nS 4 M u (tB t1 t2 t3) 4 0 0), (hN4 M).toList, nO 4 M e u (tB t1 t2 t3) 4 0 0) := by
  cases t1 <;> cases t2 <;> cases t3 <;> kernel_rfl

/-- What is reckoned with: the sizes, the sums, one up each. -/
def sAt (M : Nat → P2) (e : Nat → Nat) (i : Nat) : Nat → Nat
  | 0 => (M i).2
  | k + 1 => bif Nat.beq k i then sAt M e i k else up (fop .add .f64 (sAt M e i k) (e k))
def uOf (M : Nat → Nat → P2) (e : Nat → Nat → Nat) (i k : Nat) : Nat := sAt (M i) (e i) i (k + 1)
theorem rS_at (M : Nat → P2) (e : Nat → Nat) (i : Nat) : ∀ m k : Nat, rS (fun k => sAt M e i (k + 1)) i m k (sAt M e i k) = sAt M e i (k + m)
  | 0, k => rfl
  | m + 1, k => by
    have ih := rS_at M e i m (k + 1)
    have e2 : k + 1 + m = k + (m + 1) := by omega
    rw [e2] at ih
    unfold rS
    cases h : Nat.beq k i with
    | true =>
      rw [cond_true]
      have : sAt M e i (k + 1) = sAt M e i k := by
        show (bif Nat.beq k i then sAt M e i k else _) = _
        rw [h, cond_true]
      rw [this] at ih
      exact ih
    | false => rw [cond_false]; exact ih
theorem row_at (n : Nat) (M : Nat → Nat → P2) (e : Nat → Nat → Nat) (i : Nat) : rowW n M (uOf M e) i = sAt (M i) (e i) i n := by
  have := rS_at (M i) (e i) i n 0
  rw [Nat.zero_add] at this
  exact this
theorem rO_ok {M : Nat → P2} {e : Nat → Nat} {i : Nat} {n : Nat} (he : ∀ k, k < n → Runs Try.prog 35 #[vI (M k)] #[] (.float .f64 (e k)) #[]) (hs : ∀ k, k < n → NN (fop .add .f64 (sAt M e i k) (e k))) :
    ∀ m k : Nat, k + m ≤ n → okAll Try.prog (rO M e (fun k => sAt M e i (k + 1)) i m k (sAt M e i k))
  | 0, k, _ => trivial
  | m + 1, k, hk => by
    have ih := rO_ok he hs m (k + 1) (by omega)
    unfold rO
    cases h : Nat.beq k i with
    | true =>
      rw [cond_true]
      have : sAt M e i (k + 1) = sAt M e i k := by
        show (bif Nat.beq k i then sAt M e i k else _) = _
        rw [h, cond_true]
      rw [this] at ih
      exact ih
    | false =>
      rw [cond_false]
      have hu : sAt M e i (k + 1) = up (fop .add .f64 (sAt M e i k) (e k)) := by
        show (bif Nat.beq k i then sAt M e i k else _) = _
        rw [h, cond_false]
      refine ⟨he k (by omega), ?_, ih⟩
      show Runs _ _ _ _ (.float .f64 (sAt M e i (k + 1))) _
      rw [hu]
      exact up_runs (hs k (by omega))
/-- The greatest, as they come. -/
def mxW (r : Nat → Nat) : Nat → Nat
  | 0 => r 0
  | i + 1 => sel (decide (ix (mxW r i) < ix (r (i + 1)))) (r (i + 1)) (mxW r i)
def tOf (r : Nat → Nat) (i : Nat) : Bool := match i with
  | 0 => false
  | i + 1 => decide (ix (mxW r i) < ix (r (i + 1)))
theorem mx_nn {r : Nat → Nat} : ∀ i, (∀ k, k ≤ i → NN (r k)) → NN (mxW r i)
  | 0, h => h 0 (Nat.le_refl _)
  | i + 1, h => by
    unfold mxW
    cases decide (ix (mxW r i) < ix (r (i + 1))) with
    | true => exact h (i + 1) (Nat.le_refl _)
    | false => exact mx_nn i fun k hk => h k (by omega)
theorem app_ok' {P : Program} : ∀ {l m : List Obl}, okAll P l → okAll P m → okAll P (l ++ m)
  | [], _, _, h => h
  | _ :: _, _, h, g => ⟨h.1, app_ok' h.2 g⟩
theorem nO_ok {n : Nat} {M : Nat → Nat → P2} {e : Nat → Nat → Nat} (hr : ∀ i, i < n → okAll Try.prog (rO (M i) (e i) (fun k => sAt (M i) (e i) i (k + 1)) i n 0 (M i i).2)) (hn : ∀ i, i < n → NN (sAt (M i) (e i) i n)) :
    ∀ m i : Nat, 0 < i → i + m ≤ n → okAll Try.prog (nO n M e (uOf M e) (tOf fun i => sAt (M i) (e i) i n) m i (mxW (fun i => sAt (M i) (e i) i n) (i - 1)))
  | 0, i, _, _ => trivial
  | m + 1, 0, h0, _ => absurd h0 (Nat.lt_irrefl _)
  | m + 1, i + 1, _, hi => by
    have ih := nO_ok hr hn m (i + 1 + 1) (by omega) (by omega)
    unfold nO
    rw [row_at]
    refine app_ok' (hr _ (by omega)) ⟨(fc _ rfl _ _).trans (nn_self (hn _ (by omega))).1, app_ok' ?_ ?_⟩
    · exact ⟨(fc _ rfl _ _).trans (gtr_ix (hn _ (by omega)) (mx_nn i fun k hk => hn k (by omega))), trivial⟩
    · exact ih

theorem nS_at {n : Nat} {M : Nat → Nat → P2} {e : Nat → Nat → Nat} : ∀ m i : Nat, 0 < i → nS n M (uOf M e) (tOf fun i => sAt (M i) (e i) i n) m i (mxW (fun i => sAt (M i) (e i) i n) (i - 1)) = mxW (fun i => sAt (M i) (e i) i n) (i + m - 1)
  | 0, i, _ => by rw [Nat.add_zero]; rfl
  | m + 1, 0, h0 => absurd h0 (Nat.lt_irrefl _)
  | m + 1, i + 1, _ => by
    have ih := nS_at (n := n) (M := M) (e := e) m (i + 1 + 1) (by omega)
    unfold nS
    rw [row_at]
    have e2 : i + 1 + (m + 1) - 1 = i + 1 + 1 + m - 1 := by omega
    rw [e2]
    exact ih

end Go.Proofs.Ytdlinjijccnaeaa
