/- What Make of the rows makes, in a memory that holds more. -/
import Derived.Test.YtclphdmaedpipaaSlices
import Derived.Test.YtclphdmaedpipaaNordLaw
namespace Go.Proofs.Ytclphdmaedpipaa
open Go
set_option linter.unusedVariables false

inductive A2 {α β : Type} (R : α → β → Prop) : List α → List β → Prop
  | nil : A2 R [] []
  | cons {a : α} {b : β} {l : List α} {l' : List β} (h : R a b) (t : A2 R l l') : A2 R (a :: l) (b :: l')

theorem A2.append {α β : Type} {R : α → β → Prop} {a b : List α} {a' b' : List β} (h : A2 R a a') (h2 : A2 R b b') : A2 R (a ++ b) (a' ++ b') := by
  induction h with
  | nil => exact h2
  | cons h _ ih => exact .cons h ih
theorem A2.length {α β : Type} {R : α → β → Prop} {a : List α} {b : List β} (h : A2 R a b) : b.length = a.length := by induction h <;> simp [*]
theorem A2.get {α β : Type} {R : α → β → Prop} {a : List α} {b : List β} (h : A2 R a b) : ∀ (i : Nat) (y : β), b[i]? = some y → ∃ x, a[i]? = some x ∧ R x y := by
  induction h with
  | nil => intro i y hy; simp at hy
  | cons h _ ih =>
    intro i y hy
    cases i with
    | zero => simp at hy; subst hy; exact ⟨_, rfl, h⟩
    | succ i => simp at hy ⊢; exact ih i y hy
theorem A2.map {α β γ : Type} {R : β → γ → Prop} {f : α → β} {g : α → γ} (h : ∀ a, R (f a) (g a)) : ∀ l : List α, A2 R (l.map f) (l.map g)
  | [] => .nil
  | a :: l => .cons (h a) (A2.map h l)

inductive RelO (τ : Nat → Nat) : Option ABlk → Option ABlk → Prop
  | none : RelO τ none none
  | some {cs cs' : List Value} (t : TypeId) (e : Nat) (h : A2 (RelV τ) cs cs') : RelO τ (some ⟨cs.toArray, t, e, true⟩) (some ⟨cs'.toArray, t, e, true⟩)

theorem hdr_rel {base base' k : Nat} (σ : Nat → Nat) (hk : 0 < k) (j : Nat) : RelV (relB base base' σ) (hdr base k j) (hdr base' k j) := by
  have e : relB base base' σ (base + j * (2 * k + 2) + 2 * k - 1) = base' + j * (2 * k + 2) + 2 * k - 1 := by
    unfold relB
    rw [if_neg (by omega)]
    omega
  unfold hdr
  have := RelV.slice (τ := relB base base' σ) (base + j * (2 * k + 2) + 2 * k - 1) 0 k k
  rw [e] at this
  exact this

theorem fls_rel (τ : Nat → Nat) (row : List Int) : A2 (RelV τ) (row.map fl) (row.map fl) := A2.map (fun a => .clos rfl) row

theorem elBs_rel (τ : Nat → Nat) (k : Nat) (row : List Int) : ∀ (i : Nat) (rs : List Int), A2 (RelO τ) (elBs k row i rs) (elBs k row i rs)
  | _, [] => .nil
  | i, r :: rs => by
    simp only [elBs]
    refine .cons (.some _ _ (fls_rel τ [r])) (.cons ?_ (elBs_rel τ k row (i + 1) rs))
    split
    · exact .some _ _ (fls_rel τ row)
    · exact .none

theorem rowBs_rel {base base' k : Nat} (σ : Nat → Nat) (hk : 0 < k) (q j : Nat) (row : List Int) : A2 (RelO (relB base base' σ)) (rowBs base q k j row) (rowBs base' q k j row) := by
  unfold rowBs
  refine (elBs_rel _ k row 0 row).append (.cons (.some _ _ (.cons (hdr_rel σ hk j) .nil)) (.cons ?_ .nil))
  split
  · exact .some _ _ (A2.map (fun a => hdr_rel σ hk a) _)
  · exact .none

theorem makeBs_rel {base base' k : Nat} (σ : Nat → Nat) (hk : 0 < k) (q : Nat) : ∀ (n j : Nat) (rs : List Int), A2 (RelO (relB base base' σ)) (makeBs base q k n j rs) (makeBs base' q k n j rs)
  | 0, _, _ => .nil
  | n + 1, j, rs => (rowBs_rel σ hk q j _).append (makeBs_rel σ hk q n (j + 1) _)

theorem zV_rel {base base' k : Nat} (σ : Nat → Nat) (q : Nat) : RelV (relB base base' σ) (zV base q k) (zV base' q k) := by
  have hp : 0 < (q + 1) * (2 * k + 2) := Nat.mul_pos (by omega) (by omega)
  have e : relB base base' σ (base + (q + 1) * (2 * k + 2) - 1) = base' + (q + 1) * (2 * k + 2) - 1 := by
    unfold relB
    rw [if_neg (by omega)]
    omega
  unfold zV
  have := RelV.slice (τ := relB base base' σ) (base + (q + 1) * (2 * k + 2) - 1) 0 (q + 1) (q + 1)
  rw [e] at this
  exact this

theorem vrs_three {m : Mp} {a b c : Value} {r : Array Value} (h : VRs m #[a, b, c] r) : ∃ x y z, r = #[x, y, z] ∧ VR m a x ∧ VR m b y ∧ VR m c z := by
  have hl := h.list
  cases r with
  | mk l =>
    cases hl with
    | cons h1 t1 => cases t1 with
      | cons h2 t2 => cases t2 with
        | cons h3 t3 => cases t3 with
          | nil => exact ⟨_, _, _, rfl, h1, h2, h3⟩

theorem make_elseR {q k : Nat} (hk : 0 < k) {zs rs : List Int} (n : Int) (hr : Runs Try.prog 14 #[.int .i64 (Int.ofNat q), .int .i64 n, arg0 zs] (froze (heap0 zs)) (zV (heap0 zs).size q k) (froze (heap0 zs) ++ (zBs (heap0 zs).size q k rs).toArray))
    {H : AHeap} {v : Value} (hv : Handed H zs v) : Runs Try.prog 14 #[.int .i64 (Int.ofNat q), .int .i64 n, v] H (zV H.size q k) (H ++ (zBs H.size q k rs).toArray) := by
  have key : ∀ (σ : Nat → Nat) (j : Nat) (B' : ABlk), (zBs H.size q k rs).toArray[j]? = some (some B') → ∃ B : ABlk, (zBs (heap0 zs).size q k rs).toArray[j]? = some (some B) ∧ B.own = true ∧ B'.own = true ∧ B'.elem = B.elem ∧ B'.esz = B.esz ∧ B'.cells.size = B.cells.size ∧
      ∀ (i : Nat) (u : Value), B'.cells[i]? = some u → ∃ u0, B.cells[i]? = some u0 ∧ RelV (relB (heap0 zs).size H.size σ) u0 u := by
    intro σ j B' hB'
    have hA := makeBs_rel (base := (heap0 zs).size) (base' := H.size) σ hk q (q + 1) 0 rs
    obtain ⟨o, ho, hR⟩ := hA.get j (some B') (by simpa [zBs] using hB')
    cases hR with
    | @some cs cs' t e hcs =>
      refine ⟨⟨cs.toArray, t, e, true⟩, by simpa [zBs] using ho, rfl, rfl, rfl, rfl, by simp [hcs.length], ?_⟩
      intro i u hu
      obtain ⟨u0, g1, g2⟩ := hcs.get i u (by simpa using hu)
      exact ⟨u0, by simpa using g1, g2⟩
  have hsz : ((zBs H.size q k rs).toArray).size = ((zBs (heap0 zs).size q k rs).toArray).size := by
    have hA := makeBs_rel (base := (heap0 zs).size) (base' := H.size) id hk q (q + 1) 0 rs
    simpa [zBs] using hA.length
  have hfs : (froze (heap0 zs)).size = (heap0 zs).size := by simp [froze]
  rcases hv with ⟨rfl, rfl⟩ | ⟨b, B, hne, rfl, hb, hcells⟩
  · refine Runs.reloc (H0 := froze (heap0 [])) (fun _ => 0) hr ?_ (fun i hi => by simp [froze, heap0] at hi) ?_ ?_ ?_ hsz ?_
    · intro i hi; simp [froze, heap0] at hi
    · intro i B0 hi; simp [froze, heap0] at hi
    · intro m mσ r _ h
      obtain ⟨x, y, z, rfl, g1, g2, g3⟩ := vrs_three h
      refine VRl.arr (.cons ?_ (.cons ?_ (.cons ?_ .nil)))
      · cases g1; exact .int _ _
      · cases g2; exact .int _ _
      · cases g3; exact .loose _ _
    · rw [hfs]; exact zV_rel _ q
    · rw [hfs]; exact key _
  · obtain ⟨z, r0, rfl⟩ : ∃ z r, zs = z :: r := by cases zs with | nil => exact absurd rfl hne | cons z r => exact ⟨z, r, rfl⟩
    refine Runs.reloc (H0 := froze (heap0 (z :: r0))) (fun _ => b) hr ?_ (fun i hi => by
      have : i = 0 := by simp [froze, heap0] at hi; exact hi
      subst this
      exact ⟨_, rfl⟩) ?_ ?_ ?_ hsz ?_
    · intro i hi
      exact (Array.getElem?_eq_some_iff.1 hb).1
    · intro i B0 hi
      have hi0 : i = 0 := by
        have := (Array.getElem?_eq_some_iff.1 hi).1
        simp [froze, heap0] at this
        exact this
      subst hi0
      simp [froze, heap0, fz] at hi
      subst hi
      refine ⟨rfl, ?_, B, hb, by rw [hcells]; rfl⟩
      intro j u hu
      have : u ∈ (z :: r0).map (Value.int .i64) := by
        have h3 : ((z :: r0).map (Value.int .i64))[j]? = some u := by simpa using hu
        exact List.mem_of_getElem? h3
      simp only [List.mem_map] at this
      obtain ⟨n, _, rfl⟩ := this
      rfl
    · intro m mσ r hm h
      obtain ⟨x, y, w, rfl, g1, g2, g3⟩ := vrs_three h
      refine VRl.arr (.cons ?_ (.cons ?_ (.cons ?_ .nil)))
      · cases g1; exact .int _ _
      · cases g2; exact .int _ _
      · exact vr_slice (hm 0 (by simp [froze, heap0])).symm g3
    · rw [hfs]; exact zV_rel _ q
    · rw [hfs]; exact key _

theorem make_else {q k : Nat} (hk : 0 < k) {zs : List Int} (hm : MakeOK q k zs) {H : AHeap} {v : Value} (hv : Handed H zs v) (n : Int) (hn : n % Int.ofNat (2 + 1) = Int.ofNat (k - 1)) :
    ∃ rs : List Int, rs.length = (q + 1) * k ∧ (∀ r ∈ rs, 0 ≤ r ∧ r ≤ 200) ∧
      Runs Try.prog 14 #[.int .i64 (Int.ofNat q), .int .i64 n, v] H (zV H.size q k) (H ++ (zBs H.size q k rs).toArray) := by
  obtain ⟨rs, h1, h2, hr⟩ := hm n hn
  exact ⟨rs, h1, h2, make_elseR hk n hr hv⟩

end Go.Proofs.Ytclphdmaedpipaa
