/- Reloc / Handed / SliceV / RelocR / KeepR / Move / SliceTwo / Slices: several texts in one. -/
import Derived.Test.YtpmdpbljgidllaaAbsL
import Derived.Test.YtpmdpbljgidllaaSlice
import Derived.Below
/-!  A contract that is proved in a memory of few blocks holds in a memory of more, its blocks elsewhere. -/
namespace Go.Proofs.Ytpmdpbljgidllaa
open Go
set_option linter.unusedVariables false

theorem vr_slice {m1 m2 : Mp} {b1 b2 off n c : Nat} {v : Value} (h : m1[b1]? = m2[b2]?) (hv : VR m1 (.slice (some ⟨b1, off, none⟩) n c) v) : VR m2 (.slice (some ⟨b2, off, none⟩) n c) v := by
  cases hv with
  | slice ht hn hr =>
    refine .slice ?_ hn (fun l hl => hr l (by rw [← hl]; exact h))
    unfold tr at ht ⊢
    simp only at ht ⊢
    rw [← h]
    exact ht

/-- A value, its blocks elsewhere. -/
inductive RelV (τ : Nat → Nat) : Value → Value → Prop
  | clos {v : Value} (h : closN 4 v = true) : RelV τ v v
  | slice (b off n c : Nat) : RelV τ (.slice (some ⟨b, off, none⟩) n c) (.slice (some ⟨τ b, off, none⟩) n c)
  | agg {xs ys : Array Value} (hs : xs.size = ys.size) (h : ∀ i (h1 : i < xs.size) (h2 : i < ys.size), RelV τ xs[i] ys[i]) : RelV τ (.agg xs) (.agg ys)

theorem RelV.vr {τ : Nat → Nat} {m1 m2 : Mp} (hτ : ∀ (b : Nat) (l : Loc), m1[b]? = some l → l.live = true → m2[τ b]? = some l) {a b v : Value} (h : RelV τ a b) (hv : VR m1 a v) : VR m2 b v := by
  induction h generalizing v with
  | clos h => exact hv.clos_any 4 _ _ h
  | slice b off n c =>
    refine vr_slice ?_ hv
    cases hv with
    | slice ht hn hr =>
      obtain ⟨l, hl, hv⟩ := tr_live ht
      have hb : m1[b]? = some l := hl
      rw [hb]
      exact (hτ b l hb hv).symm
  | agg hs h ih =>
    cases hv with
    | agg g1 g2 => exact .agg (hs ▸ g1) fun i a b => ih i (hs ▸ a) a (g2 i (hs ▸ a) b)

def relB (n0 N : Nat) (σ : Nat → Nat) (b : Nat) : Nat := if b < n0 then σ b else N + (b - n0)

theorem Runs.reloc {P : Program} {f : FuncId} {args0 args : Array Value} {H0 H bs0 bs : AHeap} {v0 v : Value} (σ : Nat → Nat)
    (h : Runs P f args0 H0 v0 (H0 ++ bs0))
    (hlt : ∀ i, i < H0.size → σ i < H.size) (hsome : ∀ i, i < H0.size → ∃ B0, H0[i]? = some (some B0))
    (hσ : ∀ (i : Nat) (B0 : ABlk), H0[i]? = some (some B0) → B0.own = false ∧ (∀ (j : Nat) (u : Value), B0.cells[j]? = some u → closN 4 u = true) ∧ ∃ B, H[σ i]? = some (some B) ∧ B.cells = B0.cells)
    (hargs : ∀ (m mσ : Mp) (r : Array Value), (∀ i : Nat, i < H0.size → mσ[i]? = m[σ i]?) → VRs m args r → VRs mσ args0 r)
    (hv : RelV (relB H0.size H.size σ) v0 v)
    (hsz : bs.size = bs0.size)
    (hbs : ∀ (j : Nat) (B' : ABlk), bs[j]? = some (some B') → ∃ B, bs0[j]? = some (some B) ∧ B.own = true ∧ B'.own = true ∧ B'.elem = B.elem ∧ B'.esz = B.esz ∧ B'.cells.size = B.cells.size ∧
      ∀ (i : Nat) (u : Value), B'.cells[i]? = some u → ∃ u0, B.cells[i]? = some u0 ∧ RelV (relB H0.size H.size σ) u0 u) :
    Runs P f args H v (H ++ bs) := by
  intro m w args' hr hargs'
  have hms : m.size = H.size := hr.size
  let mσ : Mp := Array.ofFn (n := H0.size) fun i => m[σ i.1]'(by rw [hms]; exact hlt i.1 i.2)
  have hσs : mσ.size = H0.size := by simp [mσ]
  have hget : ∀ i : Nat, i < H0.size → mσ[i]? = m[σ i]? := by
    intro i hi
    have h1 : σ i < m.size := by rw [hms]; exact hlt i hi
    rw [Array.getElem?_eq_getElem (by rw [hσs]; exact hi), Array.getElem?_eq_getElem h1]
    simp [mσ]
  have hr0 : HR H0 mσ w := by
    refine ⟨hσs, ?_, ?_, ?_⟩
    · intro b l hl hv9
      have hb : b < H0.size := by
        have := (Array.getElem?_eq_some_iff.1 hl).1
        rw [hσs] at this; exact this
      rw [hget b hb] at hl
      exact hr.old _ _ hl hv9
    · intro b B0 hB
      obtain ⟨ho, hc, B, hB2, hcells⟩ := hσ b B0 hB
      obtain ⟨l, cs, fr, hl, br⟩ := hr.blk _ B hB2
      have hb : b < H0.size := (Array.getElem?_eq_some_iff.1 hB).1
      refine ⟨l, cs, fr, by rw [hget b hb]; exact hl, br.real, br.size, (by intro h; rw [ho] at h; cases h), (by intro h; rw [ho] at h; cases h), by rw [← hcells]; exact br.fits, ?_, br.live⟩
      intro i u hu
      obtain ⟨u', h1, h2⟩ := br.vals i u (by rw [hcells]; exact hu)
      exact ⟨u', h1, h2.clos_any 4 _ _ (hc i u hu)⟩
    · intro b b' B B' l l' hB _ _ _ hown _
      have := (hσ b B hB).1
      rw [this] at hown
      cases hown
  have hnofp : ∀ g, ¬ FP H0 mσ g := by
    rintro g ⟨b, B, l, hb, ho, _⟩
    have := (hσ b B hb).1
    rw [this] at ho
    cases ho
  obtain ⟨h1, h2⟩ := h mσ w args' hr0 (hargs m mσ args' hget hargs')
  refine ⟨h1, h2.mono ?_⟩
  rintro e w' ⟨v', m1, he, hv1, hr1, st⟩
  have hk : ∀ g, g < w.heap.size → w'.heap[g]? = w.heap[g]? := fun g hg => st.keep g hg (hnofp g)
  have hm1 : m1.size = H0.size + bs0.size := by rw [hr1.size]; simp
  let m2 : Mp := m ++ (m1.toList.drop H0.size).toArray
  have hm2 : m2.size = H.size + bs0.size := by simp [m2, hms, hm1]
  have hold : ∀ (b : Nat) (l : Loc), m[b]? = some l → m2[b]? = some l := by
    intro b l hl
    have := (Array.getElem?_eq_some_iff.1 hl).1
    simp only [m2]
    rw [Array.getElem?_append_left this]
    exact hl
  have hold' : ∀ b : Nat, b < H.size → m2[b]? = m[b]? := by
    intro b hb
    simp only [m2]
    rw [Array.getElem?_append_left (by rw [hms]; exact hb)]
  have hnew : ∀ j : Nat, m2[H.size + j]? = m1[H0.size + j]? := by
    intro j
    simp only [m2]
    rw [Array.getElem?_append_right (by rw [hms]; omega)]
    simp [hms, List.getElem?_drop]
  have hτ : ∀ (b : Nat) (l : Loc), m1[b]? = some l → l.live = true → m2[relB H0.size H.size σ b]? = some l := by
    intro b l hl _
    unfold relB
    by_cases hb : b < H0.size
    · rw [if_pos hb]
      have h3 : m[σ b]? = some (m[σ b]'(by rw [hms]; exact hlt b hb)) := Array.getElem?_eq_getElem _
      have hlv : (m[σ b]'(by rw [hms]; exact hlt b hb)).live = true := by
        obtain ⟨B0, hB0⟩ := hsome b hb
        obtain ⟨_, _, B9, hB9, _⟩ := hσ b B0 hB0
        obtain ⟨l9, _, _, hl9, r9⟩ := hr.blk _ B9 hB9
        rw [h3] at hl9
        injection hl9 with e9
        rw [e9]
        exact r9.live
      have h4 := st.ext b _ ((hget b hb).trans h3)
      rw [hl] at h4
      rw [hold' _ (hlt b hb), h3, h4]
    · rw [if_neg hb, hnew, show H0.size + (b - H0.size) = b by omega]
      exact hl
  have hblk0 : ∀ j : Nat, (H0 ++ bs0)[H0.size + j]? = bs0[j]? := by
    intro j
    rw [Array.getElem?_append_right (by omega)]
    simp
  have hblk : ∀ j : Nat, (H ++ bs)[H.size + j]? = bs[j]? := by
    intro j
    rw [Array.getElem?_append_right (by omega)]
    simp
  have hblkl : ∀ b : Nat, b < H.size → (H ++ bs)[b]? = H[b]? := fun b hb => Array.getElem?_append_left hb
  have hfpn : ∀ (j : Nat) (B' : ABlk) (l : Loc), bs[j]? = some (some B') → m2[H.size + j]? = some l → w.heap.size ≤ l.blk := by
    intro j B' l hB hl
    obtain ⟨B, hB0, ho, _⟩ := hbs j B' hB
    rw [hnew] at hl
    exact (st.fp _ ⟨H0.size + j, B, l, by rw [hblk0]; exact hB0, ho, hl, rfl⟩).elim (fun h => absurd h (hnofp _)) id
  have hsplit : ∀ b : Nat, ¬ b < H.size → ∃ j, b = H.size + j := fun b hb => ⟨b - H.size, by omega⟩
  refine ⟨v', m2, he, hv.vr hτ hv1, ⟨?_, ?_, ?_, ?_⟩, ⟨hold, st.os, st.tape, st.output, st.size, fun g hg _ => hk g hg, ?_⟩⟩
  · rw [hm2, Array.size_append, hsz]
  · intro b l hl hv9
    by_cases hb : b < H.size
    · rw [hold' b hb] at hl
      exact Nat.lt_of_lt_of_le (hr.old b l hl hv9) st.size
    · obtain ⟨j, rfl⟩ := hsplit b hb
      rw [hnew] at hl
      exact hr1.old _ l hl hv9
  · intro b B hB
    by_cases hb : b < H.size
    · rw [hblkl b hb] at hB
      obtain ⟨l, cs, fr, hl, r⟩ := hr.blk b B hB
      exact ⟨l, cs, fr, hold b l hl, r.mono hold (hk _ (hr.old b l hl r.live))⟩
    · obtain ⟨j, rfl⟩ := hsplit b hb
      rw [hblk] at hB
      obtain ⟨B0, hB0, ho, ho', hel, hes, hcs, hcells⟩ := hbs j B hB
      obtain ⟨l, cs, fr, hl, r⟩ := hr1.blk (H0.size + j) B0 (by rw [hblk0]; exact hB0)
      refine ⟨l, cs, fr, by rw [hnew]; exact hl, r.real, r.size, fun _ => r.own ho, fun _ => by rw [hel, hes]; exact r.mine ho, by rw [hcs]; exact r.fits, ?_, r.live⟩
      intro i u hu
      obtain ⟨u0, g1, g2⟩ := hcells i u hu
      obtain ⟨u', g3, g4⟩ := r.vals i u0 g1
      exact ⟨u', g3, g2.vr hτ g4⟩
  · intro b b' B B' l l' hB hB' hl hl' ho heq
    by_cases hb : b < H.size
    · rw [hblkl b hb] at hB
      rw [hold' b hb] at hl
      by_cases hb' : b' < H.size
      · rw [hblkl b' hb'] at hB'
        rw [hold' b' hb'] at hl'
        exact hr.inj b b' B B' l l' hB hB' hl hl' ho heq
      · obtain ⟨j, rfl⟩ := hsplit b' hb'
        rw [hblk] at hB'
        have h3 := hfpn j B' l' hB' hl'
        have h4 := hr.oldB hB hl
        omega
    · obtain ⟨j, rfl⟩ := hsplit b hb
      rw [hblk] at hB
      have h3 := hfpn j B l hB hl
      by_cases hb' : b' < H.size
      · rw [hold' b' hb'] at hl'
        have h4 := hr.oldB (by rw [hblkl b' hb'] at hB'; exact hB') hl'
        omega
      · obtain ⟨j', rfl⟩ := hsplit b' hb'
        rw [hblk] at hB'
        obtain ⟨B0, hB0, ho0, _⟩ := hbs j B hB
        obtain ⟨B1, hB1, ho1, _⟩ := hbs j' B' hB'
        rw [hnew] at hl hl'
        have := hr1.inj (H0.size + j) (H0.size + j') B0 B1 l l' (by rw [hblk0]; exact hB0) (by rw [hblk0]; exact hB1) hl hl' ho0 heq
        omega
  · rintro g ⟨b, B, l, hB, ho, hl, rfl⟩
    by_cases hb : b < H.size
    · rw [hblkl b hb] at hB
      rw [hold' b hb] at hl
      exact .inl ⟨b, B, l, hB, ho, hl, rfl⟩
    · obtain ⟨j, rfl⟩ := hsplit b hb
      rw [hblk] at hB
      exact .inr (hfpn j B l hB hl)

end Go.Proofs.Ytpmdpbljgidllaa

/-!  A slice of ints that was handed in, in a memory of more blocks; a contract that reads it, moved there. -/
namespace Go.Proofs.Ytpmdpbljgidllaa
open Go
set_option linter.unusedVariables false

/-- How a slice of ints that was handed in stands in a memory: it is nothing, or all of one block. -/
def Handed (H : AHeap) (zs : List Int) (v : Value) : Prop :=
  (zs = [] ∧ v = .slice none 0 1) ∨ ∃ b B, zs ≠ [] ∧ v = .slice (some ⟨b, 0, none⟩) zs.length zs.length ∧ H[b]? = some (some B) ∧ B.cells = (zs.map (Value.int .i64)).toArray

theorem Handed.froze {H : AHeap} {zs : List Int} {v : Value} (h : Handed H zs v) : Handed (froze H) zs v := by
  rcases h with h | ⟨b, B, h1, h2, h3, h4⟩
  · exact .inl h
  · refine .inr ⟨b, { B with own := false }, h1, h2, ?_, h4⟩
    unfold Go.Proofs.Ytpmdpbljgidllaa.froze
    simp only [List.getElem?_toArray, List.getElem?_map, Array.getElem?_toList, h3]
    rfl
theorem Handed.thaw {H : AHeap} {zs : List Int} {v : Value} (h : Handed H zs v) (bs : AHeap) : Handed (Go.Proofs.Ytpmdpbljgidllaa.thaw H (Go.Proofs.Ytpmdpbljgidllaa.froze H ++ bs)) zs v := by
  rcases h with h | ⟨b, B, h1, h2, h3, h4⟩
  · exact .inl h
  · refine .inr ⟨b, B, h1, h2, ?_, h4⟩
    rw [thaw_get (by simp [Go.Proofs.Ytpmdpbljgidllaa.froze]), if_pos (Array.getElem?_eq_some_iff.1 h3).1]
    exact h3

theorem vrs_two {m : Mp} {a b : Value} {r : Array Value} (h : VRs m #[a, b] r) : ∃ x y, r = #[x, y] ∧ VR m a x ∧ VR m b y := by
  have hl := h.list
  cases r with
  | mk l =>
    cases hl with
    | cons h1 t1 => cases t1 with
      | cons h2 t2 => cases t2 with
        | nil => exact ⟨_, _, rfl, h1, h2⟩

/-- A function of a slice of ints and a number, that makes blocks of numbers. -/
theorem reloc_int {P : Program} {f : FuncId} {zs : List Int} {n : Int} {v va : Value} {H bs : AHeap} (hr : Runs P f #[arg0 zs, .int .i64 n] (froze (heap0 zs)) v (froze (heap0 zs) ++ bs)) (hv : closN 4 v = true)
    (hbs : ∀ (j : Nat) (B : ABlk), bs[j]? = some (some B) → B.own = true ∧ ∀ (i : Nat) (u : Value), B.cells[i]? = some u → closN 4 u = true) (hh : Handed H zs va) : Runs P f #[va, .int .i64 n] H v (H ++ bs) := by
  have key : ∀ (σ : Nat → Nat) (j : Nat) (B' : ABlk), bs[j]? = some (some B') → ∃ B : ABlk, bs[j]? = some (some B) ∧ B.own = true ∧ B'.own = true ∧ B'.elem = B.elem ∧ B'.esz = B.esz ∧ B'.cells.size = B.cells.size ∧
      ∀ (i : Nat) (u : Value), B'.cells[i]? = some u → ∃ u0, B.cells[i]? = some u0 ∧ RelV (relB (froze (heap0 zs)).size H.size σ) u0 u := fun σ j B' hB =>
    ⟨B', hB, (hbs j B' hB).1, (hbs j B' hB).1, rfl, rfl, rfl, fun i u hu => ⟨u, hu, .clos ((hbs j B' hB).2 i u hu)⟩⟩
  rcases hh with ⟨rfl, rfl⟩ | ⟨b, B, hne, rfl, hb, hcells⟩
  · refine Runs.reloc (H0 := froze (heap0 [])) (fun _ => 0) hr ?_ (fun i hi => by simp [froze, heap0] at hi) ?_ ?_ (.clos hv) rfl (key _)
    · intro i hi; simp [froze, heap0] at hi
    · intro i B0 hi; simp [froze, heap0] at hi
    · intro m mσ r _ h
      obtain ⟨x, y, rfl, g1, g2⟩ := vrs_two h
      refine VRl.arr (.cons ?_ (.cons ?_ .nil))
      · cases g1; exact .loose _ _
      · cases g2; exact .int _ _
  · obtain ⟨z, r0, rfl⟩ : ∃ z r, zs = z :: r := by cases zs with | nil => exact absurd rfl hne | cons z r => exact ⟨z, r, rfl⟩
    refine Runs.reloc (H0 := froze (heap0 (z :: r0))) (fun _ => b) hr ?_ (fun i hi => by
      have : i = 0 := by simp [froze, heap0] at hi; exact hi
      subst this
      exact ⟨_, rfl⟩) ?_ ?_ (.clos hv) rfl (key _)
    · intro i hi
      exact (Array.getElem?_eq_some_iff.1 hb).1
    · intro i B0 hi
      have hi0 : i = 0 := by
        have := (Array.getElem?_eq_some_iff.1 hi).1
        simp [froze, heap0] at this
        exact this
      subst hi0
      simp [froze, heap0, fz] at hi
      subst hi
      refine ⟨rfl, ?_, B, hb, by rw [hcells]; rfl⟩
      intro j u hu
      have : u ∈ (z :: r0).map (Value.int .i64) := by
        have h3 : ((z :: r0).map (Value.int .i64))[j]? = some u := by simpa using hu
        exact List.mem_of_getElem? h3
      simp only [List.mem_map] at this
      obtain ⟨n, _, rfl⟩ := this
      rfl
    · intro m mσ r hm h
      obtain ⟨x, y, rfl, g1, g2⟩ := vrs_two h
      refine VRl.arr (.cons ?_ (.cons ?_ .nil))
      · exact vr_slice (hm 0 (by simp [froze, heap0])).symm g1
      · cases g2; exact .int _ _

end Go.Proofs.Ytpmdpbljgidllaa

/-!  A function of one slice of plain values: its contract in a small memory, moved to any memory; what it made but did not return is forgotten. -/
namespace Go.Proofs.Ytpmdpbljgidllaa
open Go
set_option linter.unusedVariables false

def AllFrozen (H : AHeap) : Prop := ∀ (b : Nat) (B : ABlk), H[b]? = some (some B) → B.own = false
theorem froze_all (H : AHeap) : AllFrozen (froze H) := fun b B h => (froze_get h).1

theorem vr_cap {m : Mp} {b o n c c' : Nat} {v : Value} (h : VR m (.slice (some ⟨b, o, none⟩) n c) v) : VR m (.slice (some ⟨b, o, none⟩) n c') v := by
  cases h with
  | slice ht hn hr => exact .slice ht hn hr

theorem AllFrozen.nofp {H : AHeap} (h : AllFrozen H) {m : Mp} : ∀ g, ¬ FP H m g := by
  rintro g ⟨b, B, l, hb, ho, _⟩
  rw [h b B hb] at ho
  cases ho

/-- New blocks that nothing points to are forgotten. -/
theorem Runs.drop {P : Program} {f : FuncId} {args : Array Value} {H bs : AHeap} {v : Value} (hf : AllFrozen H) (h : Runs P f args H v (H ++ bs)) (hv : closN 4 v = true) : Runs P f args H v H := by
  intro m w args' hr ha
  obtain ⟨h1, h2⟩ := h m w args' hr ha
  refine ⟨h1, h2.mono ?_⟩
  rintro e w' ⟨v', m1, he, hv1, hr1, st⟩
  refine ⟨v', m, he, hv1.clos_any 4 _ _ hv, ⟨hr.size, fun b l hl hlv => Nat.lt_of_lt_of_le (hr.old b l hl hlv) st.size, ?_, hr.inj⟩, ⟨fun b l h => h, st.os, st.tape, st.output, st.size, st.keep, fun g hg => .inl hg⟩⟩
  intro b B hB
  obtain ⟨l, cs, fr, hl, r⟩ := hr.blk b B hB
  exact ⟨l, cs, fr, hl, r.mono (fun b l h => h) (st.keep _ (hr.old b l hl r.live) (hf.nofp _))⟩

/-- Of the new blocks the one that the result points to is kept. -/
theorem Runs.keep1 {P : Program} {f : FuncId} {args : Array Value} {H bs : AHeap} {B : ABlk} {k off n c : Nat} (hf : AllFrozen H)
    (h : Runs P f args H (.slice (some ⟨H.size + k, off, none⟩) n c) (H ++ bs)) (hk : bs[k]? = some (some B)) (hcl : ∀ (j : Nat) (u : Value), B.cells[j]? = some u → closN 4 u = true) :
    Runs P f args H (.slice (some ⟨H.size, off, none⟩) n n) (H ++ #[some B]) := by
  intro m w args' hr ha
  obtain ⟨h1, h2⟩ := h m w args' hr ha
  refine ⟨h1, h2.mono ?_⟩
  rintro e w' ⟨v', m1, he, hv, hr1, st⟩
  have hms : m.size = H.size := hr.size
  have hB1 : (H ++ bs)[H.size + k]? = some (some B) := by rw [Array.getElem?_append_right (by omega)]; simpa using hk
  obtain ⟨l, cs, fr, hl, br⟩ := hr1.blk _ _ hB1
  have gnew : (m ++ #[l])[H.size]? = some l := by rw [Array.getElem?_append_right (by omega), hms]; simp
  have gold : ∀ b, b < H.size → (m ++ #[l])[b]? = m[b]? := fun b hb => Array.getElem?_append_left (by omega)
  have gext : ∀ (b : Nat) (l' : Loc), m[b]? = some l' → (m ++ #[l])[b]? = some l' := by
    intro b l' hl'
    have := (Array.getElem?_eq_some_iff.1 hl').1
    rw [gold b (by omega)]; exact hl'
  have hsz : ∀ {b : Nat} {l' : Loc}, (m ++ #[l])[b]? = some l' → b < H.size ∨ b = H.size := by
    intro b l' h
    have := (Array.getElem?_eq_some_iff.1 h).1
    simp [hms] at this
    omega
  have Hold : ∀ b, b < H.size → (H ++ #[some B])[b]? = H[b]? := fun b hb => Array.getElem?_append_left hb
  have Hnew : (H ++ #[some B])[H.size]? = some (some B) := by simp
  have Hsz : ∀ {b : Nat} {X : Option ABlk}, (H ++ #[some B])[b]? = some X → b < H.size ∨ b = H.size := by
    intro b X h
    have := (Array.getElem?_eq_some_iff.1 h).1
    simp at this
    omega
  refine ⟨v', m ++ #[l], he, vr_cap (c := c) (vr_slice (hl.trans gnew.symm) hv), ⟨?_, ?_, ?_, ?_⟩, ⟨gext, st.os, st.tape, st.output, st.size, st.keep, ?_⟩⟩
  · simp [hms]
  · intro b l' hl' hlv
    rcases hsz hl' with hb | rfl
    · rw [gold b hb] at hl'
      exact Nat.lt_of_lt_of_le (hr.old b l' hl' hlv) st.size
    · rw [gnew] at hl'
      injection hl' with hl'
      subst hl'
      exact hr1.old _ _ hl hlv
  · intro b B' hB'
    rcases Hsz hB' with hb | rfl
    · rw [Hold b hb] at hB'
      obtain ⟨l', cs', fr', hl', r⟩ := hr.blk b B' hB'
      exact ⟨l', cs', fr', gext b l' hl', r.mono gext (st.keep _ (hr.old b l' hl' r.live) (hf.nofp _))⟩
    · rw [Hnew] at hB'
      injection hB' with hB'
      injection hB' with hB'
      subst hB'
      refine ⟨l, cs, fr, gnew, br.real, br.size, br.own, br.mine, br.fits, ?_, br.live⟩
      intro i u hu
      obtain ⟨u', g1, g2⟩ := br.vals i u hu
      exact ⟨u', g1, g2.clos_any 4 _ _ (hcl i u hu)⟩
  · intro b b' B1 B2 l1 l2 hB1' hB2' hl1 hl2 ho heq
    rcases Hsz hB1' with hb | rfl
    · rw [Hold b hb] at hB1'
      rw [hf b B1 hB1'] at ho
      cases ho
    · rw [Hnew] at hB1'
      injection hB1' with hB1'
      injection hB1' with hB1'
      subst hB1'
      rw [gnew] at hl1
      injection hl1 with hl1
      subst hl1
      rcases Hsz hB2' with hb' | rfl
      · rw [Hold b' hb'] at hB2'
        rw [gold b' hb'] at hl2
        have g1 : (H ++ bs)[b']? = some (some B2) := by rw [Array.getElem?_append_left hb']; exact hB2'
        have := hr1.inj _ _ _ _ _ _ hB1 g1 hl (st.ext _ _ hl2) ho heq
        omega
      · rfl
  · rintro g ⟨b, B', l', hb, ho, hl', hg⟩
    rcases Hsz hb with h5 | rfl
    · rw [Hold b h5] at hb
      rw [hf b B' hb] at ho
      cases ho
    · rw [Hnew] at hb
      injection hb with hb
      injection hb with hb
      subst hb
      rw [gnew] at hl'
      injection hl' with hl'
      subst hl'
      exact st.fp g ⟨_, B, l, hB1, ho, hl, hg⟩

/-! moved -/
def argV (vs : List Value) : Value := match vs with
  | [] => .slice none 0 1
  | _ :: _ => .slice (some ⟨0, 0, none⟩) vs.length vs.length
def heapV (t : TypeId) (vs : List Value) : AHeap := match vs with
  | [] => #[]
  | _ :: _ => #[some ⟨vs.toArray, t, 1, false⟩]
/-- How a slice of plain values stands in a memory. -/
def HandV (H : AHeap) (vs : List Value) (v : Value) : Prop :=
  (vs = [] ∧ (v = .slice none 0 1 ∨ v = .slice none 0 0)) ∨ ∃ b B, vs ≠ [] ∧ v = .slice (some ⟨b, 0, none⟩) vs.length vs.length ∧ H[b]? = some (some B) ∧ B.cells = vs.toArray
theorem Handed.toV {H : AHeap} {zs : List Int} {v : Value} (h : Handed H zs v) : HandV H (zs.map (Value.int .i64)) v := by
  rcases h with ⟨rfl, rfl⟩ | ⟨b, B, h1, h2, h3, h4⟩
  · exact .inl ⟨rfl, .inl rfl⟩
  · refine .inr ⟨b, B, fun h => h1 (List.map_eq_nil_iff.1 h), ?_, h3, h4⟩
    rw [List.length_map]; exact h2
theorem HandV.froze {H : AHeap} {zs : List Value} {v : Value} (h : HandV H zs v) : HandV (froze H) zs v := by
  rcases h with h | ⟨b, B, h1, h2, h3, h4⟩
  · exact .inl h
  · refine .inr ⟨b, { B with own := false }, h1, h2, ?_, h4⟩
    unfold Go.Proofs.Ytpmdpbljgidllaa.froze
    simp only [List.getElem?_toArray, List.getElem?_map, Array.getElem?_toList, h3]
    rfl
theorem HandV.thaw {H : AHeap} {zs : List Value} {v : Value} (h : HandV H zs v) (bs : AHeap) : HandV (Go.Proofs.Ytpmdpbljgidllaa.thaw H (Go.Proofs.Ytpmdpbljgidllaa.froze H ++ bs)) zs v := by
  rcases h with h | ⟨b, B, h1, h2, h3, h4⟩
  · exact .inl h
  · refine .inr ⟨b, B, h1, h2, ?_, h4⟩
    rw [thaw_get (by simp [Go.Proofs.Ytpmdpbljgidllaa.froze]), if_pos (Array.getElem?_eq_some_iff.1 h3).1]
    exact h3

theorem reloc_v {P : Program} {f : FuncId} {t : TypeId} {vs : List Value} {ex : List Value} {v0 v va : Value} {H bs : AHeap} (hcl : ∀ u ∈ vs, closN 4 u = true) (hex : ∀ u ∈ ex, closN 4 u = true)
    (hr : Runs P f (argV vs :: ex).toArray (heapV t vs) v0 (heapV t vs ++ bs)) (hv : ∀ b, RelV (relB (heapV t vs).size H.size (fun _ => b)) v0 v)
    (hbs : ∀ (j : Nat) (B : ABlk), bs[j]? = some (some B) → B.own = true ∧ ∀ (i : Nat) (u : Value), B.cells[i]? = some u → closN 4 u = true) (hh : HandV H vs va) : Runs P f (va :: ex).toArray H v (H ++ bs) := by
  have key : ∀ (σ : Nat → Nat) (j : Nat) (B' : ABlk), bs[j]? = some (some B') → ∃ B : ABlk, bs[j]? = some (some B) ∧ B.own = true ∧ B'.own = true ∧ B'.elem = B.elem ∧ B'.esz = B.esz ∧ B'.cells.size = B.cells.size ∧
      ∀ (i : Nat) (u : Value), B'.cells[i]? = some u → ∃ u0, B.cells[i]? = some u0 ∧ RelV (relB (heapV t vs).size H.size σ) u0 u := fun σ j B' hB =>
    ⟨B', hB, (hbs j B' hB).1, (hbs j B' hB).1, rfl, rfl, rfl, fun i u hu => ⟨u, hu, .clos ((hbs j B' hB).2 i u hu)⟩⟩
  have exs : ∀ {m mσ : Mp} {ys : List Value}, VRl m ex ys → VRl mσ ex ys := by
    intro m mσ ys h
    clear hr
    induction h with
    | nil => exact .nil
    | cons h t ih => exact .cons (h.clos_any 4 _ _ (hex _ (List.mem_cons_self ..))) (ih fun u hu => hex u (List.mem_cons_of_mem _ hu))
  rcases hh with ⟨rfl, hva⟩ | ⟨b, B, hne, rfl, hb, hcells⟩
  · refine Runs.reloc (H0 := heapV t []) (fun _ => 0) hr ?_ (fun i hi => by simp [heapV] at hi) ?_ ?_ (hv 0) rfl (key _)
    · intro i hi; simp [heapV] at hi
    · intro i B0 hi; simp [heapV] at hi
    · intro m mσ r _ h
      have hl := h.list
      obtain ⟨r⟩ := r
      cases hl with
      | cons g1 g2 =>
        refine VRl.arr (.cons ?_ (exs g2))
        rcases hva with rfl | rfl
        · cases g1; exact .loose _ _
        · cases g1; exact .loose _ _
  · obtain ⟨z, r0, rfl⟩ : ∃ z r, vs = z :: r := by cases vs with | nil => exact absurd rfl hne | cons z r => exact ⟨z, r, rfl⟩
    refine Runs.reloc (H0 := heapV t (z :: r0)) (fun _ => b) hr ?_ (fun i hi => by
      have : i = 0 := by simp [heapV] at hi; exact hi
      subst this
      exact ⟨_, rfl⟩) ?_ ?_ (hv b) rfl (key _)
    · intro i hi
      exact (Array.getElem?_eq_some_iff.1 hb).1
    · intro i B0 hi
      have hi0 : i = 0 := by
        have := (Array.getElem?_eq_some_iff.1 hi).1
        simp [heapV] at this
        exact this
      subst hi0
      simp [heapV] at hi
      subst hi
      refine ⟨rfl, ?_, B, hb, by rw [hcells]⟩
      intro j u hu
      have h3 : (z :: r0)[j]? = some u := by simpa using hu
      exact hcl u (List.mem_of_getElem? h3)
    · intro m mσ r hm h
      have hl := h.list
      obtain ⟨r⟩ := r
      cases hl with
      | cons g1 g2 =>
        exact VRl.arr (.cons (vr_slice (hm 0 (by simp [heapV])).symm g1) (exs g2))

/-- A reader. -/
theorem read_v {P : Program} {f : FuncId} {t : TypeId} {vs : List Value} {ex : List Value} {v va : Value} {H bs : AHeap} (hcl : ∀ u ∈ vs, closN 4 u = true) (hex : ∀ u ∈ ex, closN 4 u = true)
    (hr : Runs P f (argV vs :: ex).toArray (heapV t vs) v (heapV t vs ++ bs)) (hv : closN 4 v = true)
    (hf : AllFrozen H) (hh : HandV H vs va) : Runs P f (va :: ex).toArray H v H := by
  have hf0 : AllFrozen (heapV t vs) := by
    intro b B hB
    cases vs with
    | nil => simp [heapV] at hB
    | cons z r =>
      have hi0 : b = 0 := by
        have := (Array.getElem?_eq_some_iff.1 hB).1
        simp [heapV] at this
        exact this
      subst hi0
      simp [heapV] at hB
      subst hB
      rfl
  have h0 := hr.drop hf0 hv
  have h1 : Runs P f (argV vs :: ex).toArray (heapV t vs) v (heapV t vs ++ #[]) := by rw [Array.append_empty]; exact h0
  have h2 := reloc_v (H := H) (va := va) hcl hex h1 (fun b => .clos hv) (fun j B h => by simp at h) hh
  rw [Array.append_empty] at h2
  exact h2
/-- One that makes a slice. -/
theorem make_v {P : Program} {f : FuncId} {t : TypeId} {vs us : List Value} {ex : List Value} {va : Value} {H bs : AHeap} {k n c : Nat} {e : TypeId} {z : Nat} (hcl : ∀ u ∈ vs, closN 4 u = true) (hex : ∀ u ∈ ex, closN 4 u = true) (hus : ∀ u ∈ us, closN 4 u = true)
    (hr : Runs P f (argV vs :: ex).toArray (heapV t vs) (.slice (some ⟨(heapV t vs).size + k, 0, none⟩) n c) (heapV t vs ++ bs)) (hk : bs[k]? = some (some ⟨us.toArray, e, z, true⟩)) (hn : n = us.length)
    (hbs : ∀ (j : Nat) (B : ABlk), bs[j]? = some (some B) → B.own = true ∧ ∀ (i : Nat) (u : Value), B.cells[i]? = some u → closN 4 u = true)
    (hf : AllFrozen H) (hh : HandV H vs va) : Runs P f (va :: ex).toArray H (.slice (some ⟨H.size, 0, none⟩) us.length us.length) (H ++ #[some ⟨us.toArray, e, z, true⟩]) := by
  have h1 := reloc_v (H := H) (va := va) (v := .slice (some ⟨H.size + k, 0, none⟩) n c) hcl hex hr (fun b => by
    have : relB (heapV t vs).size H.size (fun _ => b) ((heapV t vs).size + k) = H.size + k := by
      unfold relB
      rw [if_neg (by omega)]
      omega
    have g := RelV.slice (τ := relB (heapV t vs).size H.size (fun _ => b)) ((heapV t vs).size + k) 0 n c
    rw [this] at g
    exact g) hbs hh
  subst hn
  exact Runs.keep1 hf h1 hk (fun j u hu => hus u (List.mem_of_getElem? (by simpa using hu)))

end Go.Proofs.Ytpmdpbljgidllaa

/-!  A contract that is proved in a memory of few blocks, that may hold slices of one another, holds in a memory of more. -/
namespace Go.Proofs.Ytpmdpbljgidllaa
open Go
set_option linter.unusedVariables false
set_option maxRecDepth 100000

/-- A value there, and here: plain; or a slice of a block. -/
inductive BackV (n : Nat) (σ : Nat → Nat) : Value → Value → Prop
  | clos {v : Value} (h : closN 4 v = true) : BackV n σ v v
  | slice (b off k c : Nat) (h : b < n) : BackV n σ (.slice (some ⟨b, off, none⟩) k c) (.slice (some ⟨σ b, off, none⟩) k c)
  | agg {xs ys : Array Value} (hs : xs.size = ys.size) (h : ∀ i (h1 : i < xs.size) (h2 : i < ys.size), BackV n σ xs[i] ys[i]) : BackV n σ (.agg xs) (.agg ys)
theorem BackV.vr {n : Nat} {σ : Nat → Nat} {m mσ : Mp} {u0 u v : Value} (h : BackV n σ u0 u) (hg : ∀ i : Nat, i < n → mσ[i]? = m[σ i]?) (hv : VR m u v) : VR mσ u0 v := by
  induction h generalizing v with
  | clos h => exact hv.clos_any 4 _ _ h
  | slice b off k c h => exact vr_slice (hg b h).symm hv
  | agg hs h ih =>
    cases hv with
    | agg g1 g2 => exact .agg (hs.trans g1) fun i a b => ih i a (hs ▸ a) (g2 i (hs ▸ a) b)

theorem Runs.relocR {P : Program} {f : FuncId} {args0 args : Array Value} {H0 H bs0 bs : AHeap} {v0 v : Value} (σ : Nat → Nat)
    (h : Runs P f args0 H0 v0 (H0 ++ bs0))
    (hlt : ∀ i, i < H0.size → σ i < H.size) (hsome : ∀ i, i < H0.size → ∃ B0, H0[i]? = some (some B0))
    (hσ : ∀ (i : Nat) (B0 : ABlk), H0[i]? = some (some B0) → B0.own = false ∧ ∃ B, H[σ i]? = some (some B) ∧ B.cells.size = B0.cells.size ∧ ∀ (j : Nat) (u0 : Value), B0.cells[j]? = some u0 → ∃ u, B.cells[j]? = some u ∧ BackV H0.size σ u0 u)
    (hargs : ∀ (m mσ : Mp) (r : Array Value), (∀ i : Nat, i < H0.size → mσ[i]? = m[σ i]?) → VRs m args r → VRs mσ args0 r)
    (hv : RelV (relB H0.size H.size σ) v0 v)
    (hsz : bs.size = bs0.size)
    (hbs : ∀ (j : Nat) (B' : ABlk), bs[j]? = some (some B') → ∃ B, bs0[j]? = some (some B) ∧ B.own = true ∧ B'.own = true ∧ B'.elem = B.elem ∧ B'.esz = B.esz ∧ B'.cells.size = B.cells.size ∧
      ∀ (i : Nat) (u : Value), B'.cells[i]? = some u → ∃ u0, B.cells[i]? = some u0 ∧ RelV (relB H0.size H.size σ) u0 u) :
    Runs P f args H v (H ++ bs) := by
  intro m w args' hr hargs'
  have hms : m.size = H.size := hr.size
  let mσ : Mp := Array.ofFn (n := H0.size) fun i => m[σ i.1]'(by rw [hms]; exact hlt i.1 i.2)
  have hσs : mσ.size = H0.size := by simp [mσ]
  have hget : ∀ i : Nat, i < H0.size → mσ[i]? = m[σ i]? := by
    intro i hi
    have h1 : σ i < m.size := by rw [hms]; exact hlt i hi
    rw [Array.getElem?_eq_getElem (by rw [hσs]; exact hi), Array.getElem?_eq_getElem h1]
    simp [mσ]
  have hr0 : HR H0 mσ w := by
    refine ⟨hσs, ?_, ?_, ?_⟩
    · intro b l hl hv9
      have hb : b < H0.size := by
        have := (Array.getElem?_eq_some_iff.1 hl).1
        rw [hσs] at this; exact this
      rw [hget b hb] at hl
      exact hr.old _ _ hl hv9
    · intro b B0 hB
      obtain ⟨ho, B, hB2, hsz, hcells⟩ := hσ b B0 hB
      obtain ⟨l, cs, fr, hl, br⟩ := hr.blk _ B hB2
      have hb : b < H0.size := (Array.getElem?_eq_some_iff.1 hB).1
      refine ⟨l, cs, fr, by rw [hget b hb]; exact hl, br.real, br.size, (by intro h; rw [ho] at h; cases h), (by intro h; rw [ho] at h; cases h), by rw [← hsz]; exact br.fits, ?_, br.live⟩
      intro i u hu
      obtain ⟨u1, hu1, hback⟩ := hcells i u hu
      obtain ⟨u', h1, h2⟩ := br.vals i u1 hu1
      exact ⟨u', h1, hback.vr hget h2⟩
    · intro b b' B B' l l' hB _ _ _ hown _
      have := (hσ b B hB).1
      rw [this] at hown
      cases hown
  have hnofp : ∀ g, ¬ FP H0 mσ g := by
    rintro g ⟨b, B, l, hb, ho, _⟩
    have := (hσ b B hb).1
    rw [this] at ho
    cases ho
  obtain ⟨h1, h2⟩ := h mσ w args' hr0 (hargs m mσ args' hget hargs')
  refine ⟨h1, h2.mono ?_⟩
  rintro e w' ⟨v', m1, he, hv1, hr1, st⟩
  have hk : ∀ g, g < w.heap.size → w'.heap[g]? = w.heap[g]? := fun g hg => st.keep g hg (hnofp g)
  have hm1 : m1.size = H0.size + bs0.size := by rw [hr1.size]; simp
  let m2 : Mp := m ++ (m1.toList.drop H0.size).toArray
  have hm2 : m2.size = H.size + bs0.size := by simp [m2, hms, hm1]
  have hold : ∀ (b : Nat) (l : Loc), m[b]? = some l → m2[b]? = some l := by
    intro b l hl
    have := (Array.getElem?_eq_some_iff.1 hl).1
    simp only [m2]
    rw [Array.getElem?_append_left this]
    exact hl
  have hold' : ∀ b : Nat, b < H.size → m2[b]? = m[b]? := by
    intro b hb
    simp only [m2]
    rw [Array.getElem?_append_left (by rw [hms]; exact hb)]
  have hnew : ∀ j : Nat, m2[H.size + j]? = m1[H0.size + j]? := by
    intro j
    simp only [m2]
    rw [Array.getElem?_append_right (by rw [hms]; omega)]
    simp [hms, List.getElem?_drop]
  have hτ : ∀ (b : Nat) (l : Loc), m1[b]? = some l → l.live = true → m2[relB H0.size H.size σ b]? = some l := by
    intro b l hl _
    unfold relB
    by_cases hb : b < H0.size
    · rw [if_pos hb]
      have h3 : m[σ b]? = some (m[σ b]'(by rw [hms]; exact hlt b hb)) := Array.getElem?_eq_getElem _
      have hlv : (m[σ b]'(by rw [hms]; exact hlt b hb)).live = true := by
        obtain ⟨B0, hB0⟩ := hsome b hb
        obtain ⟨_, B9, hB9, _⟩ := hσ b B0 hB0
        obtain ⟨l9, _, _, hl9, r9⟩ := hr.blk _ B9 hB9
        rw [h3] at hl9
        injection hl9 with e9
        rw [e9]
        exact r9.live
      have h4 := st.ext b _ ((hget b hb).trans h3)
      rw [hl] at h4
      rw [hold' _ (hlt b hb), h3, h4]
    · rw [if_neg hb, hnew, show H0.size + (b - H0.size) = b by omega]
      exact hl
  have hblk0 : ∀ j : Nat, (H0 ++ bs0)[H0.size + j]? = bs0[j]? := by
    intro j
    rw [Array.getElem?_append_right (by omega)]
    simp
  have hblk : ∀ j : Nat, (H ++ bs)[H.size + j]? = bs[j]? := by
    intro j
    rw [Array.getElem?_append_right (by omega)]
    simp
  have hblkl : ∀ b : Nat, b < H.size → (H ++ bs)[b]? = H[b]? := fun b hb => Array.getElem?_append_left hb
  have hfpn : ∀ (j : Nat) (B' : ABlk) (l : Loc), bs[j]? = some (some B') → m2[H.size + j]? = some l → w.heap.size ≤ l.blk := by
    intro j B' l hB hl
    obtain ⟨B, hB0, ho, _⟩ := hbs j B' hB
    rw [hnew] at hl
    exact (st.fp _ ⟨H0.size + j, B, l, by rw [hblk0]; exact hB0, ho, hl, rfl⟩).elim (fun h => absurd h (hnofp _)) id
  have hsplit : ∀ b : Nat, ¬ b < H.size → ∃ j, b = H.size + j := fun b hb => ⟨b - H.size, by omega⟩
  refine ⟨v', m2, he, hv.vr hτ hv1, ⟨?_, ?_, ?_, ?_⟩, ⟨hold, st.os, st.tape, st.output, st.size, fun g hg _ => hk g hg, ?_⟩⟩
  · rw [hm2, Array.size_append, hsz]
  · intro b l hl hv9
    by_cases hb : b < H.size
    · rw [hold' b hb] at hl
      exact Nat.lt_of_lt_of_le (hr.old b l hl hv9) st.size
    · obtain ⟨j, rfl⟩ := hsplit b hb
      rw [hnew] at hl
      exact hr1.old _ l hl hv9
  · intro b B hB
    by_cases hb : b < H.size
    · rw [hblkl b hb] at hB
      obtain ⟨l, cs, fr, hl, r⟩ := hr.blk b B hB
      exact ⟨l, cs, fr, hold b l hl, r.mono hold (hk _ (hr.old b l hl r.live))⟩
    · obtain ⟨j, rfl⟩ := hsplit b hb
      rw [hblk] at hB
      obtain ⟨B0, hB0, ho, ho', hel, hes, hcs, hcells⟩ := hbs j B hB
      obtain ⟨l, cs, fr, hl, r⟩ := hr1.blk (H0.size + j) B0 (by rw [hblk0]; exact hB0)
      refine ⟨l, cs, fr, by rw [hnew]; exact hl, r.real, r.size, fun _ => r.own ho, fun _ => by rw [hel, hes]; exact r.mine ho, by rw [hcs]; exact r.fits, ?_, r.live⟩
      intro i u hu
      obtain ⟨u0, g1, g2⟩ := hcells i u hu
      obtain ⟨u', g3, g4⟩ := r.vals i u0 g1
      exact ⟨u', g3, g2.vr hτ g4⟩
  · intro b b' B B' l l' hB hB' hl hl' ho heq
    by_cases hb : b < H.size
    · rw [hblkl b hb] at hB
      rw [hold' b hb] at hl
      by_cases hb' : b' < H.size
      · rw [hblkl b' hb'] at hB'
        rw [hold' b' hb'] at hl'
        exact hr.inj b b' B B' l l' hB hB' hl hl' ho heq
      · obtain ⟨j, rfl⟩ := hsplit b' hb'
        rw [hblk] at hB'
        have h3 := hfpn j B' l' hB' hl'
        have h4 := hr.oldB hB hl
        omega
    · obtain ⟨j, rfl⟩ := hsplit b hb
      rw [hblk] at hB
      have h3 := hfpn j B l hB hl
      by_cases hb' : b' < H.size
      · rw [hold' b' hb'] at hl'
        have h4 := hr.oldB (by rw [hblkl b' hb'] at hB'; exact hB') hl'
        omega
      · obtain ⟨j', rfl⟩ := hsplit b' hb'
        rw [hblk] at hB'
        obtain ⟨B0, hB0, ho0, _⟩ := hbs j B hB
        obtain ⟨B1, hB1, ho1, _⟩ := hbs j' B' hB'
        rw [hnew] at hl hl'
        have := hr1.inj (H0.size + j) (H0.size + j') B0 B1 l l' (by rw [hblk0]; exact hB0) (by rw [hblk0]; exact hB1) hl hl' ho0 heq
        omega
  · rintro g ⟨b, B, l, hB, ho, hl, rfl⟩
    by_cases hb : b < H.size
    · rw [hblkl b hb] at hB
      rw [hold' b hb] at hl
      exact .inl ⟨b, B, l, hB, ho, hl, rfl⟩
    · obtain ⟨j, rfl⟩ := hsplit b hb
      rw [hblk] at hB
      exact .inr (hfpn j B l hB hl)


/-- A reader of a slice of slices. -/
theorem read_rows {P : Program} {f : FuncId} {H0 H bs : AHeap} {b k c : Nat} {v : Value} (σ : Nat → Nat) (h : Runs P f #[.slice (some ⟨b, 0, none⟩) k c] H0 v (H0 ++ bs)) (hf0 : AllFrozen H0) (hv : closN 4 v = true) (hb : b < H0.size)
    (hlt : ∀ i, i < H0.size → σ i < H.size) (hsome : ∀ i, i < H0.size → ∃ B0, H0[i]? = some (some B0))
    (hσ : ∀ (i : Nat) (B0 : ABlk), H0[i]? = some (some B0) → ∃ B, H[σ i]? = some (some B) ∧ B.cells.size = B0.cells.size ∧ ∀ (j : Nat) (u0 : Value), B0.cells[j]? = some u0 → ∃ u, B.cells[j]? = some u ∧ BackV H0.size σ u0 u) :
    Runs P f #[.slice (some ⟨σ b, 0, none⟩) k c] H v H := by
  have h0 := h.drop hf0 hv
  have h1 : Runs P f #[.slice (some ⟨b, 0, none⟩) k c] H0 v (H0 ++ #[]) := by rw [Array.append_empty]; exact h0
  have h2 := Runs.relocR (H := H) (bs := #[]) (v := v) (args := #[.slice (some ⟨σ b, 0, none⟩) k c]) σ h1 hlt hsome (fun i B0 hB => ⟨hf0 i B0 hB, hσ i B0 hB⟩) (by
    intro m mσ r hg hr
    have hl := hr.list
    obtain ⟨r⟩ := r
    cases hl with
    | cons g1 g2 => cases g2 with
      | nil => exact VRl.arr (.cons (vr_slice (hg b hb).symm g1) .nil)) (.clos hv) rfl (fun j B h => by simp at h)
  rw [Array.append_empty] at h2
  exact h2

end Go.Proofs.Ytpmdpbljgidllaa

/-!  Of what a function made only what its result reaches is kept, numbered anew: for results that are slices of slices. -/
namespace Go.Proofs.Ytpmdpbljgidllaa
open Go
set_option linter.unusedVariables false
set_option maxRecDepth 100000

/-- A value, its blocks numbered anew: the j-th that is kept was the κ j-th that was made. -/
inductive RenV (n : Nat) (κ : Nat → Nat) (m : Nat) : Value → Value → Prop
  | clos {v : Value} (h : closN 4 v = true) : RenV n κ m v v
  | slice (j off k c c' : Nat) (h : j < m) : RenV n κ m (.slice (some ⟨n + κ j, off, none⟩) k c) (.slice (some ⟨n + j, off, none⟩) k c')
  | agg {xs ys : Array Value} (hs : xs.size = ys.size) (h : ∀ i (h1 : i < xs.size) (h2 : i < ys.size), RenV n κ m xs[i] ys[i]) : RenV n κ m (.agg xs) (.agg ys)
theorem RenV.vr {n m : Nat} {κ : Nat → Nat} {m1 m2 : Mp} {u0 u v : Value} (h : RenV n κ m u0 u) (hg : ∀ j, j < m → m2[n + j]? = m1[n + κ j]?) (hv : VR m1 u0 v) : VR m2 u v := by
  induction h generalizing v with
  | clos h => exact hv.clos_any 4 _ _ h
  | slice j off k c c' h => exact vr_cap (c := c) (vr_slice (hg j h).symm hv)
  | agg hs h ih =>
    cases hv with
    | agg g1 g2 => exact .agg (hs ▸ g1) fun i a b => ih i (hs ▸ a) a (g2 i (hs ▸ a) b)

theorem Runs.keepR {P : Program} {f : FuncId} {args : Array Value} {H bs0 bs : AHeap} {v0 v : Value} (κ : Nat → Nat) (hf : AllFrozen H) (h : Runs P f args H v0 (H ++ bs0))
    (hκ : ∀ j, j < bs.size → ∃ B B', bs0[κ j]? = some (some B) ∧ bs[j]? = some (some B') ∧ B.own = true ∧ B'.own = true ∧ B'.elem = B.elem ∧ B'.esz = B.esz ∧ B'.cells.size = B.cells.size ∧
      ∀ (i : Nat) (u : Value), B'.cells[i]? = some u → ∃ u0, B.cells[i]? = some u0 ∧ RenV H.size κ bs.size u0 u)
    (hinj : ∀ i j, i < bs.size → j < bs.size → κ i = κ j → i = j) (hv : RenV H.size κ bs.size v0 v) : Runs P f args H v (H ++ bs) := by
  intro m w args' hr ha
  obtain ⟨h1, h2⟩ := h m w args' hr ha
  refine ⟨h1, h2.mono ?_⟩
  rintro e w' ⟨v', m1, he, hv1, hr1, st⟩
  have hms : m.size = H.size := hr.size
  have hm1 : m1.size = H.size + bs0.size := by rw [hr1.size]; simp
  have hblk0 : ∀ j : Nat, (H ++ bs0)[H.size + j]? = bs0[j]? := by
    intro j
    rw [Array.getElem?_append_right (by omega)]
    simp
  have hlt : ∀ j, j < bs.size → H.size + κ j < m1.size := by
    intro j hj
    obtain ⟨B, B', g1, _⟩ := hκ j hj
    have := (Array.getElem?_eq_some_iff.1 g1).1
    omega
  let nw : Array Loc := Array.ofFn (n := bs.size) fun j => m1[H.size + κ j.1]'(hlt j.1 j.2)
  have hnw : nw.size = bs.size := by simp [nw]
  let m2 : Mp := m ++ nw
  have gnew : ∀ j, j < bs.size → m2[H.size + j]? = m1[H.size + κ j]? := by
    intro j hj
    simp only [m2]
    rw [Array.getElem?_append_right (by omega), hms, Nat.add_sub_cancel_left, Array.getElem?_eq_getElem (by rw [hnw]; exact hj), Array.getElem?_eq_getElem (hlt j hj)]
    simp [nw]
  have gold : ∀ b, b < H.size → m2[b]? = m[b]? := fun b hb => Array.getElem?_append_left (by omega)
  have gext : ∀ (b : Nat) (l' : Loc), m[b]? = some l' → m2[b]? = some l' := by
    intro b l' hl'
    have := (Array.getElem?_eq_some_iff.1 hl').1
    rw [gold b (by omega)]; exact hl'
  have hsz : ∀ {b : Nat} {l' : Loc}, m2[b]? = some l' → b < H.size ∨ ∃ j, j < bs.size ∧ b = H.size + j := by
    intro b l' h
    have := (Array.getElem?_eq_some_iff.1 h).1
    simp only [m2, Array.size_append, hnw, hms] at this
    by_cases c : b < H.size
    · exact .inl c
    · exact .inr ⟨b - H.size, by omega, by omega⟩
  have Hold : ∀ b, b < H.size → (H ++ bs)[b]? = H[b]? := fun b hb => Array.getElem?_append_left hb
  have Hnew : ∀ j, (H ++ bs)[H.size + j]? = bs[j]? := by
    intro j
    rw [Array.getElem?_append_right (by omega)]
    simp
  have Hsz : ∀ {b : Nat} {X : Option ABlk}, (H ++ bs)[b]? = some X → b < H.size ∨ ∃ j, j < bs.size ∧ b = H.size + j := by
    intro b X h
    have := (Array.getElem?_eq_some_iff.1 h).1
    rw [Array.size_append] at this
    by_cases c : b < H.size
    · exact .inl c
    · exact .inr ⟨b - H.size, by omega, by omega⟩
  -- a block that is kept, and the real one
  have real : ∀ j, j < bs.size → ∃ B B' l cs fr, bs0[κ j]? = some (some B) ∧ bs[j]? = some (some B') ∧ m1[H.size + κ j]? = some l ∧ BR m1 w' B l cs fr ∧ B.own = true ∧ B'.own = true ∧ B'.elem = B.elem ∧ B'.esz = B.esz ∧ B'.cells.size = B.cells.size ∧
      ∀ (i : Nat) (u : Value), B'.cells[i]? = some u → ∃ u0, B.cells[i]? = some u0 ∧ RenV H.size κ bs.size u0 u := by
    intro j hj
    obtain ⟨B, B', g1, g2, g3, g4, g5, g6, g7, g8⟩ := hκ j hj
    obtain ⟨l, cs, fr, hl, br⟩ := hr1.blk (H.size + κ j) B (by rw [hblk0]; exact g1)
    exact ⟨B, B', l, cs, fr, g1, g2, hl, br, g3, g4, g5, g6, g7, g8⟩
  refine ⟨v', m2, he, hv.vr gnew hv1, ⟨?_, ?_, ?_, ?_⟩, ⟨gext, st.os, st.tape, st.output, st.size, st.keep, ?_⟩⟩
  · simp only [m2, Array.size_append, hnw, hms]
  · intro b l' hl' hlv
    rcases hsz hl' with hb | ⟨j, hj, rfl⟩
    · rw [gold b hb] at hl'
      exact Nat.lt_of_lt_of_le (hr.old b l' hl' hlv) st.size
    · rw [gnew j hj] at hl'
      exact hr1.old _ _ hl' hlv
  · intro b B1 hB1
    rcases Hsz hB1 with hb | ⟨j, hj, rfl⟩
    · rw [Hold b hb] at hB1
      obtain ⟨l', cs', fr', hl', r⟩ := hr.blk b B1 hB1
      exact ⟨l', cs', fr', gext b l' hl', r.mono gext (st.keep _ (hr.old b l' hl' r.live) (hf.nofp _))⟩
    · obtain ⟨B, B', l, cs, fr, g1, g2, hl, br, g3, g4, g5, g6, g7, g8⟩ := real j hj
      rw [Hnew, g2] at hB1
      injection hB1 with hB1
      injection hB1 with hB1
      subst hB1
      refine ⟨l, cs, fr, by rw [gnew j hj]; exact hl, br.real, br.size, fun _ => br.own g3, fun _ => by rw [g5, g6]; exact br.mine g3, by rw [g7]; exact br.fits, ?_, br.live⟩
      intro i u hu
      obtain ⟨u0, q1, q2⟩ := g8 i u hu
      obtain ⟨u', q3, q4⟩ := br.vals i u0 q1
      exact ⟨u', q3, q2.vr gnew q4⟩
  · intro b b' B1 B2 l1 l2 hB1 hB2 hl1 hl2 ho heq
    rcases Hsz hB1 with hb | ⟨j, hj, rfl⟩
    · rw [Hold b hb] at hB1
      rw [hf b B1 hB1] at ho
      cases ho
    · obtain ⟨B, B', l, cs, fr, g1, g2, hl, br, g3, _⟩ := real j hj
      rw [gnew j hj, hl] at hl1
      injection hl1 with hl1
      subst hl1
      have k1 : (H ++ bs0)[H.size + κ j]? = some (some B) := by rw [hblk0]; exact g1
      rcases Hsz hB2 with hb' | ⟨j', hj', rfl⟩
      · rw [Hold b' hb'] at hB2
        rw [gold b' hb'] at hl2
        have k2 : (H ++ bs0)[b']? = some (some B2) := by rw [Array.getElem?_append_left hb']; exact hB2
        have := hr1.inj _ _ _ _ _ _ k1 k2 hl (st.ext _ _ hl2) g3 heq
        omega
      · obtain ⟨C, C', l', cs', fr', c1, c2, cl, _⟩ := real j' hj'
        rw [gnew j' hj', cl] at hl2
        injection hl2 with hl2
        subst hl2
        have k2 : (H ++ bs0)[H.size + κ j']? = some (some C) := by rw [hblk0]; exact c1
        have := hr1.inj _ _ _ _ _ _ k1 k2 hl cl g3 heq
        rw [hinj j j' hj hj' (by omega)]
  · rintro g ⟨b, B1, l', hb, ho, hl', hg⟩
    rcases Hsz hb with h5 | ⟨j, hj, rfl⟩
    · rw [Hold b h5] at hb
      rw [hf b B1 hb] at ho
      cases ho
    · obtain ⟨B, B', l, cs, fr, g1, g2, hl, br, g3, _⟩ := real j hj
      rw [gnew j hj, hl] at hl'
      injection hl' with hl'
      subst hl'
      exact st.fp g ⟨_, B, l, by rw [hblk0]; exact g1, g3, hl, hg⟩

end Go.Proofs.Ytpmdpbljgidllaa

/-!  A contract that was proved in a memory of its own, moved into another one: blocks of plain cells, results of new blocks. -/
namespace Go.Proofs.Ytpmdpbljgidllaa
open Go
set_option linter.unusedVariables false
set_option maxRecDepth 100000

def PlainB (B : ABlk) : Prop := ∀ (i : Nat) (u : Value), B.cells[i]? = some u → closN 4 u = true
/-- An argument there, and here. -/
def BackA (n : Nat) (σ : Nat → Nat) (u0 u : Value) : Prop := BackV n σ u0 u ∨ (u0 = .slice none 0 1 ∧ (u = .slice none 0 1 ∨ u = .slice none 0 0))
theorem BackA.vr {n : Nat} {σ : Nat → Nat} {m mσ : Mp} {u0 u v : Value} (h : BackA n σ u0 u) (hg : ∀ i : Nat, i < n → mσ[i]? = m[σ i]?) (hv : VR m u v) : VR mσ u0 v := by
  rcases h with h | ⟨rfl, rfl | rfl⟩
  · exact h.vr hg hv
  · cases hv; exact .loose _ _
  · cases hv; exact .loose _ _

theorem Runs.move {P : Program} {f : FuncId} {args0 args : Array Value} {H0 H bs : AHeap} {v0 v : Value} (σ : Nat → Nat) (h : Runs P f args0 H0 v0 (H0 ++ bs))
    (hsome : ∀ i, i < H0.size → ∃ B0, H0[i]? = some (some B0))
    (hH : ∀ (i : Nat) (B0 : ABlk), H0[i]? = some (some B0) → B0.own = false ∧ PlainB B0 ∧ ∃ B, H[σ i]? = some (some B) ∧ B.cells = B0.cells)
    (hsz : args0.size = args.size) (hargs : ∀ (i : Nat) (h1 : i < args0.size) (h2 : i < args.size), BackA H0.size σ args0[i] args[i])
    (hv : RelV (relB H0.size H.size σ) v0 v) (hbs : ∀ (j : Nat) (B : ABlk), bs[j]? = some (some B) → B.own = true ∧ PlainB B) : Runs P f args H v (H ++ bs) := by
  refine Runs.relocR σ h ?_ hsome ?_ ?_ hv rfl ?_
  · intro i hi
    obtain ⟨B0, h0⟩ := hsome i hi
    obtain ⟨_, _, B, hB, _⟩ := hH i B0 h0
    exact (Array.getElem?_eq_some_iff.1 hB).1
  · intro i B0 h0
    obtain ⟨h1, h2, B, hB, hc⟩ := hH i B0 h0
    refine ⟨h1, B, hB, by rw [hc], fun j u0 hu => ⟨u0, by rw [hc]; exact hu, .clos (h2 j u0 hu)⟩⟩
  · intro m mσ r hg hr
    exact ⟨hsz.trans hr.1, fun i h1 h2 => (hargs i h1 (hsz ▸ h1)).vr hg (hr.2 i (hsz ▸ h1) h2)⟩
  · intro j B hB
    obtain ⟨h1, h2⟩ := hbs j B hB
    exact ⟨B, hB, h1, h1, rfl, rfl, rfl, fun i u hu => ⟨u, hu, .clos (h2 i u hu)⟩⟩

/-- A reader. -/
theorem Runs.moveR {P : Program} {f : FuncId} {args0 args : Array Value} {H0 H bs : AHeap} {v : Value} (σ : Nat → Nat) (h : Runs P f args0 H0 v (H0 ++ bs)) (hv : closN 4 v = true)
    (hsome : ∀ i, i < H0.size → ∃ B0, H0[i]? = some (some B0))
    (hH : ∀ (i : Nat) (B0 : ABlk), H0[i]? = some (some B0) → B0.own = false ∧ PlainB B0 ∧ ∃ B, H[σ i]? = some (some B) ∧ B.cells = B0.cells)
    (hsz : args0.size = args.size) (hargs : ∀ (i : Nat) (h1 : i < args0.size) (h2 : i < args.size), BackA H0.size σ args0[i] args[i]) : Runs P f args H v H := by
  have hf : AllFrozen H0 := fun b B hB => (hH b B hB).1
  have h1 := h.drop hf hv
  have h2 : Runs P f args0 H0 v (H0 ++ #[]) := by rw [Array.append_empty]; exact h1
  have h3 := h2.move (H := H) (args := args) (v := v) σ hsome hH hsz hargs (.clos hv) (fun j B hB => by simp at hB)
  rw [Array.append_empty] at h3
  exact h3

theorem plain_flat {α : Type} {f : α → List Value} (hf : ∀ a, ∀ u ∈ f a, closN 4 u = true) (l : List α) (t : TypeId) (z : Nat) (o : Bool) : PlainB ⟨(l.flatMap f).toArray, t, z, o⟩ := by
  intro i u hu
  have : u ∈ l.flatMap f := List.mem_of_getElem? (by simpa using hu)
  obtain ⟨a, _, h⟩ := List.mem_flatMap.1 this
  exact hf a u h

end Go.Proofs.Ytpmdpbljgidllaa

/-!  Two slices of ints that are handed in: how they stand here, and how a law's contract becomes its walk. -/
namespace Go.Proofs.Ytpmdpbljgidllaa
open Go
open Go.RowKit
set_option linter.unusedVariables false

def iBlk (zs : List Int) : ABlk := ⟨(zs.map (Value.int .i64)).toArray, 3, 1, false⟩

theorem slice_key {w : World} {a : Option Addr} {len cap : Nat} {z : List Int}
    (hz : (a = none ∧ len = 0 ∧ cap = 0 ∧ z = []) ∨ ∃ x, a = some x ∧ len ≤ cap ∧ cap ≤ maxLen ∧ z.length = cap ∧ (∀ i, i < z.length → w.cell? (x.add i) = some (.int .i64 (z.getD i 0))) ∧ ∀ n ∈ z, (Lit.int .i64 n).wf = true) :
    (z.take len = [] ∧ ∀ m : Mp, VR m (.slice none 0 1) (.slice a len cap)) ∨
    (z.take len ≠ [] ∧ ∃ l cs fr, l.blk < w.heap.size ∧ (∀ m : Mp, BR m w (iBlk (z.take len)) l cs fr) ∧
      ∀ (m : Mp) (b : Nat), m[b]? = some l → VR m (.slice (some ⟨b, 0, none⟩) (z.take len).length (z.take len).length) (.slice a len cap)) := by
  rcases hz with ⟨rfl, rfl, rfl, rfl⟩ | ⟨x, rfl, hl, hm, hzl, hc, _⟩
  · exact .inl ⟨rfl, fun m => .loose _ _⟩
  · have htl : (z.take len).length = len := by rw [List.length_take]; omega
    have hget : ∀ i, i < len → (z.take len)[i]? = some (z.getD i 0) := by
      intro i hi
      rw [List.getElem?_take_of_lt hi, List.getD_eq_getElem?_getD, List.getElem?_eq_getElem (by omega)]
      rfl
    by_cases hlen : len = 0
    · subst hlen
      exact .inl ⟨by simp, fun m => .loose _ _⟩
    · refine .inr ⟨fun he => by rw [he] at htl; simp at htl; omega, ?_⟩
      have h0 := hc 0 (by omega)
      have hx0 : x.add 0 = x := by simp [Addr.add]
      rw [hx0] at h0
      obtain ⟨c, e, fr, h1, h2, h3⟩ := cell_open h0
      have hci : ∀ i, i < len → c[x.off + i]? = some (.int .i64 (z.getD i 0)) := by
        intro i hi
        by_cases hi0 : i = 0
        · subst hi0; simpa using h3
        · obtain ⟨c2, e2, fr2, g1, g2, g3⟩ := cell_open (hc i (by omega))
          have hb : (x.add i).block = x.block := by simp [Addr.add, hi0]
          have ho : (x.add i).off = x.off + i := by simp [Addr.add, hi0]
          rw [hb, h1] at g1
          cases g1
          rw [ho] at g3
          exact g3
      have hxx : x = ⟨x.block, x.off, none⟩ := by cases x; simp at h2; simp [h2]
      refine ⟨⟨x.block, x.off, c.size, 1, false, e, true⟩, c, fr, (Array.getElem?_eq_some_iff.1 h1).1, fun m => ⟨h1, rfl, (by intro h; cases h), (by intro h; cases h), ?_, ?_, rfl⟩, ?_⟩
      · have := hci (len - 1) (by omega)
        have := (Array.getElem?_eq_some_iff.1 this).1
        simp only [iBlk, List.size_toArray, List.length_map, htl]
        omega
      · intro i v hv
        have hi : i < len := by
          have := (Array.getElem?_eq_some_iff.1 hv).1
          simp only [iBlk, List.size_toArray, List.length_map, htl] at this
          exact this
        have h5 := hget i hi
        have hv' : v = .int .i64 (z.getD i 0) := by
          have h6 : ((z.take len).map (Value.int .i64))[i]? = some (.int .i64 (z.getD i 0)) := by rw [List.getElem?_map, h5]; rfl
          have h7 : ((z.take len).map (Value.int .i64))[i]? = some v := by simpa [iBlk] using hv
          rw [h6] at h7
          injection h7 with h7
          exact h7.symm
        subst hv'
        exact ⟨_, hci i hi, .int _ _⟩
      · intro m b hb
        rw [htl, hxx]
        refine .slice (a' := ⟨x.block, x.off, none⟩) ?_ hl fun l hl ho _ => ?_
        · unfold tr
          simp only
          rw [hb]
          rfl
        · rw [hb] at hl
          injection hl with hl
          subst hl
          cases ho

theorem walk_fin {f : FuncId} {H : AHeap} {m : Mp} {w : World} {A R : Array Value} (hr : HR H m w) (hro : ∀ (b : Nat) (B : ABlk), H[b]? = some (some B) → B.own = false) (hv : VRs m A R) (h : Tells f A H (.bool true)) :
    Calls Try.prog f R w fun e w' => e = .returned (.bool true) ∧ Below w.heap.size w w' := by
  obtain ⟨H', h⟩ := h
  obtain ⟨_, h2⟩ := h m w _ hr hv
  refine h2.mono ?_
  rintro e w' ⟨v', m', he, hv', _, hs⟩
  cases hv'
  refine ⟨he, hs.os, hs.tape, hs.output, hs.size, fun g hg => hs.keep g hg ?_⟩
  rintro ⟨b, B, l, hb, hown, _⟩
  rw [hro b B hb] at hown
  cases hown

theorem hr_of {w : World} {bs : List ABlk} {ls : List Loc} (hl : ls.length = bs.length) (hlt : ∀ l ∈ ls, l.blk < w.heap.size)
    (hb : ∀ (i : Nat) (B : ABlk) (l : Loc), bs[i]? = some B → ls[i]? = some l → B.own = false ∧ ∃ cs fr, ∀ m : Mp, BR m w B l cs fr) : HR (bs.map some).toArray ls.toArray w := by
  refine ⟨by simp [hl], ?_, ?_, ?_⟩
  · intro b l h
    exact fun _ => hlt l (List.mem_of_getElem? (by simpa using h))
  · intro b B h
    have h1 : bs[b]? = some B := by simpa using h
    have h2 : b < ls.length := by rw [hl]; exact (List.getElem?_eq_some_iff.1 h1).1
    obtain ⟨_, cs, fr, h3⟩ := hb b B ls[b] h1 (List.getElem?_eq_getElem h2)
    exact ⟨ls[b], cs, fr, by simp [h2], h3 _⟩
  · intro b b' B B' l l' h _ h3 _ ho _
    have h1 : bs[b]? = some B := by simpa using h
    have := (hb b B l h1 (by simpa using h3)).1
    rw [this] at ho
    cases ho

theorem walk_two {f : FuncId} (mk : Value → Value → Array Value) (hmk : ∀ m v v' u u', VR m v v' → VR m u u' → VRs m (mk v u) (mk v' u')) {w : World} {a a2 : Option Addr} {len cap len2 cap2 : Nat} {z z2 : List Int}
    (hz : (a = none ∧ len = 0 ∧ cap = 0 ∧ z = []) ∨ ∃ x, a = some x ∧ len ≤ cap ∧ cap ≤ maxLen ∧ z.length = cap ∧ (∀ i, i < z.length → w.cell? (x.add i) = some (.int .i64 (z.getD i 0))) ∧ ∀ n ∈ z, (Lit.int .i64 n).wf = true)
    (hz2 : (a2 = none ∧ len2 = 0 ∧ cap2 = 0 ∧ z2 = []) ∨ ∃ x, a2 = some x ∧ len2 ≤ cap2 ∧ cap2 ≤ maxLen ∧ z2.length = cap2 ∧ (∀ i, i < z2.length → w.cell? (x.add i) = some (.int .i64 (z2.getD i 0))) ∧ ∀ n ∈ z2, (Lit.int .i64 n).wf = true)
    (h : ∀ (H : AHeap) (va vb : Value), H.size ≤ 2 → Handed H (z.take len) va → Handed H (z2.take len2) vb → Tells f (mk va vb) H (.bool true)) :
    Calls Try.prog f (mk (.slice a len cap) (.slice a2 len2 cap2)) w fun e w' => e = .returned (.bool true) ∧ Below w.heap.size w w' := by
  rcases slice_key hz with ⟨e1, v1⟩ | ⟨n1, l1, c1, fr1, lt1, br1, v1⟩ <;> rcases slice_key hz2 with ⟨e2, v2⟩ | ⟨n2, l2, c2, fr2, lt2, br2, v2⟩
  · exact walk_fin (H := #[]) (m := #[]) (.empty w) (fun b B hb => by simp at hb) (hmk _ _ _ _ _ (v1 _) (v2 _)) (h #[] _ _ (by simp) (.inl ⟨e1, rfl⟩) (.inl ⟨e2, rfl⟩))
  · refine walk_fin (H := ([iBlk (z2.take len2)].map some).toArray) (m := [l2].toArray) (hr_of rfl (by simpa using lt2) ?_) ?_ (hmk _ _ _ _ _ (v1 _) (v2 _ 0 rfl)) (h _ _ _ (by simp) (.inl ⟨e1, rfl⟩) (.inr ⟨0, _, n2, rfl, rfl, rfl⟩))
    · intro i B l hB hl
      match i, hB, hl with
      | 0, hB, hl => cases hB; cases hl; exact ⟨rfl, c2, fr2, br2⟩
    · intro b B hb
      match b, hb with
      | 0, hb => cases hb; rfl
  · refine walk_fin (H := ([iBlk (z.take len)].map some).toArray) (m := [l1].toArray) (hr_of rfl (by simpa using lt1) ?_) ?_ (hmk _ _ _ _ _ (v1 _ 0 rfl) (v2 _)) (h _ _ _ (by simp) (.inr ⟨0, _, n1, rfl, rfl, rfl⟩) (.inl ⟨e2, rfl⟩))
    · intro i B l hB hl
      match i, hB, hl with
      | 0, hB, hl => cases hB; cases hl; exact ⟨rfl, c1, fr1, br1⟩
    · intro b B hb
      match b, hb with
      | 0, hb => cases hb; rfl
  · refine walk_fin (H := ([iBlk (z.take len), iBlk (z2.take len2)].map some).toArray) (m := [l1, l2].toArray) (hr_of rfl (by simp [lt1, lt2]) ?_) ?_ (hmk _ _ _ _ _ (v1 _ 0 rfl) (v2 _ 1 rfl)) (h _ _ _ (by simp) (.inr ⟨0, _, n1, rfl, rfl, rfl⟩) (.inr ⟨1, _, n2, rfl, rfl, rfl⟩))
    · intro i B l hB hl
      match i, hB, hl with
      | 0, hB, hl => cases hB; cases hl; exact ⟨rfl, c1, fr1, br1⟩
      | 1, hB, hl => cases hB; cases hl; exact ⟨rfl, c2, fr2, br2⟩
    · intro b B hb
      match b, hb with
      | 0, hb => cases hb; rfl
      | 1, hb => cases hb; rfl

end Go.Proofs.Ytpmdpbljgidllaa

/-!  Slices of ints that are handed in, each with a place of its own, be it nothing: how a law's contract becomes its walk. -/
namespace Go.Proofs.Ytpmdpbljgidllaa
open Go
open Go.RowKit
set_option linter.unusedVariables false

abbrev SlG (w : World) (a : Option Addr) (len cap : Nat) (z : List Int) : Prop :=
  (a = none ∧ len = 0 ∧ cap = 0 ∧ z = []) ∨ ∃ x, a = some x ∧ len ≤ cap ∧ cap ≤ maxLen ∧ z.length = cap ∧ (∀ i, i < z.length → w.cell? (x.add i) = some (.int .i64 (z.getD i 0))) ∧ ∀ n ∈ z, (Lit.int .i64 n).wf = true
/-- A place for it. -/
structure PadOK (w : World) (ob : Option ABlk) (l : Loc) : Prop where
  old : l.live = true → l.blk < w.heap.size
  blk : ∀ B, ob = some B → B.own = false ∧ ∃ cs fr, ∀ m : Mp, BR m w B l cs fr

/-- A block of plain values, if there is one. -/
def PlO (ob : Option ABlk) : Prop := ∀ B, ob = some B → ∀ (i : Nat) (v : Value), B.cells[i]? = some v → closN 4 v = true
theorem iBlk_pl (zs : List Int) : PlO (some (iBlk zs)) := by
  intro B hB i v hv
  injection hB with hB
  subst hB
  have h : v ∈ zs.map (Value.int .i64) := List.mem_of_getElem? (by simpa [iBlk] using hv)
  obtain ⟨a, _, rfl⟩ := List.mem_map.1 h
  rfl
theorem slice_pad {w : World} {a : Option Addr} {len cap : Nat} {z : List Int} (hz : SlG w a len cap z) : ∃ (ob : Option ABlk) (l : Loc), PadOK w ob l ∧ PlO ob ∧
    ∀ i : Nat, ∃ va, (∀ m : Mp, m[i]? = some l → VR m va (.slice a len cap)) ∧ ∀ H : AHeap, H[i]? = some ob → Handed H (z.take len) va := by
  rcases slice_key hz with ⟨e1, v1⟩ | ⟨n1, l1, c1, fr1, lt1, br1, v1⟩
  · exact ⟨none, deadLoc, ⟨(fun h => by cases h), (fun B h => by cases h)⟩, (fun B h => by cases h), fun i => ⟨_, fun m _ => v1 m, fun H _ => .inl ⟨e1, rfl⟩⟩⟩
  · refine ⟨some (iBlk (z.take len)), l1, ⟨fun _ => lt1, fun B h => ?_⟩, iBlk_pl _, fun i => ⟨_, fun m hm => v1 m i hm, fun H hH => .inr ⟨i, _, n1, rfl, hH, rfl⟩⟩⟩
    injection h with h
    subst h
    exact ⟨rfl, c1, fr1, br1⟩

theorem hr_pad {w : World} {obs : List (Option ABlk)} {ls : List Loc} (hl : ls.length = obs.length) (h : ∀ (i : Nat) (ob : Option ABlk) (l : Loc), obs[i]? = some ob → ls[i]? = some l → PadOK w ob l) : HR obs.toArray ls.toArray w := by
  have get : ∀ {i : Nat} {l : Loc}, ls[i]? = some l → ∃ ob, obs[i]? = some ob := by
    intro i l h
    have : i < obs.length := by rw [← hl]; exact (List.getElem?_eq_some_iff.1 h).1
    exact ⟨_, List.getElem?_eq_getElem this⟩
  refine ⟨by simp [hl], ?_, ?_, ?_⟩
  · intro b l hb
    have h1 : ls[b]? = some l := by simpa using hb
    obtain ⟨ob, h2⟩ := get h1
    exact (h b ob l h2 h1).old
  · intro b B hb
    have h1 : obs[b]? = some (some B) := by simpa using hb
    have h2 : b < ls.length := by rw [hl]; exact (List.getElem?_eq_some_iff.1 h1).1
    obtain ⟨_, cs, fr, h3⟩ := (h b _ ls[b] h1 (List.getElem?_eq_getElem h2)).blk B rfl
    exact ⟨ls[b], cs, fr, by simp [h2], h3 _⟩
  · intro b b' B B' l l' hb _ h3 _ ho _
    have h1 : obs[b]? = some (some B) := by simpa using hb
    have := ((h b _ l h1 (by simpa using h3)).blk B rfl).1
    rw [this] at ho
    cases ho

theorem frozen_pad {w : World} {obs : List (Option ABlk)} {ls : List Loc} (hl : ls.length = obs.length) (h : ∀ (i : Nat) (ob : Option ABlk) (l : Loc), obs[i]? = some ob → ls[i]? = some l → PadOK w ob l) : ∀ (b : Nat) (B : ABlk), obs.toArray[b]? = some (some B) → B.own = false := by
  intro b B hb
  have h1 : obs[b]? = some (some B) := by simpa using hb
  have h2 : b < ls.length := by rw [hl]; exact (List.getElem?_eq_some_iff.1 h1).1
  exact ((h b _ ls[b] h1 (List.getElem?_eq_getElem h2)).blk B rfl).1

theorem walk1p {f : FuncId} (mk : Value → Array Value) (hmk : ∀ m v v', VR m v v' → VRs m (mk v) (mk v')) {w : World} {a : Option Addr} {len cap : Nat} {z : List Int} (hz : SlG w a len cap z)
    (h : ∀ (o : Option ABlk) (va : Value), PlO o → Handed #[o] (z.take len) va → Tells f (mk va) #[o] (.bool true)) :
    Calls Try.prog f (mk (.slice a len cap)) w fun e w' => e = .returned (.bool true) ∧ Below w.heap.size w w' := by
  obtain ⟨o1, l1, p1, q1', g1⟩ := slice_pad hz
  obtain ⟨v1, r1, s1⟩ := g1 0
  have hp : ∀ (i : Nat) (ob : Option ABlk) (l : Loc), [o1][i]? = some ob → [l1][i]? = some l → PadOK w ob l := by
    intro i ob l hi hl
    match i, hi, hl with
    | 0, hi, hl => cases hi; cases hl; exact p1
  exact walk_fin (H := [o1].toArray) (m := [l1].toArray) (hr_pad rfl hp) (frozen_pad rfl hp) (hmk _ _ _ (r1 _ rfl)) (h o1 v1 q1' (s1 _ rfl))

theorem walk2p {f : FuncId} (mk : Value → Value → Array Value) (hmk : ∀ m v v' u u', VR m v v' → VR m u u' → VRs m (mk v u) (mk v' u')) {w : World} {a a2 : Option Addr} {len cap len2 cap2 : Nat} {z z2 : List Int} (hz : SlG w a len cap z) (hz2 : SlG w a2 len2 cap2 z2)
    (h : ∀ (o o2 : Option ABlk) (va vb : Value), PlO o → PlO o2 → Handed #[o, o2] (z.take len) va → Handed #[o, o2] (z2.take len2) vb → Tells f (mk va vb) #[o, o2] (.bool true)) :
    Calls Try.prog f (mk (.slice a len cap) (.slice a2 len2 cap2)) w fun e w' => e = .returned (.bool true) ∧ Below w.heap.size w w' := by
  obtain ⟨o1, l1, p1, q1', g1⟩ := slice_pad hz
  obtain ⟨o2, l2, p2, q2', g2⟩ := slice_pad hz2
  obtain ⟨v1, r1, s1⟩ := g1 0
  obtain ⟨v2, r2, s2⟩ := g2 1
  have hp : ∀ (i : Nat) (ob : Option ABlk) (l : Loc), [o1, o2][i]? = some ob → [l1, l2][i]? = some l → PadOK w ob l := by
    intro i ob l hi hl
    match i, hi, hl with
    | 0, hi, hl => cases hi; cases hl; exact p1
    | 1, hi, hl => cases hi; cases hl; exact p2
  exact walk_fin (H := [o1, o2].toArray) (m := [l1, l2].toArray) (hr_pad rfl hp) (frozen_pad rfl hp) (hmk _ _ _ _ _ (r1 _ rfl) (r2 _ rfl)) (h o1 o2 v1 v2 q1' q2' (s1 _ rfl) (s2 _ rfl))

theorem walk3p {f : FuncId} (mk : Value → Value → Value → Array Value) (hmk : ∀ m v v' u u' x x', VR m v v' → VR m u u' → VR m x x' → VRs m (mk v u x) (mk v' u' x')) {w : World} {a a2 a3 : Option Addr} {len cap len2 cap2 len3 cap3 : Nat} {z z2 z3 : List Int} (hz : SlG w a len cap z) (hz2 : SlG w a2 len2 cap2 z2) (hz3 : SlG w a3 len3 cap3 z3)
    (h : ∀ (o o2 o3 : Option ABlk) (va vb vc : Value), PlO o → PlO o2 → PlO o3 → Handed #[o, o2, o3] (z.take len) va → Handed #[o, o2, o3] (z2.take len2) vb → Handed #[o, o2, o3] (z3.take len3) vc → Tells f (mk va vb vc) #[o, o2, o3] (.bool true)) :
    Calls Try.prog f (mk (.slice a len cap) (.slice a2 len2 cap2) (.slice a3 len3 cap3)) w fun e w' => e = .returned (.bool true) ∧ Below w.heap.size w w' := by
  obtain ⟨o1, l1, p1, q1', g1⟩ := slice_pad hz
  obtain ⟨o2, l2, p2, q2', g2⟩ := slice_pad hz2
  obtain ⟨o3, l3, p3, q3', g3⟩ := slice_pad hz3
  obtain ⟨v1, r1, s1⟩ := g1 0
  obtain ⟨v2, r2, s2⟩ := g2 1
  obtain ⟨v3, r3, s3⟩ := g3 2
  have hp : ∀ (i : Nat) (ob : Option ABlk) (l : Loc), [o1, o2, o3][i]? = some ob → [l1, l2, l3][i]? = some l → PadOK w ob l := by
    intro i ob l hi hl
    match i, hi, hl with
    | 0, hi, hl => cases hi; cases hl; exact p1
    | 1, hi, hl => cases hi; cases hl; exact p2
    | 2, hi, hl => cases hi; cases hl; exact p3
  exact walk_fin (H := [o1, o2, o3].toArray) (m := [l1, l2, l3].toArray) (hr_pad rfl hp) (frozen_pad rfl hp) (hmk _ _ _ _ _ _ _ (r1 _ rfl) (r2 _ rfl) (r3 _ rfl)) (h o1 o2 o3 v1 v2 v3 q1' q2' q3' (s1 _ rfl) (s2 _ rfl) (s3 _ rfl))

theorem walk1 {f : FuncId} (mk : Value → Array Value) (hmk : ∀ m v v', VR m v v' → VRs m (mk v) (mk v')) {w : World} {a : Option Addr} {len cap : Nat} {z : List Int} (hz : SlG w a len cap z)
    (h : ∀ (o : Option ABlk) (va : Value), Handed #[o] (z.take len) va → Tells f (mk va) #[o] (.bool true)) :
    Calls Try.prog f (mk (.slice a len cap)) w fun e w' => e = .returned (.bool true) ∧ Below w.heap.size w w' :=
  walk1p mk hmk hz (fun o va _ => h o va)

theorem walk2 {f : FuncId} (mk : Value → Value → Array Value) (hmk : ∀ m v v' u u', VR m v v' → VR m u u' → VRs m (mk v u) (mk v' u')) {w : World} {a a2 : Option Addr} {len cap len2 cap2 : Nat} {z z2 : List Int} (hz : SlG w a len cap z) (hz2 : SlG w a2 len2 cap2 z2)
    (h : ∀ (o o2 : Option ABlk) (va vb : Value), Handed #[o, o2] (z.take len) va → Handed #[o, o2] (z2.take len2) vb → Tells f (mk va vb) #[o, o2] (.bool true)) :
    Calls Try.prog f (mk (.slice a len cap) (.slice a2 len2 cap2)) w fun e w' => e = .returned (.bool true) ∧ Below w.heap.size w w' :=
  walk2p mk hmk hz hz2 (fun o o2 va vb _ _ => h o o2 va vb)

theorem walk3 {f : FuncId} (mk : Value → Value → Value → Array Value) (hmk : ∀ m v v' u u' x x', VR m v v' → VR m u u' → VR m x x' → VRs m (mk v u x) (mk v' u' x')) {w : World} {a a2 a3 : Option Addr} {len cap len2 cap2 len3 cap3 : Nat} {z z2 z3 : List Int} (hz : SlG w a len cap z) (hz2 : SlG w a2 len2 cap2 z2) (hz3 : SlG w a3 len3 cap3 z3)
    (h : ∀ (o o2 o3 : Option ABlk) (va vb vc : Value), Handed #[o, o2, o3] (z.take len) va → Handed #[o, o2, o3] (z2.take len2) vb → Handed #[o, o2, o3] (z3.take len3) vc → Tells f (mk va vb vc) #[o, o2, o3] (.bool true)) :
    Calls Try.prog f (mk (.slice a len cap) (.slice a2 len2 cap2) (.slice a3 len3 cap3)) w fun e w' => e = .returned (.bool true) ∧ Below w.heap.size w w' :=
  walk3p mk hmk hz hz2 hz3 (fun o o2 o3 va vb vc _ _ _ => h o o2 o3 va vb vc)

end Go.Proofs.Ytpmdpbljgidllaa
