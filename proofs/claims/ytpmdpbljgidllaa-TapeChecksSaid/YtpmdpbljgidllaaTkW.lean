/- A tape that is handed in: how it stands here, and how the law's contract becomes its walk. -/
import Derived.Test.YtpmdpbljgidllaaLawTapeChecks
namespace Go.Proofs.Ytpmdpbljgidllaa
open Go
open Go.RowKit
set_option linter.unusedVariables false
set_option linter.unusedSimpArgs false
set_option maxRecDepth 100000

theorem nan_of {x : Nat} (hx : x < 18446744073709551616) (h : ¬ NN x) : isNan .f64 x = true := by
  have hr : 9218868437227405312 < x % 9223372036854775808 := by
    unfold NN ix at h
    by_cases hs : x < 9223372036854775808
    · rw [if_pos hs] at h; omega
    · rw [if_neg hs] at h; omega
  show (Ieee.double.read x).isNaN = true
  unfold Ieee.Format.read
  have e1 : Ieee.double.signWeight = 9223372036854775808 := by decide
  have e2 : Ieee.double.binade = 4503599627370496 := by decide
  have e3 : Ieee.double.infRung = 9218868437227405312 := by decide
  simp only [e1, e2, e3]
  rw [if_neg (by omega), if_neg (by omega), if_neg (by omega)]
  rfl
/-- The word that stands here for a float. -/
theorem can_ex {x : Nat} (hx : x < 18446744073709551616) : ∃ y, NaC y ∧ alikeF .f64 y x := by
  by_cases h : NN x
  · exact ⟨x, .inl h, .inl rfl⟩
  · exact ⟨nanW .f64, .inr (.inl rfl), .inr ⟨isNan_nanW .f64, nan_of hx h⟩⟩

/-- A slice in the world: so many cells to one. -/
def FlatG (w : World) (a : Option Addr) (len cap n : Nat) (cells : List Value) : Prop :=
  (a = none ∧ len = 0 ∧ cap = 0 ∧ cells = []) ∨ ∃ x, a = some x ∧ len ≤ cap ∧ cells.length = len * n ∧ ∀ (i : Nat) (v : Value), cells[i]? = some v → ∃ v', w.cell? (x.add i) = some v' ∧ ∀ m : Mp, VR m v v'
theorem flat_pad {w : World} {a : Option Addr} {len cap n : Nat} {cells : List Value} (hn : 0 < n) (hz : FlatG w a len cap n cells) (hcl : ∀ u ∈ cells, closN 4 u = true) : ∃ (ob : Option ABlk) (l : Loc), PadOK w ob l ∧ PlO ob ∧
    ∀ i : Nat, ∃ a' ca', (∀ m : Mp, m[i]? = some l → VR m (.slice a' len ca') (.slice a len cap)) ∧ ∀ L : List (Option ABlk), L[i]? = some ob → PartT L (.slice a' len ca') cells len i := by
  have none_ : cells = [] → len = 0 → ∃ (ob : Option ABlk) (l : Loc), PadOK w ob l ∧ PlO ob ∧
    ∀ i : Nat, ∃ a' ca', (∀ m : Mp, m[i]? = some l → VR m (.slice a' len ca') (.slice a len cap)) ∧ ∀ L : List (Option ABlk), L[i]? = some ob → PartT L (.slice a' len ca') cells len i := by
    intro h1 h2
    subst h1 h2
    exact ⟨none, deadLoc, ⟨(fun h => by cases h), (fun B h => by cases h)⟩, (fun B h => by cases h), fun i => ⟨none, 1, fun m _ => .loose _ _, fun L _ => .nil i⟩⟩
  rcases hz with ⟨rfl, rfl, rfl, rfl⟩ | ⟨x, rfl, hl, hlen, hc⟩
  · exact none_ rfl rfl
  · by_cases h0 : len = 0
    · subst h0
      rw [Nat.zero_mul] at hlen
      exact none_ (List.length_eq_zero_iff.1 hlen) rfl
    · have hpos : 0 < cells.length := by rw [hlen]; exact Nat.mul_pos (by omega) hn
      have hx0 : x.add 0 = x := by simp [Addr.add]
      obtain ⟨v0, g0, _⟩ := hc 0 cells[0] (List.getElem?_eq_getElem hpos)
      rw [hx0] at g0
      obtain ⟨c, e, fr, h1, h2, h3⟩ := cell_open g0
      have hci : ∀ (i : Nat) (v : Value), cells[i]? = some v → ∃ v', c[x.off + i]? = some v' ∧ ∀ m : Mp, VR m v v' := by
        intro i v hv
        obtain ⟨v', g, hv'⟩ := hc i v hv
        refine ⟨v', ?_, hv'⟩
        by_cases hi0 : i = 0
        · subst hi0
          rw [hx0, g0] at g
          injection g with g
          subst g
          simpa using h3
        · obtain ⟨c2, e2, fr2, q1, q2, q3⟩ := cell_open g
          have hb : (x.add i).block = x.block := by simp [Addr.add, hi0]
          have ho : (x.add i).off = x.off + i := by simp [Addr.add, hi0]
          rw [hb, h1] at q1
          cases q1
          rw [ho] at q3
          exact q3
      have hxx : x = ⟨x.block, x.off, none⟩ := by cases x; simp at h2; simp [h2]
      refine ⟨some ⟨cells.toArray, 3, 1, false⟩, ⟨x.block, x.off, c.size, 1, false, e, true⟩, ⟨fun _ => (Array.getElem?_eq_some_iff.1 h1).1, fun B hB => ?_⟩, ?_, fun i => ⟨some ⟨i, 0, none⟩, len, fun m hm => ?_, fun L hL => .at i len len _ cells hL rfl⟩⟩
      · injection hB with hB
        subst hB
        refine ⟨rfl, c, fr, fun m => ⟨h1, rfl, (by intro h; cases h), (by intro h; cases h), ?_, ?_, rfl⟩⟩
        · obtain ⟨v', g, _⟩ := hci (cells.length - 1) cells[cells.length - 1] (List.getElem?_eq_getElem (by omega))
          have := (Array.getElem?_eq_some_iff.1 g).1
          simp only [List.size_toArray]
          omega
        · intro i v hv
          have hv' : cells[i]? = some v := by simpa using hv
          obtain ⟨v', g, q⟩ := hci i v hv'
          exact ⟨v', g, q m⟩
      · intro B hB i v hv
        injection hB with hB
        subst hB
        exact hcl v (List.mem_of_getElem? (by simpa using hv))
      · rw [hxx]
        refine .slice (a' := ⟨x.block, x.off, none⟩) ?_ hl fun l hl ho _ => ?_
        · unfold tr
          simp only
          rw [hm]
          rfl
        · rw [hm] at hl
          injection hl with hl
          subst hl
          cases ho

theorem walk_raw {w : World} {N : Int} {a b : Option Addr} {ca cb : Nat} {ops : List OpD} {out : List Int} (hO : FlatG w a ops.length ca 4 (ops.flatMap opC)) (hU : FlatG w b out.length cb 1 (out.flatMap iC)) (hC : ∀ o ∈ ops, NaC o.C)
    {a3 : Option Addr} {len3 cap3 : Nat} {z3 : List Int} (hz : SlG w a3 len3 cap3 z3) (n k at' v : Int) :
    Calls Try.prog 3 #[.agg #[.int .i64 N, .slice a ops.length ca, .slice b out.length cb], .int .i64 n, .slice a3 len3 cap3, .int .i64 k, .int .i64 at', .int .i64 v] w fun e w' => e = .returned (.bool true) ∧ Below w.heap.size w w' := by
  obtain ⟨o1, l1, p1, q1', g1⟩ := flat_pad (by decide) hO (opsC_cl ops)
  obtain ⟨o2, l2, p2, q2', g2⟩ := flat_pad (by decide) hU (intC_cl out)
  obtain ⟨o3, l3, p3, q3', g3⟩ := slice_pad hz
  obtain ⟨a1, c1, r1, s1⟩ := g1 0
  obtain ⟨a2, c2, r2, s2⟩ := g2 1
  obtain ⟨v3, r3, s3⟩ := g3 2
  have hp : ∀ (i : Nat) (ob : Option ABlk) (l : Loc), [o1, o2, o3][i]? = some ob → [l1, l2, l3][i]? = some l → PadOK w ob l := by
    intro i ob l hi hl
    match i, hi, hl with
    | 0, hi, hl => cases hi; cases hl; exact p1
    | 1, hi, hl => cases hi; cases hl; exact p2
    | 2, hi, hl => cases hi; cases hl; exact p3
  have h := tapeChecks_at q1' q2' q3' (N := N) (s1 [o1, o2, o3] rfl) (s2 [o1, o2, o3] rfl) (by decide) hC (s3 #[o1, o2, o3] rfl) n k at' v
  refine walk_fin (H := [o1, o2, o3].toArray) (m := [l1, l2, l3].toArray) (hr_pad rfl hp) (frozen_pad rfl hp) ?_ h
  have hv : VR [l1, l2, l3].toArray (tvT N a1 ops.length c1 a2 out.length c2) (.agg #[.int .i64 N, .slice a ops.length ca, .slice b out.length cb]) := by
    unfold tvT
    refine VR.agg (xs := #[.int .i64 N, .slice a1 ops.length c1, .slice a2 out.length c2]) (ys := #[.int .i64 N, .slice a ops.length ca, .slice b out.length cb]) rfl fun i h1 h2 => ?_
    match i, h1 with
    | 0, _ => exact .int _ _
    | 1, _ => exact r1 [l1, l2, l3].toArray rfl
    | 2, _ => exact r2 [l1, l2, l3].toArray rfl
  exact (VRl.cons hv (VRl.cons (.int _ _) (VRl.cons (r3 [l1, l2, l3].toArray rfl) (VRl.cons (.int _ _) (VRl.cons (.int _ _) (VRl.cons (.int _ _) VRl.nil)))))).arr

end Go.Proofs.Ytpmdpbljgidllaa
