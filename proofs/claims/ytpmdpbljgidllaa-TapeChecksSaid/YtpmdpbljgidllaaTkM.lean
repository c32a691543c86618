/- tape.Check and the document's Check of a tape anywhere in a memory: the same; and of made tapes one of whose parts was turned. -/
import Derived.Test.YtpmdpbljgidllaaTkC
import Derived.Test.YtpmdpbljgidllaaApp
import Derived.Test.YtpmdpbljgidllaaTkL
namespace Go.Proofs.Ytpmdpbljgidllaa
open Go
set_option linter.unusedVariables false
set_option linter.unusedSimpArgs false
set_option maxRecDepth 100000

/-- A contract that reads, from a part of memory, told by other numbers. -/
theorem Runs.viewT {P : Program} {f : FuncId} {args2 args1 : Array Value} {H2 H3 H1 : AHeap} {v : Value} {ρ : Nat → Nat} (h : Runs P f args2 H2 v H3) (hf : AllFrozen H2) (hv : closN 4 v = true) (hs : RelS 0 ρ args2.toList H2 args1.toList H1) : Runs P f args1 H1 v H1 := by
  intro m w args' hr ha
  have ha2 : VRs (reM H2.size ρ m) args2 args' := by
    have hl : args2.size = args1.size := by simpa using hs.len
    refine ⟨hl.trans ha.1, fun i h1 h2 => ?_⟩
    refine (hs.tmp i args2[i] (args1[i]'(by omega)) ?_ ?_).vr (ha.2 i (by omega) h2)
    · simp [h1]
    · simp [show i < args1.size by omega]
  obtain ⟨h1, h2⟩ := h (reM H2.size ρ m) w args' (hs.hr hr) ha2
  refine ⟨h1, h2.mono ?_⟩
  rintro e w' ⟨v', m', he, hvr, hr', hst⟩
  have keep : ∀ g, g < w.heap.size → w'.heap[g]? = w.heap[g]? := fun g hg => hst.keep g hg (hf.nofp g)
  refine ⟨v', m, he, hvr.clos_any 4 _ _ hv, ⟨hr.size, fun b l hl hlv => Nat.lt_of_lt_of_le (hr.old b l hl hlv) hst.size, fun b B hB => ?_, hr.inj⟩, ⟨fun b l h => h, hst.os, hst.tape, hst.output, hst.size, fun g hg _ => keep g hg, fun g hg => .inl hg⟩⟩
  obtain ⟨l, cs, fr, hl, r⟩ := hr.blk b B hB
  exact ⟨l, cs, fr, hl, r.mono (fun b l h => h) (keep _ (hr.old b l hl r.live))⟩

/-- A slice that leads to these cells, so many to one. -/
inductive PartT (l : List (Option ABlk)) : Value → List Value → Nat → Nat → Prop
  | nil (b : Nat) : PartT l (.slice none 0 1) [] 0 b
  | at (b n ca : Nat) (B : ABlk) (cells : List Value) (h : l[b]? = some (some B)) (hc : B.cells = cells.toArray) : PartT l (.slice (some ⟨b, 0, none⟩) n ca) cells n b
theorem PartT.app {l : List (Option ABlk)} {s : Value} {cs : List Value} {n b : Nat} (h : PartT l s cs n b) (r : List (Option ABlk)) : PartT (l ++ r) s cs n b := by
  cases h with
  | nil => exact .nil _
  | «at» b n ca B cells h hc => exact .at b n ca B _ (by rw [List.getElem?_append_left (List.getElem?_eq_some_iff.1 h).1]; exact h) hc
theorem frT (l : List (Option ABlk)) (b : Nat) : (froze l.toArray)[b]? = (l[b]?).map fz := by
  unfold froze
  simp
/-- The small memory's part of it. -/
structure SmT (l : List (Option ABlk)) (s : Value) (cells : List Value) (n b : Nat) (k : Nat) (s0 : Value) (c : Option ABlk) : Prop where
  rel : ∀ ρ : Nat → Nat, ρ k = b → k < 2 → RelA 2 ρ s0 s
  self : k < 3 → RelA 3 (fun b => ([0, 1, 2] : List Nat).getD b 0) s0 s0
  blk : ∀ B2, c = some B2 → B2.own = false ∧ B2.cells = cells.toArray ∧ (froze l.toArray)[b]? = some (some B2)
  sl : (n = 0 ∧ ∃ a ca, s0 = .slice a n ca) ∨ ∃ ca B, s0 = .slice (some ⟨k, 0, none⟩) n ca ∧ c = some B
theorem PartT.sm {l : List (Option ABlk)} {s : Value} {cells : List Value} {n b : Nat} (h : PartT l s cells n b) (k : Nat) (hk : k < 2) : ∃ a ca c, SmT l s cells n b k (.slice a n ca) c := by
  cases h with
  | nil => exact ⟨none, 1, none, ⟨fun _ _ _ => .loose, fun _ => .loose, fun _ h => (nomatch h), .inl ⟨rfl, _, _, rfl⟩⟩⟩
  | «at» b n ca B cells h hc =>
    refine ⟨some ⟨k, 0, none⟩, ca, some { B with own := false }, ⟨fun ρ e hk => .slice k b 0 none n ca ca hk e, fun hk => .slice k k 0 none n ca ca hk ?_, fun B2 hB2 => ?_, .inr ⟨ca, _, rfl, rfl⟩⟩⟩
    · match k, hk with
      | 0, _ => rfl
      | 1, _ => rfl
      | 2, _ => rfl
    · injection hB2 with hB2
      subst hB2
      exact ⟨rfl, hc, by rw [frT, h]; rfl⟩
theorem plainC {c : Option ABlk} {cells : List Value} (h : ∀ B2, c = some B2 → B2.cells = cells.toArray) (hcl : ∀ u ∈ cells, closN 4 u = true) : PlO c := by
  intro B hB i v hv
  rw [h B hB] at hv
  exact hcl v (List.mem_of_getElem? (by simpa using hv))
theorem opsC_cl (ops : List OpD) : ∀ u ∈ ops.flatMap opC, closN 4 u = true := by
  intro u hu
  obtain ⟨o, _, h⟩ := List.mem_flatMap.1 hu
  exact opC_clos o u h
theorem intC_cl (out : List Int) : ∀ u ∈ out.flatMap iC, closN 4 u = true := by
  intro u hu
  obtain ⟨o, _, h⟩ := List.mem_flatMap.1 hu
  exact iC_clos o u h
theorem check_rn {l : List (Option ABlk)} {N : Int} {s1 s2 : Value} {ops : List OpD} {out : List Int} {bo bu : Nat} (h1 : PartT l s1 (ops.flatMap opC) ops.length bo) (h2 : PartT l s2 (out.flatMap iC) out.length bu) (hne : bo ≠ bu) (hC : ∀ o ∈ ops, NaC o.C) :
    ∃ r, (rnO 15 #[.agg #[.int .i64 N, s1, s2]] l (.bool r) []).ok Try.prog ∧ (rnO 16 #[.agg #[.int .i64 N, s1, s2]] l (.bool r) []).ok Try.prog := by
  obtain ⟨a, ca, c0, m0⟩ := h1.sm 0 (by decide)
  obtain ⟨b, cb, c1, m1⟩ := h2.sm 1 (by decide)
  have hcc : ∀ k : Nat, ∃ r, k < ops.length → Both 39 41 #[opV (ops.getD k ⟨0, 0, 0, 0⟩).K (ops.getD k ⟨0, 0, 0, 0⟩).A (ops.getD k ⟨0, 0, 0, 0⟩).B (ops.getD k ⟨0, 0, 0, 0⟩).C, .int .i64 (k : Nat), .int .i64 N] r := by
    intro k
    by_cases hk : k < ops.length
    · obtain ⟨r, hr⟩ := op_any (ops.getD k ⟨0, 0, 0, 0⟩).K (ops.getD k ⟨0, 0, 0, 0⟩).A (ops.getD k ⟨0, 0, 0, 0⟩).B k N (C := (ops.getD k ⟨0, 0, 0, 0⟩).C) (by
        rw [List.getD_eq_getElem?_getD, List.getElem?_eq_getElem hk]
        exact hC _ (List.getElem_mem hk))
      exact ⟨r, fun _ => hr⟩
    · exact ⟨false, fun h => absurd h hk⟩
  obtain ⟨c, hc⟩ := Classical.axiomOfChoice hcc
  have hin : TkIn c0 c1 N a ops.length ca b out.length cb (fun k => ops.getD k ⟨0, 0, 0, 0⟩) (fun k => out.getD k 0) c := by
    refine ⟨plainC (fun B2 h => (m0.blk B2 h).2.1) (opsC_cl ops), plainC (fun B2 h => (m1.blk B2 h).2.1) (intC_cl out), m0.self (by decide), m1.self (by decide), fun k hk => ?_, fun k hk => ?_, fun k hk => hc k hk⟩
    · rcases m0.sl with ⟨h, _⟩ | ⟨ca', B, h, hB⟩
      · omega
      · injection h with ha hn hca
        subst ha hB
        obtain ⟨_, hcells, _⟩ := m0.blk B rfl
        refine ⟨⟨0, k * 4, none⟩, ixOp (by omega) (by omega) rfl, rdOp (H := (HTc (some B) c1 N (some ⟨0, 0, none⟩) ops.length ca b out.length cb).toArray) (B := B) (k := k) (a := ops.getD k ⟨0, 0, 0, 0⟩) rfl hcells ?_ rfl⟩
        rw [List.getD_eq_getElem?_getD, List.getElem?_eq_getElem hk]; rfl
    · rcases m1.sl with ⟨h, _⟩ | ⟨ca', B, h, hB⟩
      · omega
      · injection h with ha hn hca
        subst ha hB
        obtain ⟨_, hcells, _⟩ := m1.blk B rfl
        refine ⟨⟨1, k, none⟩, ixI (by omega) (by omega) rfl, rdI (H := (HTc c0 (some B) N a ops.length ca (some ⟨1, 0, none⟩) out.length cb).toArray) (B := B) (k := k) (a := out.getD k 0) rfl hcells ?_ rfl⟩
        rw [List.getD_eq_getElem?_getD, List.getElem?_eq_getElem hk]; rfl
  obtain ⟨r, ⟨_, t1⟩, ⟨_, t2⟩⟩ := hin.both
  let ρ : Nat → Nat := fun k => if k = 0 then bo else bu
  have hfz : AllFrozen #[c0, c1] := by
    intro b B hB
    match b, hB with
    | 0, hB => exact (m0.blk B (Option.some.inj hB)).1
    | 1, hB => exact (m1.blk B (Option.some.inj hB)).1
    | n + 2, hB => simp at hB
  have rs : RelS 0 ρ (#[tvT N a ops.length ca b out.length cb] : Array Value).toList #[c0, c1] (#[.agg #[.int .i64 N, s1, s2]] : Array Value).toList (froze l.toArray) := by
    refine ⟨fun b hb => absurd hb (Nat.not_lt_zero b), rfl, fun i v2 v1 h2 h1 => ?_, fun b B2 hB2 => ?_, fun b b' B2 B2' hb hb' e => ?_⟩
    · match i, h2, h1 with
      | 0, h2, h1 =>
        have h2 := Option.some.inj h2
        have h1 := Option.some.inj h1
        subst h2 h1
        refine .agg rfl fun i hi hi' => ?_
        match i, hi with
        | 0, _ => exact .clos rfl
        | 1, _ => exact m0.rel ρ rfl (by decide)
        | 2, _ => exact m1.rel ρ rfl (by decide)
    · match b, hB2 with
      | 0, hB2 =>
        obtain ⟨g1, g2, g3⟩ := m0.blk B2 (Option.some.inj hB2)
        refine ⟨B2, g3, RelK.plain fun i v hv => ?_⟩
        rw [g2] at hv
        exact opsC_cl ops v (List.mem_of_getElem? (by simpa using hv))
      | 1, hB2 =>
        obtain ⟨g1, g2, g3⟩ := m1.blk B2 (Option.some.inj hB2)
        refine ⟨B2, g3, RelK.plain fun i v hv => ?_⟩
        rw [g2] at hv
        exact intC_cl out v (List.mem_of_getElem? (by simpa using hv))
      | n + 2, hB2 => simp at hB2
    · match b, b', hb, hb' with
      | 0, 0, _, _ => rfl
      | 1, 1, _, _ => rfl
      | 0, 1, _, _ => exact absurd e hne
      | 1, 0, _, _ => exact absurd e.symm hne
      | n + 2, _, hb, _ => simp at hb
      | _, n + 2, _, hb => simp at hb
  have e : froze l.toArray ++ ([] : List (Option ABlk)).toArray = froze l.toArray := by
    apply Array.ext'
    simp
  refine ⟨r, ?_, ?_⟩
  · show Runs _ _ _ _ _ (froze l.toArray ++ ([] : List (Option ABlk)).toArray)
    rw [e]
    exact t1.viewT hfz rfl rs
  · show Runs _ _ _ _ _ (froze l.toArray ++ ([] : List (Option ABlk)).toArray)
    rw [e]
    exact t2.viewT hfz rfl rs

end Go.Proofs.Ytpmdpbljgidllaa
