/- The law TapeMore returns true, whatever the numbers. -/
import Derived.Test.YtpmdpbljgidllaaTpMo1
import Derived.Test.YtpmdpbljgidllaaTpMo2
import Derived.Test.YtpmdpbljgidllaaTpMo3
import Derived.Test.YtpmdpbljgidllaaTpCk
namespace Go.Proofs.Ytpmdpbljgidllaa
open Go
set_option linter.unusedVariables false
set_option linter.unusedSimpArgs false
set_option maxRecDepth 100000

theorem mo_run {N L w : Nat} (h1 : 1 ≤ N) (h2 : N ≤ 3) (h3 : L ≤ 8) (h4 : w ≤ 8) : MoRun N (N + 1 + L) w := by
  have : N = 1 ∨ N = 2 ∨ N = 3 := by omega
  rcases this with rfl | rfl | rfl
  · exact mo_run1 h3 h4
  · exact mo_run2 h3 h4
  · exact mo_run3 h3 h4
section
variable (b1 b2 : Option ABlk) (N M : Nat) (k a b : Nat → Int) (c : Nat → Nat) (u A B : Nat → Int) (fx : Nat → Nat) (u' : Nat → Int)
theorem hpX_len {w : Nat} (hw : w ≤ 8) : (hpX b1 b2 N M w k a b c u A B fx u').length = 9 + 2 * w := by
  have : w = 0 ∨ w = 1 ∨ w = 2 ∨ w = 3 ∨ w = 4 ∨ w = 5 ∨ w = 6 ∨ w = 7 ∨ w = 8 := by omega
  rcases this with rfl | rfl | rfl | rfl | rfl | rfl | rfl | rfl | rfl <;> rfl
theorem hpX_pu {w : Nat} (hw : w ≤ 8) : (hpX b1 b2 N M w k a b c u A B fx u')[puX w]? = some (opB (coX M w k a b c A B)) := by
  have : w = 0 ∨ w = 1 ∨ w = 2 ∨ w = 3 ∨ w = 4 ∨ w = 5 ∨ w = 6 ∨ w = 7 ∨ w = 8 := by omega
  rcases this with rfl | rfl | rfl | rfl | rfl | rfl | rfl | rfl | rfl <;> rfl
end
def extO (w : Nat) (A B : Nat → Int) : List OpD := (List.range w).map fun i => ⟨4, A i, B i, 0⟩
theorem ext_full {ops : List OpD} {M N w : Nat} {A B : Nat → Int} (hM : ops.length = M) (hf : ∀ k o, ops[k]? = some o → opFull k N o) (hA : ∀ i : Nat, 0 ≤ A i ∧ A i < ((M + i : Nat) : Int)) (hB : ∀ i : Nat, 0 ≤ B i ∧ B i < ((M + i : Nat) : Int)) : ∀ k o, (ops ++ extO w A B)[k]? = some o → opFull k N o := by
  intro k o h
  by_cases c : k < ops.length
  · rw [List.getElem?_append_left c] at h; exact hf k o h
  · rw [List.getElem?_append_right (by omega)] at h
    unfold extO at h
    rw [List.getElem?_map] at h
    by_cases c2 : k - ops.length < w
    · rw [List.getElem?_range c2, Option.map_some] at h
      injection h with h
      have a := hA (k - ops.length)
      have b := hB (k - ops.length)
      have e : ((M + (k - ops.length) : Nat) : Int) = (k : Int) := by omega
      rw [e] at a b
      rw [← h]
      exact .inr (.inr ⟨(by decide : (2 : Int) ≤ 4), (by decide : (4 : Int) ≤ 5), rfl, a.1, a.2, b.1, b.2⟩)
    · rw [List.getElem?_eq_none (by simp; omega)] at h; cases h
theorem opFull.ok {k n : Nat} {o : OpD} (h : opFull k n o) : opOkD k n o := by
  rcases h with h | h | h
  · exact .inl h.1
  · exact .inr (.inl ⟨h.1, h.2.2.2⟩)
  · exact .inr (.inr ⟨h.1, h.2.1, h.2.2.2⟩)
theorem runL_app {T : Type} (d : T) (cf : Nat → T) (op2 : Int → T → T → T) (x : Nat → T) : ∀ (l l2 : List OpD) (r : List T), runL d cf op2 x (l ++ l2) r = runL d cf op2 x l2 (runL d cf op2 x l r)
  | [], l2, r => rfl
  | o :: l, l2, r => by rw [List.cons_append, runL, runL, runL_app d cf op2 x l]
theorem reg_app {ops ext : List OpD} {xs : List Nat} {j : Nat} (hj : j < ops.length) : regF (ops ++ ext) xs j = regF ops xs j := by
  unfold regF regT
  rw [runL_app, runL_pre]
  rw [runL_length]
  simpa using hj
/-- tape.Eval on any field that may be. -/
theorem evG_rn {l : List (Option ABlk)} {ops : List OpD} {out : List Int} {xs : List Nat} {N M bo bu bx s : Nat} (hM : ops.length = M) (h3 : 2 ≤ M) (h4 : M ≤ 20) (h1 : 1 ≤ N) (h2 : N ≤ 3) (hx : xs.length = N) (ho : out.length = N) (hok : ∀ k o, ops[k]? = some o → opOkD k N o) (hu : ∀ u ∈ out, 0 ≤ u ∧ u < M)
    {co cu : Array Value} {B : ABlk} (q0 : l[bo]? = some (opB co)) (e0 : co = (opsB ops true).cells) (q1 : l[bu]? = some (iB cu)) (e1 : cu = (intB out true).cells) (q2 : l[bx]? = some (some B)) (e2 : B.cells = (xs.flatMap fC).toArray) (hs : s = l.length) {fy : Nat → Nat} (hy : evOut (regF ops xs) out = (List.range N).map fy) :
    (rnO 25 #[tpV bo bu N M, slV bx N] l (slV s N) [nwF ((List.range N).map fy)]).ok Try.prog := by
  subst hM hs
  rw [← hy]
  have hG : EvH (some (opsB ops false)) (some (intB out false)) (some ⟨(xs.flatMap fC).toArray, 30, 1, false⟩) N ops out xs := ⟨⟨_, rfl, rfl⟩, ⟨_, rfl, rfl⟩, ⟨_, rfl, rfl⟩, hok, hx, ho, hu⟩
  have r1 := EvH.eval hG rfl rfl rfl h3 (by omega) h1 h2
  have r2 := ev_move r1 rfl rfl rfl rfl (opsB_plain _ _) (intB_plain _ _) (plain_flat fC_cl _ _ _ _) (plain_flat fC_cl _ _ _ _) (H := froze l.toArray) (fz_at q0) e0 (fz_at q1) e1 (fz_at q2) e2
  rw [fz_size] at r2
  exact r2
theorem evOut_range (F : Nat → Nat) (u : Nat → Int) (N : Nat) : evOut F ((List.range N).map u) = (List.range N).map fun i => F (u i).toNat := by
  unfold evOut
  rw [List.map_map]
  rfl

set_option maxHeartbeats 4000000 in
theorem tapeMore_pad {o o2 : Option ABlk} {va vb : Value} {zs ms : List Int} (ha : Handed #[o, o2] zs va) (hb : Handed #[o, o2] ms vb) (n : Int) (dv : Bool) (z : Int) :
    Tells 7 #[.int .i64 n, va, .bool dv, vb, .int .i64 z] #[o, o2] (.bool true) := by
  obtain ⟨n1, n2⟩ := mkN_le n
  obtain ⟨m1, m2⟩ := mkM_le n zs
  have hL : mkL zs ≤ 8 := by unfold mkL; omega
  have w0 := Int.emod_nonneg z (b := 9) (by decide)
  have w1 := Int.emod_lt_of_pos z (b := 9) (by decide)
  obtain ⟨w, hw⟩ : ∃ w : Nat, z % 9 = Int.ofNat w := ⟨(z % 9).toNat, by simp; omega⟩
  have hw8 : w ≤ 8 := by rw [hw] at w1; simp at w1; omega
  have hrun : MoRun (mkN n) (mkM n zs) w := mo_run n1 n2 hL hw8
  have hfull := mk_full n zs dv
  have hlen := mkOps_len n zs dv
  have ec : coM (mkM n zs) (fun i => (tmkO n zs dv i).K) (fun i => (tmkO n zs dv i).A) (fun i => (tmkO n zs dv i).B) (fun i => (tmkO n zs dv i).C) = (opsB (mkOps n zs dv) true).cells := congrArg List.toArray (flat_range (f := opC) (tmkO n zs dv) (mkM n zs))
  have eu : cuM (mkN n) (mkU n (mkM n zs)) = (intB (mkOut n (mkM n zs)) true).cells := congrArg List.toArray (flat_range (f := iC) (mkU n (mkM n zs)) (mkN n))
  have hUb := mkU_bd n m1 (by omega)
  have hA : ∀ i : Nat, 0 ≤ z % ((mkM n zs + i : Nat) : Int) ∧ z % ((mkM n zs + i : Nat) : Int) < ((mkM n zs + i : Nat) : Int) := fun i => ⟨Int.emod_nonneg _ (by omega), Int.emod_lt_of_pos _ (by omega)⟩
  have hB : ∀ i : Nat, 0 ≤ wr (z.tdiv 9) % ((mkM n zs + i : Nat) : Int) ∧ wr (z.tdiv 9) % ((mkM n zs + i : Nat) : Int) < ((mkM n zs + i : Nat) : Int) := fun i => ⟨Int.emod_nonneg _ (by omega), Int.emod_lt_of_pos _ (by omega)⟩
  have hmk : ∀ (l : List (Option ABlk)) (s : Nat), Handed (froze l.toArray) zs va → s = l.length → (rnO 14 #[.int .i64 n, va, .bool dv] l (tpV s (s + 1) (mkN n) (mkM n zs)) [opB (coM (mkM n zs) (fun i => (tmkO n zs dv i).K) (fun i => (tmkO n zs dv i).A) (fun i => (tmkO n zs dv i).B) (fun i => (tmkO n zs dv i).C)), iB (cuM (mkN n) (mkU n (mkM n zs)))]).ok Try.prog := by
    intro l s h e
    rw [ec, eu]
    exact make_rn n dv h rfl rfl e
  have eX : coX (mkM n zs) w (fun i => (tmkO n zs dv i).K) (fun i => (tmkO n zs dv i).A) (fun i => (tmkO n zs dv i).B) (fun i => (tmkO n zs dv i).C) (fun i => z % ((mkM n zs + i : Nat) : Int)) (fun i => wr (z.tdiv 9) % ((mkM n zs + i : Nat) : Int)) = (opsB (mkOps n zs dv ++ extO w (fun i => z % ((mkM n zs + i : Nat) : Int)) (fun i => wr (z.tdiv 9) % ((mkM n zs + i : Nat) : Int))) true).cells := by
    unfold coX opsB
    show _ = ((mkOps n zs dv ++ extO w _ _).flatMap opC).toArray
    rw [List.flatMap_append]
    have e1 := flat_range (f := opC) (tmkO n zs dv) (mkM n zs)
    have e2 := flat_range (f := opC) (fun i => (⟨4, z % ((mkM n zs + i : Nat) : Int), wr (z.tdiv 9) % ((mkM n zs + i : Nat) : Int), 0⟩ : OpD)) w
    exact congrArg List.toArray (congr (congrArg _ e1) e2)
  have hUm : mkOut n (mkM n zs) = (List.range (mkN n)).map (mkU n (mkM n zs)) := rfl
  have hxf := ext_full (w := w) hlen hfull hA hB
  have hxl : (mkOps n zs dv ++ extO w (fun i => z % ((mkM n zs + i : Nat) : Int)) (fun i => wr (z.tdiv 9) % ((mkM n zs + i : Nat) : Int))).length = mkM n zs + w := by rw [List.length_append, hlen]; simp [extO]
  generalize hA' : (fun i : Nat => z % ((mkM n zs + i : Nat) : Int)) = A at *
  generalize hB' : (fun i : Nat => wr (z.tdiv 9) % ((mkM n zs + i : Nat) : Int)) = B at *
  have eA : ∀ i : Nat, z % ((mkM n zs + i : Nat) : Int) = A i := fun i => congrFun hA' i
  have eB : ∀ i : Nat, wr (z.tdiv 9) % ((mkM n zs + i : Nat) : Int) = B i := fun i => congrFun hB' i
  clear hA hB
  generalize hops : mkOps n zs dv = ops at *
  generalize hun : mkU n (mkM n zs) = u at *
  generalize hout : mkOut n (mkM n zs) = out at *
  generalize (fun i => (tmkO n zs dv i).K) = fK at *
  generalize (fun i => (tmkO n zs dv i).A) = fA at *
  generalize (fun i => (tmkO n zs dv i).B) = fB at *
  generalize (fun i => (tmkO n zs dv i).C) = fCc at *
  have hbnd : ∀ x ∈ (List.range (mkN n)).map u, 0 ≤ x ∧ x < ((mkM n zs : Nat) : Int) := by
    intro x hx
    obtain ⟨i, _, rfl⟩ := List.mem_map.1 hx
    exact hUb i
  have hval : ∀ (l : List (Option ABlk)) (s : Nat), Handed (froze l.toArray) ms vb → s = l.length → (rnO 19 #[.int .i64 (Int.ofNat (mkN n)), vb] l (slV s (mkN n)) [nwF ((List.range (mkN n)).map fun i => vw8 (Fz (vlI ms i)))]).ok Try.prog := fun l s h e => val_rn n1 (by omega) h e
  generalize (fun i => vw8 (Fz (vlI ms i))) = fx at *
  have hh := fun (c : List (Option ABlk)) {zs : List Int} {v : Value} (h : Handed [o, o2].toArray zs v) => h.list c
  have hN3 := n2
  have hM20 : mkM n zs + w ≤ 20 := by omega
  generalize hN : mkN n = N at *
  generalize hM : mkM n zs = M at *
  have r := hrun o o2 n z dv va vb fK fA fB fCc u A B fx (fun i => regF ops ((List.range N).map fx) (u i).toNat) (fun i => regF (ops ++ extO w A B) ((List.range N).map fx) (u i).toNat) (fun i => regF (ops ++ extO w A B) ((List.range N).map fx) ((if i = 0 then u (N - 1) else u i)).toNat)
  have wi9 : (wiM z 9 (Int.ofNat w)).ok Try.prog := by
    rw [← hw]
    exact wi_ok z (by decide) (by decide)
  refine tells_of r (okApp (okApp ⟨tapeKnownS, hmk _ _ (hh [] ha) rfl, hmk _ _ (hh [_, _] ha) rfl, hval _ _ (hh [_, _, _, _, _, _] hb) rfl, trivial⟩ (each_ok _ _ fun i hi => ?_)) ?_)
  · have hi' := List.mem_range.1 hi
    refine ⟨wi9, cmp_ok (decide_eq_true hi'), ?_, ?_, trivial⟩
    · rw [← eA]; exact wi_ok z (by omega) (by omega)
    · rw [← eB]; exact wi_ok _ (by omega) (by omega)
  · have l1 := hpX_len o o2 N M fK fA fB fCc u A B fx u hw8
    have l2 := hpX_len o o2 N M fK fA fB fCc u A B fx (fun i => if i = 0 then u (N - 1) else u i) hw8
    have p1 := hpX_pu o o2 N M fK fA fB fCc u A B fx u hw8
    have p2 := hpX_pu o o2 N M fK fA fB fCc u A B fx (fun i => if i = 0 then u (N - 1) else u i) hw8
    have q2 : (hpX o o2 N M w fK fA fB fCc u A B fx u)[2]? = some (opB (coM M fK fA fB fCc)) := rfl
    have q3 : (hpX o o2 N M w fK fA fB fCc u A B fx u)[3]? = some (iB (cuM N u)) := rfl
    have q5 : (hpX o o2 N M w fK fA fB fCc u A B fx u)[5]? = some (iB (cuM N u)) := rfl
    have q8 : (hpX o o2 N M w fK fA fB fCc u A B fx u)[8]? = some (nwF ((List.range N).map fx)) := rfl
    have s5 : (hpX o o2 N M w fK fA fB fCc u A B fx (fun i => if i = 0 then u (N - 1) else u i))[5]? = some (iB (cuM N fun i => if i = 0 then u (N - 1) else u i)) := rfl
    have s8 : (hpX o o2 N M w fK fA fB fCc u A B fx (fun i => if i = 0 then u (N - 1) else u i))[8]? = some (nwF ((List.range N).map fx)) := rfl
    generalize hpX o o2 N M w fK fA fB fCc u A B fx u = X at *
    generalize hpX o o2 N M w fK fA fB fCc u A B fx (fun i => if i = 0 then u (N - 1) else u i) = Y at *
    have ap : ∀ {l : List (Option ABlk)} {i : Nat} {x : Option ABlk} (c : List (Option ABlk)), l[i]? = some x → (l ++ c)[i]? = some x := by
      intro l i x c h
      rw [List.getElem?_append_left (List.getElem?_eq_some_iff.1 h).1]; exact h
    have euN : cuM N u = (intB ((List.range N).map u) true).cells := congrArg List.toArray (flat_range (f := iC) u N)
    have hxo : ∀ k o, (ops ++ extO w A B)[k]? = some o → opOkD k N o := fun k o h => (hxf k o h).ok
    have hbw : ∀ x ∈ (List.range N).map u, 0 ≤ x ∧ x < ((M + w : Nat) : Int) := fun x hx => ⟨(hbnd x hx).1, by have := (hbnd x hx).2; omega⟩
    refine ⟨wi9, cmp_ok (decide_eq_false (by omega)), ?_, ?_, ?_, ?_, ?_, ?_, trivial⟩
    · show Runs _ _ _ _ _ (_ ++ #[])
      rw [Array.append_empty]
      exact check_in (ops := ops ++ extO w A B) (out := (List.range N).map u) n1 n2 (by omega) hM20 hxl (by simp) hxf hbw (fz_at p1) eX (fz_at q5) euN
    · exact evG_rn (ops := ops) (out := (List.range N).map u) hlen m1 (by omega) n1 n2 (by simp) (by simp) (fun k o h => (hfull k o h).ok) hbnd q2 ec q3 euN q8 rfl (by omega) (evOut_range _ _ _)
    · exact evG_rn (ops := ops ++ extO w A B) (out := (List.range N).map u) hxl (by omega) hM20 n1 n2 (by simp) (by simp) hxo hbw (ap _ p1) eX (ap _ q5) euN (ap _ q8) rfl (by simp; omega) (evOut_range _ _ _)
    · have qa : ∀ x y : Option ABlk, (X ++ [x, y])[9 + 2 * w]? = some x := by
        intro x y
        rw [List.getElem?_append_right (by omega), l1, show 9 + 2 * w - (9 + 2 * w) = 0 by omega]; rfl
      have qb : ∀ x y : Option ABlk, (X ++ [x, y])[10 + 2 * w]? = some y := by
        intro x y
        rw [List.getElem?_append_right (by omega), l1, show 10 + 2 * w - (9 + 2 * w) = 1 by omega]; rfl
      refine rows_rn n1 (by omega) (fun i hi => ?_) (qa _ _) rfl (qb _ _) rfl
      · have hu := hUb i
        have e : regF (ops ++ extO w A B) ((List.range N).map fx) (u i).toNat = regF ops ((List.range N).map fx) (u i).toNat := reg_app (by omega)
        rw [e]
        exact same_refl _
    · refine evG_rn (ops := ops ++ extO w A B) (out := (List.range N).map fun i => if i = 0 then u (N - 1) else u i) hxl (by omega) hM20 n1 n2 (by simp) (by simp) hxo ?_ (ap _ p2) eX (ap _ s5) (congrArg List.toArray (flat_range (f := iC) (fun i => if i = 0 then u (N - 1) else u i) N)) (ap _ s8) rfl (by simp; omega) (evOut_range _ _ _)
      intro x hx
      obtain ⟨i, _, rfl⟩ := List.mem_map.1 hx
      have b1 := hUb i
      have b2 := hUb (N - 1)
      split
      · omega
      · omega
    · have e : (if N - 1 = 0 then u (N - 1) else u (N - 1)) = u (N - 1) := by split <;> rfl
      show Runs _ _ _ _ _ _
      rw [if_pos rfl, e]
      exact same_refl _

end Go.Proofs.Ytpmdpbljgidllaa
