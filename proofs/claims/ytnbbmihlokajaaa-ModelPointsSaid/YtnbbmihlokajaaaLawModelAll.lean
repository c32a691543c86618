/- The law ModelAll returns true, whatever it is handed. -/
import Derived.Test.YtnbbmihlokajaaaModelAllA
import Derived.Test.YtnbbmihlokajaaaSlices
namespace Go.Proofs.Ytnbbmihlokajaaa
open Go
set_option linter.unusedVariables false
set_option linter.unusedSimpArgs false
set_option maxRecDepth 100000

theorem run_all {H : AHeap} (h : AllRuns H) : ∀ us : List Value, AllRun H us
  | [] => h.b
  | u :: l => h.a u l
def cOf2 (zs : List Int) (rest : Int) : Nat → P2 := fun i => if i < 9 then cAt zs i else rR rest
theorem make_2 {H : AHeap} {zs : List Int} {rest : Int} {va : Value} (hh : Handed H zs va) : (mk2 H 16 #[va, .int .i64 rest] (isV' (mW (cOf2 zs rest)))).ok Try.prog := by
  have h := make_handed (rest := rest) hh.froze
  have h2 := Runs.drop (froze_all H) h rfl
  exact mk2_v h2
theorem Handed.next {H : AHeap} {zs : List Int} {v : Value} (h : Handed H zs v) (a : Ans) : Handed (nx H a) zs v := h.thaw _
theorem cOf_n (zs : List Int) (rest : Int) : AllN (cOf2 zs rest) := fun k hk => by
  unfold cOf2
  by_cases h : k < 9
  · rw [if_pos h]
    obtain ⟨g1, g2, _⟩ := cAt_good zs k
    exact ⟨(g1.fi (by decide)).nn, (g2.fi (by decide)).nn⟩
  · rw [if_neg h]
    obtain ⟨p1, p2, _⟩ := rR_ok rest
    exact ⟨(p1.fi (by decide)).nn, (p2.fi (by decide)).nn⟩
theorem far_n {zs : List Int} {rest t : Int} (h0 : 0 ≤ t) (h1 : t < 40) : AllN (farM (cOf2 zs rest) t) := fun k hk => by
  match k, hk with
  | 0, _ =>
    obtain ⟨g1, g2, _⟩ := cAt_good zs 0
    obtain ⟨b1, _⟩ := F_bd (n := t) (by omega)
    exact ⟨((g1.add b1 (by decide) (by decide)).fi (by decide)).nn, ((g2.add b1 (by decide) (by decide)).fi (by decide)).nn⟩
  | k + 1, hk => exact cOf_n zs rest (k + 1) hk
theorem one_n : AllN oneM := ofM_n fun x hx => by
  rw [List.mem_singleton] at hx; subst hx; exact one_fi.1.nn
def resM (p q : Nat → P2) : (Nat → P2) × (Nat → P2) × (Nat → P2) × (Nat → P2) × P2 := (addM p q, subM p q, mulM p q, quoM p q, rangeM p)
theorem op5_ok {f g : FuncId} {p q r : Nat → P2} (h1 : Runs Try.prog f #[mW p, mW q] #[] (mW r) #[]) (h2 : Runs Try.prog g #[mW p, mW q] #[] (mW r) #[]) (h3 : AllN r) : okAll Try.prog (op5 f g p q r) := ⟨h1, h2, same5_runs h3, trivial⟩
theorem row_ok {p q : Nat → P2} (hq : AllN q) : okAll Try.prog (rowO p q (resM p q).1 (resM p q).2.1 (resM p q).2.2.1 (resM p q).2.2.2.1 (resM p q).2.2.2.2) := by
  simp only [resM]
  obtain ⟨q1, q2⟩ := hq 0 (by decide)
  have r := rangeM_rt p
  unfold rowO
  exact okAll_app (op5_ok (addM_runs p q) (addR_runs p q) (addM_n p q)) (okAll_app (op5_ok (subM_runs p q) (subR_runs p q) (subM_n p q)) (okAll_app (op5_ok (mulM_runs p q) (mulR_runs p q) (mulM_n p q)) (okAll_app (op5_ok (quoM_runs p q1 q2) (quoR_runs p q1 q2) (quoM_n p q)) ⟨rangeM_runs p, rangeR_runs p, same2_at r.l r.h, trivial⟩)))
theorem hand_pushA (H : AHeap) (l : List (Option ABlk)) (x : List Nat) (hx : x ≠ []) (b : Nat) (hb : (pushL H l)[b]? = some (fBlk x)) : HandV (pushL H l) (x.map fV) (.slice (some ⟨b, 0, none⟩) x.length x.length) := by
  refine .inr ⟨b, ⟨(x.map fV).toArray, 24, 1, true⟩, fun h => hx (List.map_eq_nil_iff.1 h), by rw [List.length_map], hb, rfl⟩

theorem modelAll_run {Hp : AHeap} (hrun : AllRuns Hp) {zs us : List Int} {va vb : Value} (ha : Handed Hp zs va) (hb : Handed Hp us vb) (a b far : Int) : Tells 9 #[va, vb, .int .i64 a, .int .i64 b, .int .i64 far] Hp (.bool true) := by
  have t0 := Int.emod_nonneg far (b := 40) (by decide)
  have t1 := Int.emod_lt_of_pos far (b := 40) (by decide)
  have n0 := Int.emod_nonneg far (b := 10) (by decide)
  have n1 := Int.emod_lt_of_pos far (b := 10) (by decide)
  have w1 : (wi5O far 40 (far % 40)).ok Try.prog := within5 far 39 (by decide)
  have w2 : (wi5O far 10 (far % 10)).ok Try.prog := within5 far 9 (by decide)
  obtain ⟨n, hn⟩ := Int.eq_ofNat_of_zero_le n0
  rw [hn] at w2 n1
  have hn10 : n < 10 := by omega
  have m1 := make_2 (rest := a) ha
  have m2 := make_2 (rest := b) (hb.next (isV' (mW (cOf2 zs a))))
  have cn := cOf_n zs a
  have en := far_n (zs := us) (rest := b) t0 t1
  have ln : (valsA 0 n us).length ≤ 9 := by rw [valsA_len]; omega
  have hbV := hb.toV
  have vn := valsA_nn n 0 us
  have vr := fun (H : AHeap) (hh : HandV (froze H) (us.map iV) vb) => val_runs hn10 (froze_all H) hh
  generalize valsA 0 n us = xs at ln vn vr
  generalize cOf2 zs a = c at m1 m2 cn
  generalize cOf2 us b = d at m2 en
  generalize far % 40 = t at w1 en
  clear t0 t1
  refine tells_of (run_all hrun (xs.map fV) va vb a b far t (n : Int) c d (resM c (farM d t)) (resM (farM d t) c) (resM c c) (resM oneM (farM d t)) (ofM xs)) ?_
  unfold allO
  refine okAll_app ⟨known5, m1, m2, w1, w1, ?_, trivial⟩ (okAll_app (row_ok en) (okAll_app (row_ok cn) (okAll_app (row_ok cn) (okAll_app (row_ok en) ⟨w2, ?_, ?_, ?_, same5_runs (ofM_n vn), trivial⟩))))
  · refine of_2 (fs := [oneW]) (by simp) (hand_pushA _ _ [oneW] (by simp) _ ?_)
    unfold pushL
    rw [List.getElem?_toArray, List.getElem?_append_right (by simp)]
    simp
  · exact mk2_sl (vr _ (((((hbV.next _).next _).push _).next _).push _).froze)
  · exact of_2 ln (HandV.new _ _ _)
  · exact ofR_2 ln ((HandV.new _ _ _).next _)

theorem modelAll_two {Hp : AHeap} (hs : Hp.size ≤ 2) {zs us : List Int} {va vb : Value} (ha : Handed Hp zs va) (hb : Handed Hp us vb) (a b far : Int) : Tells 9 #[va, vb, .int .i64 a, .int .i64 b, .int .i64 far] Hp (.bool true) := by
  have h : AllRuns Hp := by
    obtain ⟨l⟩ := Hp
    match l, hs with
    | [], _ => exact al0
    | [o], _ => exact al1 o
    | [o1, o2], _ => exact al2 o1 o2
  exact modelAll_run h ha hb a b far

end Go.Proofs.Ytnbbmihlokajaaa
