/- The law ScriptWrong returns true, whatever the numbers that it is handed. -/
import Derived.Test.YtameamgamdaibaaDoorScWr
namespace Go.Proofs.YtameamgamdaibaaDoor
open Go
set_option linter.unusedVariables false
set_option linter.unusedSimpArgs false
set_option maxRecDepth 100000

theorem addI (x y : Int) (h1 : 0 ≤ x + y) (h2 : x + y < 9223372036854775808) : (obAI .add x y (x + y)).ok Tryd.prog := by
  have h : pureV Tryd.prog (binOp .add 3 (.int .i64 x) (.int .i64 y)) = some (.int .i64 (IntKind.i64.wrap (x + y))) := by kernel_rfl
  show _ = _
  rw [h, wrap_id (by omega) h2]
theorem mulI (x y : Int) (h1 : 0 ≤ x * y) (h2 : x * y < 9223372036854775808) : (obAI .mul x y (x * y)).ok Tryd.prog := by
  have h : pureV Tryd.prog (binOp .mul 3 (.int .i64 x) (.int .i64 y)) = some (.int .i64 (IntKind.i64.wrap (x * y))) := by kernel_rfl
  show _ = _
  rw [h, wrap_id (by omega) h2]

/-! ### what Parse tells -/
theorem pbad {x : List UInt8} (h : wordW x) (hl : x.length ≤ 1000) (hn : numP x = none) (H : AHeap) : (Obl.run P0 #[stL (plainL x)] H (badP 2) (H ++ #[])).ok Tryd.prog := by
  show Runs _ _ _ _ _ (_ ++ #[])
  rw [Array.append_empty]
  have hf : (fltP x).2 = false := by unfold fltP; rw [hn]
  exact parse_bad (plain_bad h hl hf) H
def shL (C lo hi : Nat) : List (Option ABlk) := [opsB [⟨0, 0, 0, C⟩], oB_I [0], boxB [(lo, hi)], oB_F [0]]
theorem okV4 {s : List UInt8} {C lo hi a c : Nat} (h : Runs Tryd.prog P0 #[stL s] #[] (okV (dP C lo hi a c)) (okM (dP C lo hi a c))) : Runs Tryd.prog P0 #[stL s] #[] (shV 0 lo hi a c) (shL C lo hi).toArray := by
  refine h.ren (ρ := fun i => [0, 1, 2, 3].getD i 0) ?_
  have hs : slG [0] [0, 1, 2, 3] [okV (dP C lo hi a c)] (okM (dP C lo hi a c)) = (1, [okV (dP C lo hi a c)], (shL C lo hi).map some) := rfl
  refine relS_of (n0 := 0) (L := [(0, shV 0 lo hi a c)]) (R := [0, 1, 2, 3]) (H2 := shL C lo hi) hs (by simp) (by decide) ?_ ?_
  · refine .cons (.tuple rfl fun i g1 g2 => ?_) .nil
    match i, g1, g2 with
    | 0, _, _ => exact pb_rel (d := dP C lo hi a c) (.slice 0 0 0 none _ _ _ (show (0 : Nat) < 4 by decide) rfl) (.slice 1 1 0 none _ _ _ (show (1 : Nat) < 4 by decide) rfl) (.slice 2 2 0 none _ _ _ (show (2 : Nat) < 4 by decide) rfl) (.slice 3 3 0 none _ _ _ (show (3 : Nat) < 4 by decide) rfl) (.clos rfl)
    | 1, _, _ => exact .clos rfl
    | 2, _, _ => exact .clos rfl
  · exact bs_same (cl_ops _) (bs_same (cl_I _) (bs_same (cl_box _) (bs_same (cl_F _) .nil)))
theorem empty_frozen : AllFrozen #[] := fun b B h => by simp at h
theorem pgood {x : List UInt8} (h : wordW x) (hl : x.length ≤ 1000) {C : Nat} (hf : fltP x = (C, true)) (hC : Fi C) (X Y : Option ABlk) :
    (Obl.run P0 #[stL (plainL x)] (froze #[X, Y]) (shV 2 (ldW (-1) 3) (ldW 1 3) (ldW 1 (-3)) (ldW 1 0)) (froze #[X, Y] ++ (shL C (ldW (-1) 3) (ldW 1 3)).toArray)).ok Tryd.prog := by
  have hp := parse_q (plainL x)
  rw [plain_good h hl hf] at hp
  have h4 := okV4 (hp.2 (dW_ok hC) (by simp [dW, dP]) (by simp [dW, dP]))
  generalize ldW (-1) 3 = lo at h4 ⊢
  generalize ldW 1 3 = hi at h4 ⊢
  generalize ldW 1 (-3) = a at h4 ⊢
  generalize ldW 1 0 = c at h4 ⊢
  show Runs _ _ _ _ _ _
  refine Runs.viewN (H2 := #[]) (bs2 := (shL C lo hi).toArray) (ρ := fun _ => 0) (by rw [Array.empty_append]; exact h4) empty_frozen (froze_all _) ?_ ?_ ?_
  · refine ⟨fun b hb => by omega, rfl, fun i v2 v1 e2 e1 => ?_, fun b B2 hb => by simp at hb, fun b b' B B' hb hb' he => by simp at hb⟩
    rw [e2] at e1
    injection e1 with e1
    subst e1
    have : v2 = stL (plainL x) := by
      have := List.mem_of_getElem? e2
      simpa using this
    subst this
    exact .clos rfl
  · refine .tuple rfl fun i g1 g2 => ?_
    match i, g1, g2 with
    | 0, _, _ => exact pb_rel (d := dP C lo hi a c) (.slice 2 0 0 none _ _ _ (show (2 : Nat) < 6 by decide) rfl) (.slice 3 1 0 none _ _ _ (show (3 : Nat) < 6 by decide) rfl) (.slice 4 2 0 none _ _ _ (show (4 : Nat) < 6 by decide) rfl) (.slice 5 3 0 none _ _ _ (show (5 : Nat) < 6 by decide) rfl) (.clos rfl)
    | 1, _, _ => exact .clos rfl
    | 2, _, _ => exact .clos rfl
  · refine ⟨rfl, fun j B1 hj => ⟨B1, hj, ?_⟩⟩
    have hcl : ∀ y ∈ shL C lo hi, clB y := by
      intro y hy
      simp only [shL, List.mem_cons, List.not_mem_nil, or_false] at hy
      rcases hy with rfl | rfl | rfl | rfl
      · exact cl_ops _
      · exact cl_I _
      · exact cl_box _
      · exact cl_F _
    exact .plain (hcl _ (List.mem_of_getElem? (by simpa using hj)) B1 rfl)

/-! ### words -/
def okP (c : UInt8) : Bool := !(Nat.beq c.toNat 112)
def okW (c : UInt8) : Bool := !(Nat.beq c.toNat 10) && !(Nat.beq c.toNat 32)
theorem beqN {a b : Nat} (h : Nat.beq a b = false) : a ≠ b := fun e => by
  subst e
  rw [Nat.beq_refl] at h
  cases h
theorem noP {l : List UInt8} (h : l.all okP = true) : ∀ x ∈ l, x.toNat ≠ 112 := fun x hx => by
  have := List.all_eq_true.1 h x hx
  unfold okP at this
  exact beqN (by simpa using this)
theorem isW {l : List UInt8} (h : l.all okW = true) : wordW l := fun x hx => by
  have := List.all_eq_true.1 h x hx
  unfold okW at this
  rw [Bool.and_eq_true] at this
  exact ⟨beqN (by simpa using this.1), beqN (by simpa using this.2)⟩
theorem num_pp {u v : List UInt8} (hu : u.all okP = true) : numP (u ++ 112 :: v) = if (sigP u).2 && (sigP v).2 then
      if (sigP u).1 = 0 then (if (sigP v).1 = 0 then some (0, 0) else none)
      else if (sigP u).1.tmod 2 = 0 ∨ (sigP u).1 ≥ 9007199254740992 ∨ (sigP u).1 ≤ -9007199254740992 ∨ (sigP v).1 < -1074 ∨ (sigP v).1 > 1023 then none
      else some ((sigP u).1, (sigP v).1)
    else none := by
  unfold numP
  rw [cutC_to 112 112 rfl v u (noP hu)]
  simp only [Bool.true_and]
theorem num_a {u v : List UInt8} (hu : u.all okP = true) (h : (sigP u).2 = false) : numP (u ++ 112 :: v) = none := by
  rw [num_pp hu, h]; simp
theorem num_b {u v : List UInt8} (hu : u.all okP = true) (h : (sigP v).2 = false) : numP (u ++ 112 :: v) = none := by
  rw [num_pp hu, h]; simp
theorem num_no {w : List UInt8} (h : w.all okP = true) : numP w = none := by
  unfold numP
  rw [cutC_no 112 w (noP h)]
  simp
theorem num_ev {u v : List UInt8} {m k : Int} (hu : u.all okP = true) (h1 : sigP u = (m, true)) (h2 : sigP v = (k, true)) (h0 : m ≠ 0) (h : m.tmod 2 = 0 ∨ k > 1023) : numP (u ++ 112 :: v) = none := by
  rw [num_pp hu, h1, h2]
  simp only [Bool.and_self, if_true, if_neg h0]
  rw [if_pos]
  rcases h with h | h
  · exact .inl h
  · exact .inr (.inr (.inr (.inr h)))
theorem num_ok {u v : List UInt8} {m k : Int} (hu : u.all okP = true) (h1 : sigP u = (m, true)) (h2 : sigP v = (k, true)) (h0 : m ≠ 0) (h : m.tmod 2 ≠ 0) (hm : m < 9007199254740992) (hm' : -9007199254740992 < m) (hk : -1074 ≤ k) (hk' : k ≤ 1023) : numP (u ++ 112 :: v) = some (m, k) := by
  rw [num_pp hu, h1, h2]
  simp only [Bool.and_self, if_true, if_neg h0]
  rw [if_neg]
  rintro (h' | h' | h' | h' | h')
  · exact h h'
  all_goals omega
theorem eqD_iff {r : Int × Bool} {n : Int} (h : eqD r n = true) : r = (n, true) := by
  unfold eqD at h
  rw [Bool.and_eq_true] at h
  obtain ⟨a, b⟩ := r
  simp at h
  simp [h]
structure DecOK (n : Nat) : Prop where
  sig : sigP (dec n) = (((n : Nat) : Int), true)
  p : (dec n).all okP = true
  w : (dec n).all okW = true
  len : (dec n).length ≤ 4
theorem dec_ok {n : Nat} (h : n < 2002) : DecOK n := by
  have := List.all_eq_true.1 chkA_all n (List.mem_range.2 h)
  unfold chkA at this
  rw [Bool.and_eq_true, Bool.and_eq_true] at this
  obtain ⟨⟨h1, h2⟩, h3⟩ := this
  have hc : ∀ c ∈ dec n, 48 ≤ c.toNat ∧ c.toNat ≤ 57 := fun c hc => by
    have := List.all_eq_true.1 h2 c hc
    rw [Bool.and_eq_true] at this
    exact ⟨Nat.le_of_ble_eq_true this.1, Nat.le_of_ble_eq_true this.2⟩
  refine ⟨eqD_iff h1, ?_, ?_, Nat.le_of_ble_eq_true h3⟩
  · rw [List.all_eq_true]
    intro c hcm
    have := hc c hcm
    unfold okP
    rw [beqF (c := 112) (by omega)]; rfl
  · rw [List.all_eq_true]
    intro c hcm
    have := hc c hcm
    unfold okW
    rw [beqF (c := 10) (by omega), beqF (c := 32) (by omega)]; rfl
structure BadOK (n : Nat) : Prop where
  zero : (sigP (48 :: dec n)).2 = false
  plus : (sigP (43 :: dec n)).2 = false
  p : (sigP (dec n ++ [112])).2 = false
  half : (sigP (dec n ++ [46, 53])).2 = false
  two : (sigP (45 :: 45 :: dec n)).2 = false
  neg : n ≠ 0 → sigP (45 :: dec n) = (-(n : Int), true)
theorem bad_ok {n : Nat} (h : n < 1002) : BadOK n := by
  have := List.all_eq_true.1 chkB_all n (List.mem_range.2 h)
  unfold chkB at this
  simp only [Bool.and_eq_true, Bool.not_eq_true', Bool.or_eq_true] at this
  obtain ⟨⟨⟨⟨⟨h1, h2⟩, h3⟩, h4⟩, h5⟩, h6⟩ := this
  refine ⟨h1, h2, h3, h4, h5, fun h0 => ?_⟩
  rcases h6 with h6 | h6
  · simp at h6; exact absurd h6 h0
  · exact eqD_iff h6
theorem tmod_nat (a : Nat) : ((a : Nat) : Int).tmod 2 = ((a % 2 : Nat) : Int) := rfl
theorem sig_nil : (sigP []).2 = false := by kernel_rfl
theorem sig_m0 : (sigP [45, 48]).2 = false := by kernel_rfl
theorem num_0p1 : numP [48, 112, 49] = none := by kernel_rfl

section
variable {n e : Nat}
theorem wrd_0 (hn : n < 1000) (h1 : n % 2 = 1) (he : e < 100) : wordW (((dec (2 * n)) ++ [112]) ++ (dec e)) ∧ ((((dec (2 * n)) ++ [112]) ++ (dec e)) : List UInt8).length ≤ 1000 ∧ numP (((dec (2 * n)) ++ [112]) ++ (dec e)) = none := by
  have ad := dec_ok (n := n) (by omega)
  have ae := dec_ok (n := e) (by omega)
  have a2 := dec_ok (n := 2 * n) (by omega)
  have af := dec_ok (n := e + 1024) (by omega)
  have bd := bad_ok (n := n) (by omega)
  have be := bad_ok (n := e) (by omega)
  have l1 := ad.len
  have l2 := ae.len
  have l3 := a2.len
  have l4 := af.len
  have w1 := ad.w
  have w2 := ae.w
  have w3 := a2.w
  have w4 := af.w
  refine ⟨isW (by simp only [List.all_append, List.all_cons, w1, w2, w3, w4]; rfl), by simp only [List.length_append, List.length_cons, List.length_nil]; omega, ?_⟩
  have e1 : (((dec (2 * n)) ++ [112]) ++ (dec e)) = (dec (2 * n)) ++ 112 :: (dec e) := by simp
  rw [e1]
  exact num_ev a2.p a2.sig ae.sig (by omega) (.inl (by rw [tmod_nat]; omega))
theorem wrd_1 (hn : n < 1000) (h1 : n % 2 = 1) (he : e < 100) : wordW ((([48] ++ (dec n)) ++ [112]) ++ (dec e)) ∧ (((([48] ++ (dec n)) ++ [112]) ++ (dec e)) : List UInt8).length ≤ 1000 ∧ numP ((([48] ++ (dec n)) ++ [112]) ++ (dec e)) = none := by
  have ad := dec_ok (n := n) (by omega)
  have ae := dec_ok (n := e) (by omega)
  have a2 := dec_ok (n := 2 * n) (by omega)
  have af := dec_ok (n := e + 1024) (by omega)
  have bd := bad_ok (n := n) (by omega)
  have be := bad_ok (n := e) (by omega)
  have l1 := ad.len
  have l2 := ae.len
  have l3 := a2.len
  have l4 := af.len
  have w1 := ad.w
  have w2 := ae.w
  have w3 := a2.w
  have w4 := af.w
  refine ⟨isW (by simp only [List.all_append, List.all_cons, w1, w2, w3, w4]; rfl), by simp only [List.length_append, List.length_cons, List.length_nil]; omega, ?_⟩
  have e1 : ((([48] ++ (dec n)) ++ [112]) ++ (dec e)) = (48 :: (dec n)) ++ 112 :: (dec e) := by simp
  rw [e1]
  exact num_a (by simp only [List.all_cons, ad.p]; rfl) bd.zero
theorem wrd_2 (hn : n < 1000) (h1 : n % 2 = 1) (he : e < 100) : wordW (((dec n) ++ [112, 48]) ++ (dec e)) ∧ ((((dec n) ++ [112, 48]) ++ (dec e)) : List UInt8).length ≤ 1000 ∧ numP (((dec n) ++ [112, 48]) ++ (dec e)) = none := by
  have ad := dec_ok (n := n) (by omega)
  have ae := dec_ok (n := e) (by omega)
  have a2 := dec_ok (n := 2 * n) (by omega)
  have af := dec_ok (n := e + 1024) (by omega)
  have bd := bad_ok (n := n) (by omega)
  have be := bad_ok (n := e) (by omega)
  have l1 := ad.len
  have l2 := ae.len
  have l3 := a2.len
  have l4 := af.len
  have w1 := ad.w
  have w2 := ae.w
  have w3 := a2.w
  have w4 := af.w
  refine ⟨isW (by simp only [List.all_append, List.all_cons, w1, w2, w3, w4]; rfl), by simp only [List.length_append, List.length_cons, List.length_nil]; omega, ?_⟩
  have e1 : (((dec n) ++ [112, 48]) ++ (dec e)) = (dec n) ++ 112 :: (48 :: (dec e)) := by simp
  rw [e1]
  exact num_b ad.p be.zero
theorem wrd_3 (hn : n < 1000) (h1 : n % 2 = 1) (he : e < 100) : wordW (((dec n) ++ [112, 43]) ++ (dec e)) ∧ ((((dec n) ++ [112, 43]) ++ (dec e)) : List UInt8).length ≤ 1000 ∧ numP (((dec n) ++ [112, 43]) ++ (dec e)) = none := by
  have ad := dec_ok (n := n) (by omega)
  have ae := dec_ok (n := e) (by omega)
  have a2 := dec_ok (n := 2 * n) (by omega)
  have af := dec_ok (n := e + 1024) (by omega)
  have bd := bad_ok (n := n) (by omega)
  have be := bad_ok (n := e) (by omega)
  have l1 := ad.len
  have l2 := ae.len
  have l3 := a2.len
  have l4 := af.len
  have w1 := ad.w
  have w2 := ae.w
  have w3 := a2.w
  have w4 := af.w
  refine ⟨isW (by simp only [List.all_append, List.all_cons, w1, w2, w3, w4]; rfl), by simp only [List.length_append, List.length_cons, List.length_nil]; omega, ?_⟩
  have e1 : (((dec n) ++ [112, 43]) ++ (dec e)) = (dec n) ++ 112 :: (43 :: (dec e)) := by simp
  rw [e1]
  exact num_b ad.p be.plus
theorem wrd_4 (hn : n < 1000) (h1 : n % 2 = 1) (he : e < 100) : wordW ((([43] ++ (dec n)) ++ [112]) ++ (dec e)) ∧ (((([43] ++ (dec n)) ++ [112]) ++ (dec e)) : List UInt8).length ≤ 1000 ∧ numP ((([43] ++ (dec n)) ++ [112]) ++ (dec e)) = none := by
  have ad := dec_ok (n := n) (by omega)
  have ae := dec_ok (n := e) (by omega)
  have a2 := dec_ok (n := 2 * n) (by omega)
  have af := dec_ok (n := e + 1024) (by omega)
  have bd := bad_ok (n := n) (by omega)
  have be := bad_ok (n := e) (by omega)
  have l1 := ad.len
  have l2 := ae.len
  have l3 := a2.len
  have l4 := af.len
  have w1 := ad.w
  have w2 := ae.w
  have w3 := a2.w
  have w4 := af.w
  refine ⟨isW (by simp only [List.all_append, List.all_cons, w1, w2, w3, w4]; rfl), by simp only [List.length_append, List.length_cons, List.length_nil]; omega, ?_⟩
  have e1 : ((([43] ++ (dec n)) ++ [112]) ++ (dec e)) = (43 :: (dec n)) ++ 112 :: (dec e) := by simp
  rw [e1]
  exact num_a (by simp only [List.all_cons, ad.p]; rfl) bd.plus
theorem wrd_5 (hn : n < 1000) (h1 : n % 2 = 1) (he : e < 100) : wordW (dec n) ∧ ((dec n) : List UInt8).length ≤ 1000 ∧ numP (dec n) = none := by
  have ad := dec_ok (n := n) (by omega)
  have ae := dec_ok (n := e) (by omega)
  have a2 := dec_ok (n := 2 * n) (by omega)
  have af := dec_ok (n := e + 1024) (by omega)
  have bd := bad_ok (n := n) (by omega)
  have be := bad_ok (n := e) (by omega)
  have l1 := ad.len
  have l2 := ae.len
  have l3 := a2.len
  have l4 := af.len
  have w1 := ad.w
  have w2 := ae.w
  have w3 := a2.w
  have w4 := af.w
  refine ⟨isW w1, by omega, ?_⟩
  exact num_no ad.p
theorem wrd_6 (hn : n < 1000) (h1 : n % 2 = 1) (he : e < 100) : wordW ((dec n) ++ [112]) ∧ (((dec n) ++ [112]) : List UInt8).length ≤ 1000 ∧ numP ((dec n) ++ [112]) = none := by
  have ad := dec_ok (n := n) (by omega)
  have ae := dec_ok (n := e) (by omega)
  have a2 := dec_ok (n := 2 * n) (by omega)
  have af := dec_ok (n := e + 1024) (by omega)
  have bd := bad_ok (n := n) (by omega)
  have be := bad_ok (n := e) (by omega)
  have l1 := ad.len
  have l2 := ae.len
  have l3 := a2.len
  have l4 := af.len
  have w1 := ad.w
  have w2 := ae.w
  have w3 := a2.w
  have w4 := af.w
  refine ⟨isW (by simp only [List.all_append, List.all_cons, w1, w2, w3, w4]; rfl), by simp only [List.length_append, List.length_cons, List.length_nil]; omega, ?_⟩
  have e1 : ((dec n) ++ [112]) = (dec n) ++ 112 :: [] := by simp
  rw [e1]
  exact num_b ad.p sig_nil
theorem wrd_7 (hn : n < 1000) (h1 : n % 2 = 1) (he : e < 100) : wordW ([112] ++ (dec e)) ∧ (([112] ++ (dec e)) : List UInt8).length ≤ 1000 ∧ numP ([112] ++ (dec e)) = none := by
  have ad := dec_ok (n := n) (by omega)
  have ae := dec_ok (n := e) (by omega)
  have a2 := dec_ok (n := 2 * n) (by omega)
  have af := dec_ok (n := e + 1024) (by omega)
  have bd := bad_ok (n := n) (by omega)
  have be := bad_ok (n := e) (by omega)
  have l1 := ad.len
  have l2 := ae.len
  have l3 := a2.len
  have l4 := af.len
  have w1 := ad.w
  have w2 := ae.w
  have w3 := a2.w
  have w4 := af.w
  refine ⟨isW (by simp only [List.all_append, List.all_cons, w1, w2, w3, w4]; rfl), by simp only [List.length_append, List.length_cons, List.length_nil]; omega, ?_⟩
  have e1 : ([112] ++ (dec e)) = [] ++ 112 :: (dec e) := by simp
  rw [e1]
  exact num_a rfl sig_nil
theorem wrd_8 (hn : n < 1000) (h1 : n % 2 = 1) (he : e < 100) : wordW (((dec n) ++ [80]) ++ (dec e)) ∧ ((((dec n) ++ [80]) ++ (dec e)) : List UInt8).length ≤ 1000 ∧ numP (((dec n) ++ [80]) ++ (dec e)) = none := by
  have ad := dec_ok (n := n) (by omega)
  have ae := dec_ok (n := e) (by omega)
  have a2 := dec_ok (n := 2 * n) (by omega)
  have af := dec_ok (n := e + 1024) (by omega)
  have bd := bad_ok (n := n) (by omega)
  have be := bad_ok (n := e) (by omega)
  have l1 := ad.len
  have l2 := ae.len
  have l3 := a2.len
  have l4 := af.len
  have w1 := ad.w
  have w2 := ae.w
  have w3 := a2.w
  have w4 := af.w
  refine ⟨isW (by simp only [List.all_append, List.all_cons, w1, w2, w3, w4]; rfl), by simp only [List.length_append, List.length_cons, List.length_nil]; omega, ?_⟩
  exact num_no (by simp only [List.all_append, ad.p, ae.p]; rfl)
theorem wrd_9 (hn : n < 1000) (h1 : n % 2 = 1) (he : e < 100) : wordW ((((dec n) ++ [112]) ++ (dec e)) ++ [112]) ∧ (((((dec n) ++ [112]) ++ (dec e)) ++ [112]) : List UInt8).length ≤ 1000 ∧ numP ((((dec n) ++ [112]) ++ (dec e)) ++ [112]) = none := by
  have ad := dec_ok (n := n) (by omega)
  have ae := dec_ok (n := e) (by omega)
  have a2 := dec_ok (n := 2 * n) (by omega)
  have af := dec_ok (n := e + 1024) (by omega)
  have bd := bad_ok (n := n) (by omega)
  have be := bad_ok (n := e) (by omega)
  have l1 := ad.len
  have l2 := ae.len
  have l3 := a2.len
  have l4 := af.len
  have w1 := ad.w
  have w2 := ae.w
  have w3 := a2.w
  have w4 := af.w
  refine ⟨isW (by simp only [List.all_append, List.all_cons, w1, w2, w3, w4]; rfl), by simp only [List.length_append, List.length_cons, List.length_nil]; omega, ?_⟩
  have e1 : ((((dec n) ++ [112]) ++ (dec e)) ++ [112]) = (dec n) ++ 112 :: ((dec e) ++ [112]) := by simp
  rw [e1]
  exact num_b ad.p be.p
theorem wrd_10 (hn : n < 1000) (h1 : n % 2 = 1) (he : e < 100) : wordW (((dec n) ++ [46, 53, 112]) ++ (dec e)) ∧ ((((dec n) ++ [46, 53, 112]) ++ (dec e)) : List UInt8).length ≤ 1000 ∧ numP (((dec n) ++ [46, 53, 112]) ++ (dec e)) = none := by
  have ad := dec_ok (n := n) (by omega)
  have ae := dec_ok (n := e) (by omega)
  have a2 := dec_ok (n := 2 * n) (by omega)
  have af := dec_ok (n := e + 1024) (by omega)
  have bd := bad_ok (n := n) (by omega)
  have be := bad_ok (n := e) (by omega)
  have l1 := ad.len
  have l2 := ae.len
  have l3 := a2.len
  have l4 := af.len
  have w1 := ad.w
  have w2 := ae.w
  have w3 := a2.w
  have w4 := af.w
  refine ⟨isW (by simp only [List.all_append, List.all_cons, w1, w2, w3, w4]; rfl), by simp only [List.length_append, List.length_cons, List.length_nil]; omega, ?_⟩
  have e1 : (((dec n) ++ [46, 53, 112]) ++ (dec e)) = ((dec n) ++ [46, 53]) ++ 112 :: (dec e) := by simp
  rw [e1]
  exact num_a (by simp only [List.all_append, ad.p]; rfl) bd.half
theorem wrd_11 (hn : n < 1000) (h1 : n % 2 = 1) (he : e < 100) : wordW ((([45, 45] ++ (dec n)) ++ [112]) ++ (dec e)) ∧ (((([45, 45] ++ (dec n)) ++ [112]) ++ (dec e)) : List UInt8).length ≤ 1000 ∧ numP ((([45, 45] ++ (dec n)) ++ [112]) ++ (dec e)) = none := by
  have ad := dec_ok (n := n) (by omega)
  have ae := dec_ok (n := e) (by omega)
  have a2 := dec_ok (n := 2 * n) (by omega)
  have af := dec_ok (n := e + 1024) (by omega)
  have bd := bad_ok (n := n) (by omega)
  have be := bad_ok (n := e) (by omega)
  have l1 := ad.len
  have l2 := ae.len
  have l3 := a2.len
  have l4 := af.len
  have w1 := ad.w
  have w2 := ae.w
  have w3 := a2.w
  have w4 := af.w
  refine ⟨isW (by simp only [List.all_append, List.all_cons, w1, w2, w3, w4]; rfl), by simp only [List.length_append, List.length_cons, List.length_nil]; omega, ?_⟩
  have e1 : ((([45, 45] ++ (dec n)) ++ [112]) ++ (dec e)) = (45 :: 45 :: (dec n)) ++ 112 :: (dec e) := by simp
  rw [e1]
  exact num_a (by simp only [List.all_cons, ad.p]; rfl) bd.two
theorem wrd_12 (hn : n < 1000) (h1 : n % 2 = 1) (he : e < 100) : wordW [48, 112, 49] ∧ ([48, 112, 49] : List UInt8).length ≤ 1000 ∧ numP [48, 112, 49] = none := by
  have ad := dec_ok (n := n) (by omega)
  have ae := dec_ok (n := e) (by omega)
  have a2 := dec_ok (n := 2 * n) (by omega)
  have af := dec_ok (n := e + 1024) (by omega)
  have bd := bad_ok (n := n) (by omega)
  have be := bad_ok (n := e) (by omega)
  have l1 := ad.len
  have l2 := ae.len
  have l3 := a2.len
  have l4 := af.len
  have w1 := ad.w
  have w2 := ae.w
  have w3 := a2.w
  have w4 := af.w
  refine ⟨isW (by simp only [List.all_append, List.all_cons, w1, w2, w3, w4]; rfl), by simp only [List.length_append, List.length_cons, List.length_nil]; omega, ?_⟩
  exact num_0p1
theorem wrd_13 (hn : n < 1000) (h1 : n % 2 = 1) (he : e < 100) : wordW ((dec n) ++ [112, 45, 48]) ∧ (((dec n) ++ [112, 45, 48]) : List UInt8).length ≤ 1000 ∧ numP ((dec n) ++ [112, 45, 48]) = none := by
  have ad := dec_ok (n := n) (by omega)
  have ae := dec_ok (n := e) (by omega)
  have a2 := dec_ok (n := 2 * n) (by omega)
  have af := dec_ok (n := e + 1024) (by omega)
  have bd := bad_ok (n := n) (by omega)
  have be := bad_ok (n := e) (by omega)
  have l1 := ad.len
  have l2 := ae.len
  have l3 := a2.len
  have l4 := af.len
  have w1 := ad.w
  have w2 := ae.w
  have w3 := a2.w
  have w4 := af.w
  refine ⟨isW (by simp only [List.all_append, List.all_cons, w1, w2, w3, w4]; rfl), by simp only [List.length_append, List.length_cons, List.length_nil]; omega, ?_⟩
  have e1 : ((dec n) ++ [112, 45, 48]) = (dec n) ++ 112 :: [45, 48] := by simp
  rw [e1]
  exact num_b ad.p sig_m0
theorem wrd_14 (hn : n < 1000) (h1 : n % 2 = 1) (he : e < 100) : wordW ((([45] ++ (dec n)) ++ [112]) ++ (dec (e + 1024))) ∧ (((([45] ++ (dec n)) ++ [112]) ++ (dec (e + 1024))) : List UInt8).length ≤ 1000 ∧ numP ((([45] ++ (dec n)) ++ [112]) ++ (dec (e + 1024))) = none := by
  have ad := dec_ok (n := n) (by omega)
  have ae := dec_ok (n := e) (by omega)
  have a2 := dec_ok (n := 2 * n) (by omega)
  have af := dec_ok (n := e + 1024) (by omega)
  have bd := bad_ok (n := n) (by omega)
  have be := bad_ok (n := e) (by omega)
  have l1 := ad.len
  have l2 := ae.len
  have l3 := a2.len
  have l4 := af.len
  have w1 := ad.w
  have w2 := ae.w
  have w3 := a2.w
  have w4 := af.w
  refine ⟨isW (by simp only [List.all_append, List.all_cons, w1, w2, w3, w4]; rfl), by simp only [List.length_append, List.length_cons, List.length_nil]; omega, ?_⟩
  have e1 : ((([45] ++ (dec n)) ++ [112]) ++ (dec (e + 1024))) = (45 :: (dec n)) ++ 112 :: (dec (e + 1024)) := by simp
  rw [e1]
  exact num_ev (by simp only [List.all_cons, ad.p]; rfl) (bd.neg (by omega)) af.sig (by omega) (.inr (by omega))
end

theorem scriptWrong_tells (m k w : Int) : Tells 4 #[.int .i64 m, .int .i64 k, .int .i64 w] #[] (.bool true) := by
  have hi := within13 m 499 (by decide)
  have he := within13 k 99 (by decide)
  have hw := within13 w 14 (by decide)
  have e500 : Int.ofNat (499 + 1) = 500 := rfl
  have e100 : Int.ofNat (99 + 1) = 100 := rfl
  have e15 : Int.ofNat (14 + 1) = 15 := rfl
  rw [e500] at hi
  rw [e100] at he
  rw [e15] at hw
  have i1 := Int.emod_nonneg m (b := 500) (by decide)
  have i2 := Int.emod_lt_of_pos m (b := 500) (by decide)
  have j1 := Int.emod_nonneg k (b := 100) (by decide)
  have j2 := Int.emod_lt_of_pos k (b := 100) (by decide)
  have v1 := Int.emod_nonneg w (b := 15) (by decide)
  have v2 := Int.emod_lt_of_pos w (b := 15) (by decide)
  generalize m % 500 = i at *
  generalize k % 100 = e' at *
  generalize w % 15 = v at *
  obtain ⟨i, rfl⟩ := Int.eq_ofNat_of_zero_le i1
  obtain ⟨e, rfl⟩ := Int.eq_ofNat_of_zero_le j1
  obtain ⟨n, hn⟩ : ∃ n : Nat, n = 1 + 2 * i := ⟨_, rfl⟩
  have en : (1 : Int) + 2 * (i : Nat) = (n : Nat) := by omega
  have e2n : (2 : Int) * (n : Nat) = ((2 * n : Nat) : Int) := by omega
  have ee : ((e : Nat) : Int) + 1024 = ((e + 1024 : Nat) : Int) := by omega
  have hn1 : n < 1000 := by omega
  have hn2 : n % 2 = 1 := by omega
  have he1 : e < 100 := by omega
  have kd := di_runs (n := n) (by omega)
  have ke := di_runs (n := e) (by omega)
  have k2 := di_runs (n := 2 * n) (by omega)
  have kf := di_runs (n := e + 1024) (by omega)
  have ad := dec_ok (n := n) (by omega)
  have ae := dec_ok (n := e) (by omega)
  have l1 := ad.len
  have l2 := ae.len
  have l3 := (dec_ok (n := 2 * n) (by omega)).len
  have l4 := (dec_ok (n := e + 1024) (by omega)).len
  have hok : numP (dec n ++ 112 :: dec e) = some (((n : Nat) : Int), ((e : Nat) : Int)) := num_ok ad.p ad.sig ae.sig (by omega) (by rw [tmod_nat]; omega) (by omega) (by omega) (by omega) (by omega)
  have hfl := flt_of hok (by omega) (by omega) (by omega) (by omega)
  have hC := (ld_in (m := (n : Nat)) (k := (e : Nat)) (by omega) (by omega) (by omega) (by omega)).1
  have hld := (ldW_ok (ld_ex (m := (n : Nat)) (k := (e : Nat)) (by omega) (by omega) (by omega) (by omega))).1
  have gw : wordW ((dec n ++ [112]) ++ dec e) := isW (by simp only [List.all_append, List.all_cons, ad.w, ae.w]; rfl)
  have gl : ((dec n ++ [112]) ++ dec e).length ≤ 1000 := by simp only [List.length_append, List.length_cons, List.length_nil]; omega
  have ge : (dec n ++ [112]) ++ dec e = dec n ++ 112 :: dec e := by simp
  rw [← ge] at hfl
  have heq : (Obl.cmp .eql 31 (.float .f64 (ldW (n : Nat) (e : Nat))) (.float .f64 (ldW (n : Nat) (e : Nat))) true).ok Tryd.prog := (fc _ rfl _ _).trans ((eql_ix hC.nn hC.nn).trans (by simp))
  have q1 := mulI 2 (i : Nat) (by omega) (by omega)
  have q2 := addI 1 (2 * (i : Nat)) (by omega) (by omega)
  have q3 := mulI 2 (n : Nat) (by omega) (by omega)
  have q4 := addI (e : Nat) 1024 (by omega) (by omega)
  rw [en] at q2
  rw [e2n] at q3
  rw [ee] at q4
  have pg := pgood gw gl hfl hC
  have pl := pl_runs gl #[]
  have r0 := wrd_0 hn1 hn2 he1
  have r1 := wrd_1 hn1 hn2 he1
  have r2 := wrd_2 hn1 hn2 he1
  have r3 := wrd_3 hn1 hn2 he1
  have r4 := wrd_4 hn1 hn2 he1
  have r5 := wrd_5 hn1 hn2 he1
  have r6 := wrd_6 hn1 hn2 he1
  have r7 := wrd_7 hn1 hn2 he1
  have r8 := wrd_8 hn1 hn2 he1
  have r9 := wrd_9 hn1 hn2 he1
  have r10 := wrd_10 hn1 hn2 he1
  have r11 := wrd_11 hn1 hn2 he1
  have r12 := wrd_12 hn1 hn2 he1
  have r13 := wrd_13 hn1 hn2 he1
  have r14 := wrd_14 hn1 hn2 he1
  clear hok ge hn ad ae
  generalize dec n = dn at *
  generalize dec e = de at *
  generalize dec (2 * n) = d2 at *
  generalize dec (e + 1024) = df at *
  generalize ldW (n : Nat) (e : Nat) = C at *
  have hv : v = 0 ∨ v = 1 ∨ v = 2 ∨ v = 3 ∨ v = 4 ∨ v = 5 ∨ v = 6 ∨ v = 7 ∨ v = 8 ∨ v = 9 ∨ v = 10 ∨ v = 11 ∨ v = 12 ∨ v = 13 ∨ v = 14 := by omega
  rcases hv with rfl | rfl | rfl | rfl | rfl | rfl | rfl | rfl | rfl | rfl | rfl | rfl | rfl | rfl | rfl
  · exact askT_tells (wr_0 m k w (i : Nat) (2 * (i : Nat)) (n : Nat) (e : Nat) ((2 * n : Nat) : Int) ((e + 1024 : Nat) : Int) dn d2 de df (plainL ((d2 ++ [112]) ++ de)) (plainL ((dn ++ [112]) ++ de)) (d2 ++ [112]) ((d2 ++ [112]) ++ de) ([48] ++ dn) (([48] ++ dn) ++ [112]) ((([48] ++ dn) ++ [112]) ++ de) (dn ++ [112, 48]) ((dn ++ [112, 48]) ++ de) (dn ++ [112, 43]) ((dn ++ [112, 43]) ++ de) ([43] ++ dn) (([43] ++ dn) ++ [112]) ((([43] ++ dn) ++ [112]) ++ de) (dn ++ [112]) ([112] ++ de) (dn ++ [80]) ((dn ++ [80]) ++ de) (dn ++ [112]) ((dn ++ [112]) ++ de) (((dn ++ [112]) ++ de) ++ [112]) (dn ++ [46, 53, 112]) ((dn ++ [46, 53, 112]) ++ de) ([45, 45] ++ dn) (([45, 45] ++ dn) ++ [112]) ((([45, 45] ++ dn) ++ [112]) ++ de) (dn ++ [112, 45, 48]) ([45] ++ dn) (([45] ++ dn) ++ [112]) ((([45] ++ dn) ++ [112]) ++ df) (dn ++ [112]) ((dn ++ [112]) ++ de) C (ldW (-1) 3) (ldW 1 3) (ldW 1 (-3)) (ldW 1 0) C) ⟨known13, hi, q1, q2, he, kd #[], q3, k2 #[], str_add (by simp only [List.length_append, List.length_cons, List.length_nil]; omega), ke #[], str_add (by simp only [List.length_append, List.length_cons, List.length_nil]; omega), str_add (by simp only [List.length_append, List.length_cons, List.length_nil]; omega), str_add (by simp only [List.length_append, List.length_cons, List.length_nil]; omega), ke #[], str_add (by simp only [List.length_append, List.length_cons, List.length_nil]; omega), str_add (by simp only [List.length_append, List.length_cons, List.length_nil]; omega), ke #[], str_add (by simp only [List.length_append, List.length_cons, List.length_nil]; omega), str_add (by simp only [List.length_append, List.length_cons, List.length_nil]; omega), ke #[], str_add (by simp only [List.length_append, List.length_cons, List.length_nil]; omega), str_add (by simp only [List.length_append, List.length_cons, List.length_nil]; omega), str_add (by simp only [List.length_append, List.length_cons, List.length_nil]; omega), ke #[], str_add (by simp only [List.length_append, List.length_cons, List.length_nil]; omega), str_add (by simp only [List.length_append, List.length_cons, List.length_nil]; omega), ke #[], str_add (by simp only [List.length_append, List.length_cons, List.length_nil]; omega), str_add (by simp only [List.length_append, List.length_cons, List.length_nil]; omega), ke #[], str_add (by simp only [List.length_append, List.length_cons, List.length_nil]; omega), str_add (by simp only [List.length_append, List.length_cons, List.length_nil]; omega), ke #[], str_add (by simp only [List.length_append, List.length_cons, List.length_nil]; omega), str_add (by simp only [List.length_append, List.length_cons, List.length_nil]; omega), str_add (by simp only [List.length_append, List.length_cons, List.length_nil]; omega), ke #[], str_add (by simp only [List.length_append, List.length_cons, List.length_nil]; omega), str_add (by simp only [List.length_append, List.length_cons, List.length_nil]; omega), str_add (by simp only [List.length_append, List.length_cons, List.length_nil]; omega), ke #[], str_add (by simp only [List.length_append, List.length_cons, List.length_nil]; omega), str_add (by simp only [List.length_append, List.length_cons, List.length_nil]; omega), str_add (by simp only [List.length_append, List.length_cons, List.length_nil]; omega), str_add (by simp only [List.length_append, List.length_cons, List.length_nil]; omega), q4, kf #[], str_add (by simp only [List.length_append, List.length_cons, List.length_nil]; omega), hw, pl_runs r0.2.1 #[], pbad r0.1 r0.2.1 r0.2.2 _, str_add (by simp only [List.length_append, List.length_cons, List.length_nil]; omega), ke #[], str_add (by simp only [List.length_append, List.length_cons, List.length_nil]; omega), pl, pg _ _, hld, heq, trivial⟩ trivial
  · exact askT_tells (wr_1 m k w (i : Nat) (2 * (i : Nat)) (n : Nat) (e : Nat) ((2 * n : Nat) : Int) ((e + 1024 : Nat) : Int) dn d2 de df (plainL ((([48] ++ dn) ++ [112]) ++ de)) (plainL ((dn ++ [112]) ++ de)) (d2 ++ [112]) ((d2 ++ [112]) ++ de) ([48] ++ dn) (([48] ++ dn) ++ [112]) ((([48] ++ dn) ++ [112]) ++ de) (dn ++ [112, 48]) ((dn ++ [112, 48]) ++ de) (dn ++ [112, 43]) ((dn ++ [112, 43]) ++ de) ([43] ++ dn) (([43] ++ dn) ++ [112]) ((([43] ++ dn) ++ [112]) ++ de) (dn ++ [112]) ([112] ++ de) (dn ++ [80]) ((dn ++ [80]) ++ de) (dn ++ [112]) ((dn ++ [112]) ++ de) (((dn ++ [112]) ++ de) ++ [112]) (dn ++ [46, 53, 112]) ((dn ++ [46, 53, 112]) ++ de) ([45, 45] ++ dn) (([45, 45] ++ dn) ++ [112]) ((([45, 45] ++ dn) ++ [112]) ++ de) (dn ++ [112, 45, 48]) ([45] ++ dn) (([45] ++ dn) ++ [112]) ((([45] ++ dn) ++ [112]) ++ df) (dn ++ [112]) ((dn ++ [112]) ++ de) C (ldW (-1) 3) (ldW 1 3) (ldW 1 (-3)) (ldW 1 0) C) ⟨known13, hi, q1, q2, he, kd #[], q3, k2 #[], str_add (by simp only [List.length_append, List.length_cons, List.length_nil]; omega), ke #[], str_add (by simp only [List.length_append, List.length_cons, List.length_nil]; omega), str_add (by simp only [List.length_append, List.length_cons, List.length_nil]; omega), str_add (by simp only [List.length_append, List.length_cons, List.length_nil]; omega), ke #[], str_add (by simp only [List.length_append, List.length_cons, List.length_nil]; omega), str_add (by simp only [List.length_append, List.length_cons, List.length_nil]; omega), ke #[], str_add (by simp only [List.length_append, List.length_cons, List.length_nil]; omega), str_add (by simp only [List.length_append, List.length_cons, List.length_nil]; omega), ke #[], str_add (by simp only [List.length_append, List.length_cons, List.length_nil]; omega), str_add (by simp only [List.length_append, List.length_cons, List.length_nil]; omega), str_add (by simp only [List.length_append, List.length_cons, List.length_nil]; omega), ke #[], str_add (by simp only [List.length_append, List.length_cons, List.length_nil]; omega), str_add (by simp only [List.length_append, List.length_cons, List.length_nil]; omega), ke #[], str_add (by simp only [List.length_append, List.length_cons, List.length_nil]; omega), str_add (by simp only [List.length_append, List.length_cons, List.length_nil]; omega), ke #[], str_add (by simp only [List.length_append, List.length_cons, List.length_nil]; omega), str_add (by simp only [List.length_append, List.length_cons, List.length_nil]; omega), ke #[], str_add (by simp only [List.length_append, List.length_cons, List.length_nil]; omega), str_add (by simp only [List.length_append, List.length_cons, List.length_nil]; omega), str_add (by simp only [List.length_append, List.length_cons, List.length_nil]; omega), ke #[], str_add (by simp only [List.length_append, List.length_cons, List.length_nil]; omega), str_add (by simp only [List.length_append, List.length_cons, List.length_nil]; omega), str_add (by simp only [List.length_append, List.length_cons, List.length_nil]; omega), ke #[], str_add (by simp only [List.length_append, List.length_cons, List.length_nil]; omega), str_add (by simp only [List.length_append, List.length_cons, List.length_nil]; omega), str_add (by simp only [List.length_append, List.length_cons, List.length_nil]; omega), str_add (by simp only [List.length_append, List.length_cons, List.length_nil]; omega), q4, kf #[], str_add (by simp only [List.length_append, List.length_cons, List.length_nil]; omega), hw, pl_runs r1.2.1 #[], pbad r1.1 r1.2.1 r1.2.2 _, str_add (by simp only [List.length_append, List.length_cons, List.length_nil]; omega), ke #[], str_add (by simp only [List.length_append, List.length_cons, List.length_nil]; omega), pl, pg _ _, hld, heq, trivial⟩ trivial
  · exact askT_tells (wr_2 m k w (i : Nat) (2 * (i : Nat)) (n : Nat) (e : Nat) ((2 * n : Nat) : Int) ((e + 1024 : Nat) : Int) dn d2 de df (plainL ((dn ++ [112, 48]) ++ de)) (plainL ((dn ++ [112]) ++ de)) (d2 ++ [112]) ((d2 ++ [112]) ++ de) ([48] ++ dn) (([48] ++ dn) ++ [112]) ((([48] ++ dn) ++ [112]) ++ de) (dn ++ [112, 48]) ((dn ++ [112, 48]) ++ de) (dn ++ [112, 43]) ((dn ++ [112, 43]) ++ de) ([43] ++ dn) (([43] ++ dn) ++ [112]) ((([43] ++ dn) ++ [112]) ++ de) (dn ++ [112]) ([112] ++ de) (dn ++ [80]) ((dn ++ [80]) ++ de) (dn ++ [112]) ((dn ++ [112]) ++ de) (((dn ++ [112]) ++ de) ++ [112]) (dn ++ [46, 53, 112]) ((dn ++ [46, 53, 112]) ++ de) ([45, 45] ++ dn) (([45, 45] ++ dn) ++ [112]) ((([45, 45] ++ dn) ++ [112]) ++ de) (dn ++ [112, 45, 48]) ([45] ++ dn) (([45] ++ dn) ++ [112]) ((([45] ++ dn) ++ [112]) ++ df) (dn ++ [112]) ((dn ++ [112]) ++ de) C (ldW (-1) 3) (ldW 1 3) (ldW 1 (-3)) (ldW 1 0) C) ⟨known13, hi, q1, q2, he, kd #[], q3, k2 #[], str_add (by simp only [List.length_append, List.length_cons, List.length_nil]; omega), ke #[], str_add (by simp only [List.length_append, List.length_cons, List.length_nil]; omega), str_add (by simp only [List.length_append, List.length_cons, List.length_nil]; omega), str_add (by simp only [List.length_append, List.length_cons, List.length_nil]; omega), ke #[], str_add (by simp only [List.length_append, List.length_cons, List.length_nil]; omega), str_add (by simp only [List.length_append, List.length_cons, List.length_nil]; omega), ke #[], str_add (by simp only [List.length_append, List.length_cons, List.length_nil]; omega), str_add (by simp only [List.length_append, List.length_cons, List.length_nil]; omega), ke #[], str_add (by simp only [List.length_append, List.length_cons, List.length_nil]; omega), str_add (by simp only [List.length_append, List.length_cons, List.length_nil]; omega), str_add (by simp only [List.length_append, List.length_cons, List.length_nil]; omega), ke #[], str_add (by simp only [List.length_append, List.length_cons, List.length_nil]; omega), str_add (by simp only [List.length_append, List.length_cons, List.length_nil]; omega), ke #[], str_add (by simp only [List.length_append, List.length_cons, List.length_nil]; omega), str_add (by simp only [List.length_append, List.length_cons, List.length_nil]; omega), ke #[], str_add (by simp only [List.length_append, List.length_cons, List.length_nil]; omega), str_add (by simp only [List.length_append, List.length_cons, List.length_nil]; omega), ke #[], str_add (by simp only [List.length_append, List.length_cons, List.length_nil]; omega), str_add (by simp only [List.length_append, List.length_cons, List.length_nil]; omega), str_add (by simp only [List.length_append, List.length_cons, List.length_nil]; omega), ke #[], str_add (by simp only [List.length_append, List.length_cons, List.length_nil]; omega), str_add (by simp only [List.length_append, List.length_cons, List.length_nil]; omega), str_add (by simp only [List.length_append, List.length_cons, List.length_nil]; omega), ke #[], str_add (by simp only [List.length_append, List.length_cons, List.length_nil]; omega), str_add (by simp only [List.length_append, List.length_cons, List.length_nil]; omega), str_add (by simp only [List.length_append, List.length_cons, List.length_nil]; omega), str_add (by simp only [List.length_append, List.length_cons, List.length_nil]; omega), q4, kf #[], str_add (by simp only [List.length_append, List.length_cons, List.length_nil]; omega), hw, pl_runs r2.2.1 #[], pbad r2.1 r2.2.1 r2.2.2 _, str_add (by simp only [List.length_append, List.length_cons, List.length_nil]; omega), ke #[], str_add (by simp only [List.length_append, List.length_cons, List.length_nil]; omega), pl, pg _ _, hld, heq, trivial⟩ trivial
  · exact askT_tells (wr_3 m k w (i : Nat) (2 * (i : Nat)) (n : Nat) (e : Nat) ((2 * n : Nat) : Int) ((e + 1024 : Nat) : Int) dn d2 de df (plainL ((dn ++ [112, 43]) ++ de)) (plainL ((dn ++ [112]) ++ de)) (d2 ++ [112]) ((d2 ++ [112]) ++ de) ([48] ++ dn) (([48] ++ dn) ++ [112]) ((([48] ++ dn) ++ [112]) ++ de) (dn ++ [112, 48]) ((dn ++ [112, 48]) ++ de) (dn ++ [112, 43]) ((dn ++ [112, 43]) ++ de) ([43] ++ dn) (([43] ++ dn) ++ [112]) ((([43] ++ dn) ++ [112]) ++ de) (dn ++ [112]) ([112] ++ de) (dn ++ [80]) ((dn ++ [80]) ++ de) (dn ++ [112]) ((dn ++ [112]) ++ de) (((dn ++ [112]) ++ de) ++ [112]) (dn ++ [46, 53, 112]) ((dn ++ [46, 53, 112]) ++ de) ([45, 45] ++ dn) (([45, 45] ++ dn) ++ [112]) ((([45, 45] ++ dn) ++ [112]) ++ de) (dn ++ [112, 45, 48]) ([45] ++ dn) (([45] ++ dn) ++ [112]) ((([45] ++ dn) ++ [112]) ++ df) (dn ++ [112]) ((dn ++ [112]) ++ de) C (ldW (-1) 3) (ldW 1 3) (ldW 1 (-3)) (ldW 1 0) C) ⟨known13, hi, q1, q2, he, kd #[], q3, k2 #[], str_add (by simp only [List.length_append, List.length_cons, List.length_nil]; omega), ke #[], str_add (by simp only [List.length_append, List.length_cons, List.length_nil]; omega), str_add (by simp only [List.length_append, List.length_cons, List.length_nil]; omega), str_add (by simp only [List.length_append, List.length_cons, List.length_nil]; omega), ke #[], str_add (by simp only [List.length_append, List.length_cons, List.length_nil]; omega), str_add (by simp only [List.length_append, List.length_cons, List.length_nil]; omega), ke #[], str_add (by simp only [List.length_append, List.length_cons, List.length_nil]; omega), str_add (by simp only [List.length_append, List.length_cons, List.length_nil]; omega), ke #[], str_add (by simp only [List.length_append, List.length_cons, List.length_nil]; omega), str_add (by simp only [List.length_append, List.length_cons, List.length_nil]; omega), str_add (by simp only [List.length_append, List.length_cons, List.length_nil]; omega), ke #[], str_add (by simp only [List.length_append, List.length_cons, List.length_nil]; omega), str_add (by simp only [List.length_append, List.length_cons, List.length_nil]; omega), ke #[], str_add (by simp only [List.length_append, List.length_cons, List.length_nil]; omega), str_add (by simp only [List.length_append, List.length_cons, List.length_nil]; omega), ke #[], str_add (by simp only [List.length_append, List.length_cons, List.length_nil]; omega), str_add (by simp only [List.length_append, List.length_cons, List.length_nil]; omega), ke #[], str_add (by simp only [List.length_append, List.length_cons, List.length_nil]; omega), str_add (by simp only [List.length_append, List.length_cons, List.length_nil]; omega), str_add (by simp only [List.length_append, List.length_cons, List.length_nil]; omega), ke #[], str_add (by simp only [List.length_append, List.length_cons, List.length_nil]; omega), str_add (by simp only [List.length_append, List.length_cons, List.length_nil]; omega), str_add (by simp only [List.length_append, List.length_cons, List.length_nil]; omega), ke #[], str_add (by simp only [List.length_append, List.length_cons, List.length_nil]; omega), str_add (by simp only [List.length_append, List.length_cons, List.length_nil]; omega), str_add (by simp only [List.length_append, List.length_cons, List.length_nil]; omega), str_add (by simp only [List.length_append, List.length_cons, List.length_nil]; omega), q4, kf #[], str_add (by simp only [List.length_append, List.length_cons, List.length_nil]; omega), hw, pl_runs r3.2.1 #[], pbad r3.1 r3.2.1 r3.2.2 _, str_add (by simp only [List.length_append, List.length_cons, List.length_nil]; omega), ke #[], str_add (by simp only [List.length_append, List.length_cons, List.length_nil]; omega), pl, pg _ _, hld, heq, trivial⟩ trivial
  · exact askT_tells (wr_4 m k w (i : Nat) (2 * (i : Nat)) (n : Nat) (e : Nat) ((2 * n : Nat) : Int) ((e + 1024 : Nat) : Int) dn d2 de df (plainL ((([43] ++ dn) ++ [112]) ++ de)) (plainL ((dn ++ [112]) ++ de)) (d2 ++ [112]) ((d2 ++ [112]) ++ de) ([48] ++ dn) (([48] ++ dn) ++ [112]) ((([48] ++ dn) ++ [112]) ++ de) (dn ++ [112, 48]) ((dn ++ [112, 48]) ++ de) (dn ++ [112, 43]) ((dn ++ [112, 43]) ++ de) ([43] ++ dn) (([43] ++ dn) ++ [112]) ((([43] ++ dn) ++ [112]) ++ de) (dn ++ [112]) ([112] ++ de) (dn ++ [80]) ((dn ++ [80]) ++ de) (dn ++ [112]) ((dn ++ [112]) ++ de) (((dn ++ [112]) ++ de) ++ [112]) (dn ++ [46, 53, 112]) ((dn ++ [46, 53, 112]) ++ de) ([45, 45] ++ dn) (([45, 45] ++ dn) ++ [112]) ((([45, 45] ++ dn) ++ [112]) ++ de) (dn ++ [112, 45, 48]) ([45] ++ dn) (([45] ++ dn) ++ [112]) ((([45] ++ dn) ++ [112]) ++ df) (dn ++ [112]) ((dn ++ [112]) ++ de) C (ldW (-1) 3) (ldW 1 3) (ldW 1 (-3)) (ldW 1 0) C) ⟨known13, hi, q1, q2, he, kd #[], q3, k2 #[], str_add (by simp only [List.length_append, List.length_cons, List.length_nil]; omega), ke #[], str_add (by simp only [List.length_append, List.length_cons, List.length_nil]; omega), str_add (by simp only [List.length_append, List.length_cons, List.length_nil]; omega), str_add (by simp only [List.length_append, List.length_cons, List.length_nil]; omega), ke #[], str_add (by simp only [List.length_append, List.length_cons, List.length_nil]; omega), str_add (by simp only [List.length_append, List.length_cons, List.length_nil]; omega), ke #[], str_add (by simp only [List.length_append, List.length_cons, List.length_nil]; omega), str_add (by simp only [List.length_append, List.length_cons, List.length_nil]; omega), ke #[], str_add (by simp only [List.length_append, List.length_cons, List.length_nil]; omega), str_add (by simp only [List.length_append, List.length_cons, List.length_nil]; omega), str_add (by simp only [List.length_append, List.length_cons, List.length_nil]; omega), ke #[], str_add (by simp only [List.length_append, List.length_cons, List.length_nil]; omega), str_add (by simp only [List.length_append, List.length_cons, List.length_nil]; omega), ke #[], str_add (by simp only [List.length_append, List.length_cons, List.length_nil]; omega), str_add (by simp only [List.length_append, List.length_cons, List.length_nil]; omega), ke #[], str_add (by simp only [List.length_append, List.length_cons, List.length_nil]; omega), str_add (by simp only [List.length_append, List.length_cons, List.length_nil]; omega), ke #[], str_add (by simp only [List.length_append, List.length_cons, List.length_nil]; omega), str_add (by simp only [List.length_append, List.length_cons, List.length_nil]; omega), str_add (by simp only [List.length_append, List.length_cons, List.length_nil]; omega), ke #[], str_add (by simp only [List.length_append, List.length_cons, List.length_nil]; omega), str_add (by simp only [List.length_append, List.length_cons, List.length_nil]; omega), str_add (by simp only [List.length_append, List.length_cons, List.length_nil]; omega), ke #[], str_add (by simp only [List.length_append, List.length_cons, List.length_nil]; omega), str_add (by simp only [List.length_append, List.length_cons, List.length_nil]; omega), str_add (by simp only [List.length_append, List.length_cons, List.length_nil]; omega), str_add (by simp only [List.length_append, List.length_cons, List.length_nil]; omega), q4, kf #[], str_add (by simp only [List.length_append, List.length_cons, List.length_nil]; omega), hw, pl_runs r4.2.1 #[], pbad r4.1 r4.2.1 r4.2.2 _, str_add (by simp only [List.length_append, List.length_cons, List.length_nil]; omega), ke #[], str_add (by simp only [List.length_append, List.length_cons, List.length_nil]; omega), pl, pg _ _, hld, heq, trivial⟩ trivial
  · exact askT_tells (wr_5 m k w (i : Nat) (2 * (i : Nat)) (n : Nat) (e : Nat) ((2 * n : Nat) : Int) ((e + 1024 : Nat) : Int) dn d2 de df (plainL dn) (plainL ((dn ++ [112]) ++ de)) (d2 ++ [112]) ((d2 ++ [112]) ++ de) ([48] ++ dn) (([48] ++ dn) ++ [112]) ((([48] ++ dn) ++ [112]) ++ de) (dn ++ [112, 48]) ((dn ++ [112, 48]) ++ de) (dn ++ [112, 43]) ((dn ++ [112, 43]) ++ de) ([43] ++ dn) (([43] ++ dn) ++ [112]) ((([43] ++ dn) ++ [112]) ++ de) (dn ++ [112]) ([112] ++ de) (dn ++ [80]) ((dn ++ [80]) ++ de) (dn ++ [112]) ((dn ++ [112]) ++ de) (((dn ++ [112]) ++ de) ++ [112]) (dn ++ [46, 53, 112]) ((dn ++ [46, 53, 112]) ++ de) ([45, 45] ++ dn) (([45, 45] ++ dn) ++ [112]) ((([45, 45] ++ dn) ++ [112]) ++ de) (dn ++ [112, 45, 48]) ([45] ++ dn) (([45] ++ dn) ++ [112]) ((([45] ++ dn) ++ [112]) ++ df) (dn ++ [112]) ((dn ++ [112]) ++ de) C (ldW (-1) 3) (ldW 1 3) (ldW 1 (-3)) (ldW 1 0) C) ⟨known13, hi, q1, q2, he, kd #[], q3, k2 #[], str_add (by simp only [List.length_append, List.length_cons, List.length_nil]; omega), ke #[], str_add (by simp only [List.length_append, List.length_cons, List.length_nil]; omega), str_add (by simp only [List.length_append, List.length_cons, List.length_nil]; omega), str_add (by simp only [List.length_append, List.length_cons, List.length_nil]; omega), ke #[], str_add (by simp only [List.length_append, List.length_cons, List.length_nil]; omega), str_add (by simp only [List.length_append, List.length_cons, List.length_nil]; omega), ke #[], str_add (by simp only [List.length_append, List.length_cons, List.length_nil]; omega), str_add (by simp only [List.length_append, List.length_cons, List.length_nil]; omega), ke #[], str_add (by simp only [List.length_append, List.length_cons, List.length_nil]; omega), str_add (by simp only [List.length_append, List.length_cons, List.length_nil]; omega), str_add (by simp only [List.length_append, List.length_cons, List.length_nil]; omega), ke #[], str_add (by simp only [List.length_append, List.length_cons, List.length_nil]; omega), str_add (by simp only [List.length_append, List.length_cons, List.length_nil]; omega), ke #[], str_add (by simp only [List.length_append, List.length_cons, List.length_nil]; omega), str_add (by simp only [List.length_append, List.length_cons, List.length_nil]; omega), ke #[], str_add (by simp only [List.length_append, List.length_cons, List.length_nil]; omega), str_add (by simp only [List.length_append, List.length_cons, List.length_nil]; omega), ke #[], str_add (by simp only [List.length_append, List.length_cons, List.length_nil]; omega), str_add (by simp only [List.length_append, List.length_cons, List.length_nil]; omega), str_add (by simp only [List.length_append, List.length_cons, List.length_nil]; omega), ke #[], str_add (by simp only [List.length_append, List.length_cons, List.length_nil]; omega), str_add (by simp only [List.length_append, List.length_cons, List.length_nil]; omega), str_add (by simp only [List.length_append, List.length_cons, List.length_nil]; omega), ke #[], str_add (by simp only [List.length_append, List.length_cons, List.length_nil]; omega), str_add (by simp only [List.length_append, List.length_cons, List.length_nil]; omega), str_add (by simp only [List.length_append, List.length_cons, List.length_nil]; omega), str_add (by simp only [List.length_append, List.length_cons, List.length_nil]; omega), q4, kf #[], str_add (by simp only [List.length_append, List.length_cons, List.length_nil]; omega), hw, pl_runs r5.2.1 #[], pbad r5.1 r5.2.1 r5.2.2 _, str_add (by simp only [List.length_append, List.length_cons, List.length_nil]; omega), ke #[], str_add (by simp only [List.length_append, List.length_cons, List.length_nil]; omega), pl, pg _ _, hld, heq, trivial⟩ trivial
  · exact askT_tells (wr_6 m k w (i : Nat) (2 * (i : Nat)) (n : Nat) (e : Nat) ((2 * n : Nat) : Int) ((e + 1024 : Nat) : Int) dn d2 de df (plainL (dn ++ [112])) (plainL ((dn ++ [112]) ++ de)) (d2 ++ [112]) ((d2 ++ [112]) ++ de) ([48] ++ dn) (([48] ++ dn) ++ [112]) ((([48] ++ dn) ++ [112]) ++ de) (dn ++ [112, 48]) ((dn ++ [112, 48]) ++ de) (dn ++ [112, 43]) ((dn ++ [112, 43]) ++ de) ([43] ++ dn) (([43] ++ dn) ++ [112]) ((([43] ++ dn) ++ [112]) ++ de) (dn ++ [112]) ([112] ++ de) (dn ++ [80]) ((dn ++ [80]) ++ de) (dn ++ [112]) ((dn ++ [112]) ++ de) (((dn ++ [112]) ++ de) ++ [112]) (dn ++ [46, 53, 112]) ((dn ++ [46, 53, 112]) ++ de) ([45, 45] ++ dn) (([45, 45] ++ dn) ++ [112]) ((([45, 45] ++ dn) ++ [112]) ++ de) (dn ++ [112, 45, 48]) ([45] ++ dn) (([45] ++ dn) ++ [112]) ((([45] ++ dn) ++ [112]) ++ df) (dn ++ [112]) ((dn ++ [112]) ++ de) C (ldW (-1) 3) (ldW 1 3) (ldW 1 (-3)) (ldW 1 0) C) ⟨known13, hi, q1, q2, he, kd #[], q3, k2 #[], str_add (by simp only [List.length_append, List.length_cons, List.length_nil]; omega), ke #[], str_add (by simp only [List.length_append, List.length_cons, List.length_nil]; omega), str_add (by simp only [List.length_append, List.length_cons, List.length_nil]; omega), str_add (by simp only [List.length_append, List.length_cons, List.length_nil]; omega), ke #[], str_add (by simp only [List.length_append, List.length_cons, List.length_nil]; omega), str_add (by simp only [List.length_append, List.length_cons, List.length_nil]; omega), ke #[], str_add (by simp only [List.length_append, List.length_cons, List.length_nil]; omega), str_add (by simp only [List.length_append, List.length_cons, List.length_nil]; omega), ke #[], str_add (by simp only [List.length_append, List.length_cons, List.length_nil]; omega), str_add (by simp only [List.length_append, List.length_cons, List.length_nil]; omega), str_add (by simp only [List.length_append, List.length_cons, List.length_nil]; omega), ke #[], str_add (by simp only [List.length_append, List.length_cons, List.length_nil]; omega), str_add (by simp only [List.length_append, List.length_cons, List.length_nil]; omega), ke #[], str_add (by simp only [List.length_append, List.length_cons, List.length_nil]; omega), str_add (by simp only [List.length_append, List.length_cons, List.length_nil]; omega), ke #[], str_add (by simp only [List.length_append, List.length_cons, List.length_nil]; omega), str_add (by simp only [List.length_append, List.length_cons, List.length_nil]; omega), ke #[], str_add (by simp only [List.length_append, List.length_cons, List.length_nil]; omega), str_add (by simp only [List.length_append, List.length_cons, List.length_nil]; omega), str_add (by simp only [List.length_append, List.length_cons, List.length_nil]; omega), ke #[], str_add (by simp only [List.length_append, List.length_cons, List.length_nil]; omega), str_add (by simp only [List.length_append, List.length_cons, List.length_nil]; omega), str_add (by simp only [List.length_append, List.length_cons, List.length_nil]; omega), ke #[], str_add (by simp only [List.length_append, List.length_cons, List.length_nil]; omega), str_add (by simp only [List.length_append, List.length_cons, List.length_nil]; omega), str_add (by simp only [List.length_append, List.length_cons, List.length_nil]; omega), str_add (by simp only [List.length_append, List.length_cons, List.length_nil]; omega), q4, kf #[], str_add (by simp only [List.length_append, List.length_cons, List.length_nil]; omega), hw, pl_runs r6.2.1 #[], pbad r6.1 r6.2.1 r6.2.2 _, str_add (by simp only [List.length_append, List.length_cons, List.length_nil]; omega), ke #[], str_add (by simp only [List.length_append, List.length_cons, List.length_nil]; omega), pl, pg _ _, hld, heq, trivial⟩ trivial
  · exact askT_tells (wr_7 m k w (i : Nat) (2 * (i : Nat)) (n : Nat) (e : Nat) ((2 * n : Nat) : Int) ((e + 1024 : Nat) : Int) dn d2 de df (plainL ([112] ++ de)) (plainL ((dn ++ [112]) ++ de)) (d2 ++ [112]) ((d2 ++ [112]) ++ de) ([48] ++ dn) (([48] ++ dn) ++ [112]) ((([48] ++ dn) ++ [112]) ++ de) (dn ++ [112, 48]) ((dn ++ [112, 48]) ++ de) (dn ++ [112, 43]) ((dn ++ [112, 43]) ++ de) ([43] ++ dn) (([43] ++ dn) ++ [112]) ((([43] ++ dn) ++ [112]) ++ de) (dn ++ [112]) ([112] ++ de) (dn ++ [80]) ((dn ++ [80]) ++ de) (dn ++ [112]) ((dn ++ [112]) ++ de) (((dn ++ [112]) ++ de) ++ [112]) (dn ++ [46, 53, 112]) ((dn ++ [46, 53, 112]) ++ de) ([45, 45] ++ dn) (([45, 45] ++ dn) ++ [112]) ((([45, 45] ++ dn) ++ [112]) ++ de) (dn ++ [112, 45, 48]) ([45] ++ dn) (([45] ++ dn) ++ [112]) ((([45] ++ dn) ++ [112]) ++ df) (dn ++ [112]) ((dn ++ [112]) ++ de) C (ldW (-1) 3) (ldW 1 3) (ldW 1 (-3)) (ldW 1 0) C) ⟨known13, hi, q1, q2, he, kd #[], q3, k2 #[], str_add (by simp only [List.length_append, List.length_cons, List.length_nil]; omega), ke #[], str_add (by simp only [List.length_append, List.length_cons, List.length_nil]; omega), str_add (by simp only [List.length_append, List.length_cons, List.length_nil]; omega), str_add (by simp only [List.length_append, List.length_cons, List.length_nil]; omega), ke #[], str_add (by simp only [List.length_append, List.length_cons, List.length_nil]; omega), str_add (by simp only [List.length_append, List.length_cons, List.length_nil]; omega), ke #[], str_add (by simp only [List.length_append, List.length_cons, List.length_nil]; omega), str_add (by simp only [List.length_append, List.length_cons, List.length_nil]; omega), ke #[], str_add (by simp only [List.length_append, List.length_cons, List.length_nil]; omega), str_add (by simp only [List.length_append, List.length_cons, List.length_nil]; omega), str_add (by simp only [List.length_append, List.length_cons, List.length_nil]; omega), ke #[], str_add (by simp only [List.length_append, List.length_cons, List.length_nil]; omega), str_add (by simp only [List.length_append, List.length_cons, List.length_nil]; omega), ke #[], str_add (by simp only [List.length_append, List.length_cons, List.length_nil]; omega), str_add (by simp only [List.length_append, List.length_cons, List.length_nil]; omega), ke #[], str_add (by simp only [List.length_append, List.length_cons, List.length_nil]; omega), str_add (by simp only [List.length_append, List.length_cons, List.length_nil]; omega), ke #[], str_add (by simp only [List.length_append, List.length_cons, List.length_nil]; omega), str_add (by simp only [List.length_append, List.length_cons, List.length_nil]; omega), str_add (by simp only [List.length_append, List.length_cons, List.length_nil]; omega), ke #[], str_add (by simp only [List.length_append, List.length_cons, List.length_nil]; omega), str_add (by simp only [List.length_append, List.length_cons, List.length_nil]; omega), str_add (by simp only [List.length_append, List.length_cons, List.length_nil]; omega), ke #[], str_add (by simp only [List.length_append, List.length_cons, List.length_nil]; omega), str_add (by simp only [List.length_append, List.length_cons, List.length_nil]; omega), str_add (by simp only [List.length_append, List.length_cons, List.length_nil]; omega), str_add (by simp only [List.length_append, List.length_cons, List.length_nil]; omega), q4, kf #[], str_add (by simp only [List.length_append, List.length_cons, List.length_nil]; omega), hw, pl_runs r7.2.1 #[], pbad r7.1 r7.2.1 r7.2.2 _, str_add (by simp only [List.length_append, List.length_cons, List.length_nil]; omega), ke #[], str_add (by simp only [List.length_append, List.length_cons, List.length_nil]; omega), pl, pg _ _, hld, heq, trivial⟩ trivial
  · exact askT_tells (wr_8 m k w (i : Nat) (2 * (i : Nat)) (n : Nat) (e : Nat) ((2 * n : Nat) : Int) ((e + 1024 : Nat) : Int) dn d2 de df (plainL ((dn ++ [80]) ++ de)) (plainL ((dn ++ [112]) ++ de)) (d2 ++ [112]) ((d2 ++ [112]) ++ de) ([48] ++ dn) (([48] ++ dn) ++ [112]) ((([48] ++ dn) ++ [112]) ++ de) (dn ++ [112, 48]) ((dn ++ [112, 48]) ++ de) (dn ++ [112, 43]) ((dn ++ [112, 43]) ++ de) ([43] ++ dn) (([43] ++ dn) ++ [112]) ((([43] ++ dn) ++ [112]) ++ de) (dn ++ [112]) ([112] ++ de) (dn ++ [80]) ((dn ++ [80]) ++ de) (dn ++ [112]) ((dn ++ [112]) ++ de) (((dn ++ [112]) ++ de) ++ [112]) (dn ++ [46, 53, 112]) ((dn ++ [46, 53, 112]) ++ de) ([45, 45] ++ dn) (([45, 45] ++ dn) ++ [112]) ((([45, 45] ++ dn) ++ [112]) ++ de) (dn ++ [112, 45, 48]) ([45] ++ dn) (([45] ++ dn) ++ [112]) ((([45] ++ dn) ++ [112]) ++ df) (dn ++ [112]) ((dn ++ [112]) ++ de) C (ldW (-1) 3) (ldW 1 3) (ldW 1 (-3)) (ldW 1 0) C) ⟨known13, hi, q1, q2, he, kd #[], q3, k2 #[], str_add (by simp only [List.length_append, List.length_cons, List.length_nil]; omega), ke #[], str_add (by simp only [List.length_append, List.length_cons, List.length_nil]; omega), str_add (by simp only [List.length_append, List.length_cons, List.length_nil]; omega), str_add (by simp only [List.length_append, List.length_cons, List.length_nil]; omega), ke #[], str_add (by simp only [List.length_append, List.length_cons, List.length_nil]; omega), str_add (by simp only [List.length_append, List.length_cons, List.length_nil]; omega), ke #[], str_add (by simp only [List.length_append, List.length_cons, List.length_nil]; omega), str_add (by simp only [List.length_append, List.length_cons, List.length_nil]; omega), ke #[], str_add (by simp only [List.length_append, List.length_cons, List.length_nil]; omega), str_add (by simp only [List.length_append, List.length_cons, List.length_nil]; omega), str_add (by simp only [List.length_append, List.length_cons, List.length_nil]; omega), ke #[], str_add (by simp only [List.length_append, List.length_cons, List.length_nil]; omega), str_add (by simp only [List.length_append, List.length_cons, List.length_nil]; omega), ke #[], str_add (by simp only [List.length_append, List.length_cons, List.length_nil]; omega), str_add (by simp only [List.length_append, List.length_cons, List.length_nil]; omega), ke #[], str_add (by simp only [List.length_append, List.length_cons, List.length_nil]; omega), str_add (by simp only [List.length_append, List.length_cons, List.length_nil]; omega), ke #[], str_add (by simp only [List.length_append, List.length_cons, List.length_nil]; omega), str_add (by simp only [List.length_append, List.length_cons, List.length_nil]; omega), str_add (by simp only [List.length_append, List.length_cons, List.length_nil]; omega), ke #[], str_add (by simp only [List.length_append, List.length_cons, List.length_nil]; omega), str_add (by simp only [List.length_append, List.length_cons, List.length_nil]; omega), str_add (by simp only [List.length_append, List.length_cons, List.length_nil]; omega), ke #[], str_add (by simp only [List.length_append, List.length_cons, List.length_nil]; omega), str_add (by simp only [List.length_append, List.length_cons, List.length_nil]; omega), str_add (by simp only [List.length_append, List.length_cons, List.length_nil]; omega), str_add (by simp only [List.length_append, List.length_cons, List.length_nil]; omega), q4, kf #[], str_add (by simp only [List.length_append, List.length_cons, List.length_nil]; omega), hw, pl_runs r8.2.1 #[], pbad r8.1 r8.2.1 r8.2.2 _, str_add (by simp only [List.length_append, List.length_cons, List.length_nil]; omega), ke #[], str_add (by simp only [List.length_append, List.length_cons, List.length_nil]; omega), pl, pg _ _, hld, heq, trivial⟩ trivial
  · exact askT_tells (wr_9 m k w (i : Nat) (2 * (i : Nat)) (n : Nat) (e : Nat) ((2 * n : Nat) : Int) ((e + 1024 : Nat) : Int) dn d2 de df (plainL (((dn ++ [112]) ++ de) ++ [112])) (plainL ((dn ++ [112]) ++ de)) (d2 ++ [112]) ((d2 ++ [112]) ++ de) ([48] ++ dn) (([48] ++ dn) ++ [112]) ((([48] ++ dn) ++ [112]) ++ de) (dn ++ [112, 48]) ((dn ++ [112, 48]) ++ de) (dn ++ [112, 43]) ((dn ++ [112, 43]) ++ de) ([43] ++ dn) (([43] ++ dn) ++ [112]) ((([43] ++ dn) ++ [112]) ++ de) (dn ++ [112]) ([112] ++ de) (dn ++ [80]) ((dn ++ [80]) ++ de) (dn ++ [112]) ((dn ++ [112]) ++ de) (((dn ++ [112]) ++ de) ++ [112]) (dn ++ [46, 53, 112]) ((dn ++ [46, 53, 112]) ++ de) ([45, 45] ++ dn) (([45, 45] ++ dn) ++ [112]) ((([45, 45] ++ dn) ++ [112]) ++ de) (dn ++ [112, 45, 48]) ([45] ++ dn) (([45] ++ dn) ++ [112]) ((([45] ++ dn) ++ [112]) ++ df) (dn ++ [112]) ((dn ++ [112]) ++ de) C (ldW (-1) 3) (ldW 1 3) (ldW 1 (-3)) (ldW 1 0) C) ⟨known13, hi, q1, q2, he, kd #[], q3, k2 #[], str_add (by simp only [List.length_append, List.length_cons, List.length_nil]; omega), ke #[], str_add (by simp only [List.length_append, List.length_cons, List.length_nil]; omega), str_add (by simp only [List.length_append, List.length_cons, List.length_nil]; omega), str_add (by simp only [List.length_append, List.length_cons, List.length_nil]; omega), ke #[], str_add (by simp only [List.length_append, List.length_cons, List.length_nil]; omega), str_add (by simp only [List.length_append, List.length_cons, List.length_nil]; omega), ke #[], str_add (by simp only [List.length_append, List.length_cons, List.length_nil]; omega), str_add (by simp only [List.length_append, List.length_cons, List.length_nil]; omega), ke #[], str_add (by simp only [List.length_append, List.length_cons, List.length_nil]; omega), str_add (by simp only [List.length_append, List.length_cons, List.length_nil]; omega), str_add (by simp only [List.length_append, List.length_cons, List.length_nil]; omega), ke #[], str_add (by simp only [List.length_append, List.length_cons, List.length_nil]; omega), str_add (by simp only [List.length_append, List.length_cons, List.length_nil]; omega), ke #[], str_add (by simp only [List.length_append, List.length_cons, List.length_nil]; omega), str_add (by simp only [List.length_append, List.length_cons, List.length_nil]; omega), ke #[], str_add (by simp only [List.length_append, List.length_cons, List.length_nil]; omega), str_add (by simp only [List.length_append, List.length_cons, List.length_nil]; omega), ke #[], str_add (by simp only [List.length_append, List.length_cons, List.length_nil]; omega), str_add (by simp only [List.length_append, List.length_cons, List.length_nil]; omega), str_add (by simp only [List.length_append, List.length_cons, List.length_nil]; omega), ke #[], str_add (by simp only [List.length_append, List.length_cons, List.length_nil]; omega), str_add (by simp only [List.length_append, List.length_cons, List.length_nil]; omega), str_add (by simp only [List.length_append, List.length_cons, List.length_nil]; omega), ke #[], str_add (by simp only [List.length_append, List.length_cons, List.length_nil]; omega), str_add (by simp only [List.length_append, List.length_cons, List.length_nil]; omega), str_add (by simp only [List.length_append, List.length_cons, List.length_nil]; omega), str_add (by simp only [List.length_append, List.length_cons, List.length_nil]; omega), q4, kf #[], str_add (by simp only [List.length_append, List.length_cons, List.length_nil]; omega), hw, pl_runs r9.2.1 #[], pbad r9.1 r9.2.1 r9.2.2 _, str_add (by simp only [List.length_append, List.length_cons, List.length_nil]; omega), ke #[], str_add (by simp only [List.length_append, List.length_cons, List.length_nil]; omega), pl, pg _ _, hld, heq, trivial⟩ trivial
  · exact askT_tells (wr_10 m k w (i : Nat) (2 * (i : Nat)) (n : Nat) (e : Nat) ((2 * n : Nat) : Int) ((e + 1024 : Nat) : Int) dn d2 de df (plainL ((dn ++ [46, 53, 112]) ++ de)) (plainL ((dn ++ [112]) ++ de)) (d2 ++ [112]) ((d2 ++ [112]) ++ de) ([48] ++ dn) (([48] ++ dn) ++ [112]) ((([48] ++ dn) ++ [112]) ++ de) (dn ++ [112, 48]) ((dn ++ [112, 48]) ++ de) (dn ++ [112, 43]) ((dn ++ [112, 43]) ++ de) ([43] ++ dn) (([43] ++ dn) ++ [112]) ((([43] ++ dn) ++ [112]) ++ de) (dn ++ [112]) ([112] ++ de) (dn ++ [80]) ((dn ++ [80]) ++ de) (dn ++ [112]) ((dn ++ [112]) ++ de) (((dn ++ [112]) ++ de) ++ [112]) (dn ++ [46, 53, 112]) ((dn ++ [46, 53, 112]) ++ de) ([45, 45] ++ dn) (([45, 45] ++ dn) ++ [112]) ((([45, 45] ++ dn) ++ [112]) ++ de) (dn ++ [112, 45, 48]) ([45] ++ dn) (([45] ++ dn) ++ [112]) ((([45] ++ dn) ++ [112]) ++ df) (dn ++ [112]) ((dn ++ [112]) ++ de) C (ldW (-1) 3) (ldW 1 3) (ldW 1 (-3)) (ldW 1 0) C) ⟨known13, hi, q1, q2, he, kd #[], q3, k2 #[], str_add (by simp only [List.length_append, List.length_cons, List.length_nil]; omega), ke #[], str_add (by simp only [List.length_append, List.length_cons, List.length_nil]; omega), str_add (by simp only [List.length_append, List.length_cons, List.length_nil]; omega), str_add (by simp only [List.length_append, List.length_cons, List.length_nil]; omega), ke #[], str_add (by simp only [List.length_append, List.length_cons, List.length_nil]; omega), str_add (by simp only [List.length_append, List.length_cons, List.length_nil]; omega), ke #[], str_add (by simp only [List.length_append, List.length_cons, List.length_nil]; omega), str_add (by simp only [List.length_append, List.length_cons, List.length_nil]; omega), ke #[], str_add (by simp only [List.length_append, List.length_cons, List.length_nil]; omega), str_add (by simp only [List.length_append, List.length_cons, List.length_nil]; omega), str_add (by simp only [List.length_append, List.length_cons, List.length_nil]; omega), ke #[], str_add (by simp only [List.length_append, List.length_cons, List.length_nil]; omega), str_add (by simp only [List.length_append, List.length_cons, List.length_nil]; omega), ke #[], str_add (by simp only [List.length_append, List.length_cons, List.length_nil]; omega), str_add (by simp only [List.length_append, List.length_cons, List.length_nil]; omega), ke #[], str_add (by simp only [List.length_append, List.length_cons, List.length_nil]; omega), str_add (by simp only [List.length_append, List.length_cons, List.length_nil]; omega), ke #[], str_add (by simp only [List.length_append, List.length_cons, List.length_nil]; omega), str_add (by simp only [List.length_append, List.length_cons, List.length_nil]; omega), str_add (by simp only [List.length_append, List.length_cons, List.length_nil]; omega), ke #[], str_add (by simp only [List.length_append, List.length_cons, List.length_nil]; omega), str_add (by simp only [List.length_append, List.length_cons, List.length_nil]; omega), str_add (by simp only [List.length_append, List.length_cons, List.length_nil]; omega), ke #[], str_add (by simp only [List.length_append, List.length_cons, List.length_nil]; omega), str_add (by simp only [List.length_append, List.length_cons, List.length_nil]; omega), str_add (by simp only [List.length_append, List.length_cons, List.length_nil]; omega), str_add (by simp only [List.length_append, List.length_cons, List.length_nil]; omega), q4, kf #[], str_add (by simp only [List.length_append, List.length_cons, List.length_nil]; omega), hw, pl_runs r10.2.1 #[], pbad r10.1 r10.2.1 r10.2.2 _, str_add (by simp only [List.length_append, List.length_cons, List.length_nil]; omega), ke #[], str_add (by simp only [List.length_append, List.length_cons, List.length_nil]; omega), pl, pg _ _, hld, heq, trivial⟩ trivial
  · exact askT_tells (wr_11 m k w (i : Nat) (2 * (i : Nat)) (n : Nat) (e : Nat) ((2 * n : Nat) : Int) ((e + 1024 : Nat) : Int) dn d2 de df (plainL ((([45, 45] ++ dn) ++ [112]) ++ de)) (plainL ((dn ++ [112]) ++ de)) (d2 ++ [112]) ((d2 ++ [112]) ++ de) ([48] ++ dn) (([48] ++ dn) ++ [112]) ((([48] ++ dn) ++ [112]) ++ de) (dn ++ [112, 48]) ((dn ++ [112, 48]) ++ de) (dn ++ [112, 43]) ((dn ++ [112, 43]) ++ de) ([43] ++ dn) (([43] ++ dn) ++ [112]) ((([43] ++ dn) ++ [112]) ++ de) (dn ++ [112]) ([112] ++ de) (dn ++ [80]) ((dn ++ [80]) ++ de) (dn ++ [112]) ((dn ++ [112]) ++ de) (((dn ++ [112]) ++ de) ++ [112]) (dn ++ [46, 53, 112]) ((dn ++ [46, 53, 112]) ++ de) ([45, 45] ++ dn) (([45, 45] ++ dn) ++ [112]) ((([45, 45] ++ dn) ++ [112]) ++ de) (dn ++ [112, 45, 48]) ([45] ++ dn) (([45] ++ dn) ++ [112]) ((([45] ++ dn) ++ [112]) ++ df) (dn ++ [112]) ((dn ++ [112]) ++ de) C (ldW (-1) 3) (ldW 1 3) (ldW 1 (-3)) (ldW 1 0) C) ⟨known13, hi, q1, q2, he, kd #[], q3, k2 #[], str_add (by simp only [List.length_append, List.length_cons, List.length_nil]; omega), ke #[], str_add (by simp only [List.length_append, List.length_cons, List.length_nil]; omega), str_add (by simp only [List.length_append, List.length_cons, List.length_nil]; omega), str_add (by simp only [List.length_append, List.length_cons, List.length_nil]; omega), ke #[], str_add (by simp only [List.length_append, List.length_cons, List.length_nil]; omega), str_add (by simp only [List.length_append, List.length_cons, List.length_nil]; omega), ke #[], str_add (by simp only [List.length_append, List.length_cons, List.length_nil]; omega), str_add (by simp only [List.length_append, List.length_cons, List.length_nil]; omega), ke #[], str_add (by simp only [List.length_append, List.length_cons, List.length_nil]; omega), str_add (by simp only [List.length_append, List.length_cons, List.length_nil]; omega), str_add (by simp only [List.length_append, List.length_cons, List.length_nil]; omega), ke #[], str_add (by simp only [List.length_append, List.length_cons, List.length_nil]; omega), str_add (by simp only [List.length_append, List.length_cons, List.length_nil]; omega), ke #[], str_add (by simp only [List.length_append, List.length_cons, List.length_nil]; omega), str_add (by simp only [List.length_append, List.length_cons, List.length_nil]; omega), ke #[], str_add (by simp only [List.length_append, List.length_cons, List.length_nil]; omega), str_add (by simp only [List.length_append, List.length_cons, List.length_nil]; omega), ke #[], str_add (by simp only [List.length_append, List.length_cons, List.length_nil]; omega), str_add (by simp only [List.length_append, List.length_cons, List.length_nil]; omega), str_add (by simp only [List.length_append, List.length_cons, List.length_nil]; omega), ke #[], str_add (by simp only [List.length_append, List.length_cons, List.length_nil]; omega), str_add (by simp only [List.length_append, List.length_cons, List.length_nil]; omega), str_add (by simp only [List.length_append, List.length_cons, List.length_nil]; omega), ke #[], str_add (by simp only [List.length_append, List.length_cons, List.length_nil]; omega), str_add (by simp only [List.length_append, List.length_cons, List.length_nil]; omega), str_add (by simp only [List.length_append, List.length_cons, List.length_nil]; omega), str_add (by simp only [List.length_append, List.length_cons, List.length_nil]; omega), q4, kf #[], str_add (by simp only [List.length_append, List.length_cons, List.length_nil]; omega), hw, pl_runs r11.2.1 #[], pbad r11.1 r11.2.1 r11.2.2 _, str_add (by simp only [List.length_append, List.length_cons, List.length_nil]; omega), ke #[], str_add (by simp only [List.length_append, List.length_cons, List.length_nil]; omega), pl, pg _ _, hld, heq, trivial⟩ trivial
  · exact askT_tells (wr_12 m k w (i : Nat) (2 * (i : Nat)) (n : Nat) (e : Nat) ((2 * n : Nat) : Int) ((e + 1024 : Nat) : Int) dn d2 de df (plainL [48, 112, 49]) (plainL ((dn ++ [112]) ++ de)) (d2 ++ [112]) ((d2 ++ [112]) ++ de) ([48] ++ dn) (([48] ++ dn) ++ [112]) ((([48] ++ dn) ++ [112]) ++ de) (dn ++ [112, 48]) ((dn ++ [112, 48]) ++ de) (dn ++ [112, 43]) ((dn ++ [112, 43]) ++ de) ([43] ++ dn) (([43] ++ dn) ++ [112]) ((([43] ++ dn) ++ [112]) ++ de) (dn ++ [112]) ([112] ++ de) (dn ++ [80]) ((dn ++ [80]) ++ de) (dn ++ [112]) ((dn ++ [112]) ++ de) (((dn ++ [112]) ++ de) ++ [112]) (dn ++ [46, 53, 112]) ((dn ++ [46, 53, 112]) ++ de) ([45, 45] ++ dn) (([45, 45] ++ dn) ++ [112]) ((([45, 45] ++ dn) ++ [112]) ++ de) (dn ++ [112, 45, 48]) ([45] ++ dn) (([45] ++ dn) ++ [112]) ((([45] ++ dn) ++ [112]) ++ df) (dn ++ [112]) ((dn ++ [112]) ++ de) C (ldW (-1) 3) (ldW 1 3) (ldW 1 (-3)) (ldW 1 0) C) ⟨known13, hi, q1, q2, he, kd #[], q3, k2 #[], str_add (by simp only [List.length_append, List.length_cons, List.length_nil]; omega), ke #[], str_add (by simp only [List.length_append, List.length_cons, List.length_nil]; omega), str_add (by simp only [List.length_append, List.length_cons, List.length_nil]; omega), str_add (by simp only [List.length_append, List.length_cons, List.length_nil]; omega), ke #[], str_add (by simp only [List.length_append, List.length_cons, List.length_nil]; omega), str_add (by simp only [List.length_append, List.length_cons, List.length_nil]; omega), ke #[], str_add (by simp only [List.length_append, List.length_cons, List.length_nil]; omega), str_add (by simp only [List.length_append, List.length_cons, List.length_nil]; omega), ke #[], str_add (by simp only [List.length_append, List.length_cons, List.length_nil]; omega), str_add (by simp only [List.length_append, List.length_cons, List.length_nil]; omega), str_add (by simp only [List.length_append, List.length_cons, List.length_nil]; omega), ke #[], str_add (by simp only [List.length_append, List.length_cons, List.length_nil]; omega), str_add (by simp only [List.length_append, List.length_cons, List.length_nil]; omega), ke #[], str_add (by simp only [List.length_append, List.length_cons, List.length_nil]; omega), str_add (by simp only [List.length_append, List.length_cons, List.length_nil]; omega), ke #[], str_add (by simp only [List.length_append, List.length_cons, List.length_nil]; omega), str_add (by simp only [List.length_append, List.length_cons, List.length_nil]; omega), ke #[], str_add (by simp only [List.length_append, List.length_cons, List.length_nil]; omega), str_add (by simp only [List.length_append, List.length_cons, List.length_nil]; omega), str_add (by simp only [List.length_append, List.length_cons, List.length_nil]; omega), ke #[], str_add (by simp only [List.length_append, List.length_cons, List.length_nil]; omega), str_add (by simp only [List.length_append, List.length_cons, List.length_nil]; omega), str_add (by simp only [List.length_append, List.length_cons, List.length_nil]; omega), ke #[], str_add (by simp only [List.length_append, List.length_cons, List.length_nil]; omega), str_add (by simp only [List.length_append, List.length_cons, List.length_nil]; omega), str_add (by simp only [List.length_append, List.length_cons, List.length_nil]; omega), str_add (by simp only [List.length_append, List.length_cons, List.length_nil]; omega), q4, kf #[], str_add (by simp only [List.length_append, List.length_cons, List.length_nil]; omega), hw, pl_runs r12.2.1 #[], pbad r12.1 r12.2.1 r12.2.2 _, str_add (by simp only [List.length_append, List.length_cons, List.length_nil]; omega), ke #[], str_add (by simp only [List.length_append, List.length_cons, List.length_nil]; omega), pl, pg _ _, hld, heq, trivial⟩ trivial
  · exact askT_tells (wr_13 m k w (i : Nat) (2 * (i : Nat)) (n : Nat) (e : Nat) ((2 * n : Nat) : Int) ((e + 1024 : Nat) : Int) dn d2 de df (plainL (dn ++ [112, 45, 48])) (plainL ((dn ++ [112]) ++ de)) (d2 ++ [112]) ((d2 ++ [112]) ++ de) ([48] ++ dn) (([48] ++ dn) ++ [112]) ((([48] ++ dn) ++ [112]) ++ de) (dn ++ [112, 48]) ((dn ++ [112, 48]) ++ de) (dn ++ [112, 43]) ((dn ++ [112, 43]) ++ de) ([43] ++ dn) (([43] ++ dn) ++ [112]) ((([43] ++ dn) ++ [112]) ++ de) (dn ++ [112]) ([112] ++ de) (dn ++ [80]) ((dn ++ [80]) ++ de) (dn ++ [112]) ((dn ++ [112]) ++ de) (((dn ++ [112]) ++ de) ++ [112]) (dn ++ [46, 53, 112]) ((dn ++ [46, 53, 112]) ++ de) ([45, 45] ++ dn) (([45, 45] ++ dn) ++ [112]) ((([45, 45] ++ dn) ++ [112]) ++ de) (dn ++ [112, 45, 48]) ([45] ++ dn) (([45] ++ dn) ++ [112]) ((([45] ++ dn) ++ [112]) ++ df) (dn ++ [112]) ((dn ++ [112]) ++ de) C (ldW (-1) 3) (ldW 1 3) (ldW 1 (-3)) (ldW 1 0) C) ⟨known13, hi, q1, q2, he, kd #[], q3, k2 #[], str_add (by simp only [List.length_append, List.length_cons, List.length_nil]; omega), ke #[], str_add (by simp only [List.length_append, List.length_cons, List.length_nil]; omega), str_add (by simp only [List.length_append, List.length_cons, List.length_nil]; omega), str_add (by simp only [List.length_append, List.length_cons, List.length_nil]; omega), ke #[], str_add (by simp only [List.length_append, List.length_cons, List.length_nil]; omega), str_add (by simp only [List.length_append, List.length_cons, List.length_nil]; omega), ke #[], str_add (by simp only [List.length_append, List.length_cons, List.length_nil]; omega), str_add (by simp only [List.length_append, List.length_cons, List.length_nil]; omega), ke #[], str_add (by simp only [List.length_append, List.length_cons, List.length_nil]; omega), str_add (by simp only [List.length_append, List.length_cons, List.length_nil]; omega), str_add (by simp only [List.length_append, List.length_cons, List.length_nil]; omega), ke #[], str_add (by simp only [List.length_append, List.length_cons, List.length_nil]; omega), str_add (by simp only [List.length_append, List.length_cons, List.length_nil]; omega), ke #[], str_add (by simp only [List.length_append, List.length_cons, List.length_nil]; omega), str_add (by simp only [List.length_append, List.length_cons, List.length_nil]; omega), ke #[], str_add (by simp only [List.length_append, List.length_cons, List.length_nil]; omega), str_add (by simp only [List.length_append, List.length_cons, List.length_nil]; omega), ke #[], str_add (by simp only [List.length_append, List.length_cons, List.length_nil]; omega), str_add (by simp only [List.length_append, List.length_cons, List.length_nil]; omega), str_add (by simp only [List.length_append, List.length_cons, List.length_nil]; omega), ke #[], str_add (by simp only [List.length_append, List.length_cons, List.length_nil]; omega), str_add (by simp only [List.length_append, List.length_cons, List.length_nil]; omega), str_add (by simp only [List.length_append, List.length_cons, List.length_nil]; omega), ke #[], str_add (by simp only [List.length_append, List.length_cons, List.length_nil]; omega), str_add (by simp only [List.length_append, List.length_cons, List.length_nil]; omega), str_add (by simp only [List.length_append, List.length_cons, List.length_nil]; omega), str_add (by simp only [List.length_append, List.length_cons, List.length_nil]; omega), q4, kf #[], str_add (by simp only [List.length_append, List.length_cons, List.length_nil]; omega), hw, pl_runs r13.2.1 #[], pbad r13.1 r13.2.1 r13.2.2 _, str_add (by simp only [List.length_append, List.length_cons, List.length_nil]; omega), ke #[], str_add (by simp only [List.length_append, List.length_cons, List.length_nil]; omega), pl, pg _ _, hld, heq, trivial⟩ trivial
  · exact askT_tells (wr_14 m k w (i : Nat) (2 * (i : Nat)) (n : Nat) (e : Nat) ((2 * n : Nat) : Int) ((e + 1024 : Nat) : Int) dn d2 de df (plainL ((([45] ++ dn) ++ [112]) ++ df)) (plainL ((dn ++ [112]) ++ de)) (d2 ++ [112]) ((d2 ++ [112]) ++ de) ([48] ++ dn) (([48] ++ dn) ++ [112]) ((([48] ++ dn) ++ [112]) ++ de) (dn ++ [112, 48]) ((dn ++ [112, 48]) ++ de) (dn ++ [112, 43]) ((dn ++ [112, 43]) ++ de) ([43] ++ dn) (([43] ++ dn) ++ [112]) ((([43] ++ dn) ++ [112]) ++ de) (dn ++ [112]) ([112] ++ de) (dn ++ [80]) ((dn ++ [80]) ++ de) (dn ++ [112]) ((dn ++ [112]) ++ de) (((dn ++ [112]) ++ de) ++ [112]) (dn ++ [46, 53, 112]) ((dn ++ [46, 53, 112]) ++ de) ([45, 45] ++ dn) (([45, 45] ++ dn) ++ [112]) ((([45, 45] ++ dn) ++ [112]) ++ de) (dn ++ [112, 45, 48]) ([45] ++ dn) (([45] ++ dn) ++ [112]) ((([45] ++ dn) ++ [112]) ++ df) (dn ++ [112]) ((dn ++ [112]) ++ de) C (ldW (-1) 3) (ldW 1 3) (ldW 1 (-3)) (ldW 1 0) C) ⟨known13, hi, q1, q2, he, kd #[], q3, k2 #[], str_add (by simp only [List.length_append, List.length_cons, List.length_nil]; omega), ke #[], str_add (by simp only [List.length_append, List.length_cons, List.length_nil]; omega), str_add (by simp only [List.length_append, List.length_cons, List.length_nil]; omega), str_add (by simp only [List.length_append, List.length_cons, List.length_nil]; omega), ke #[], str_add (by simp only [List.length_append, List.length_cons, List.length_nil]; omega), str_add (by simp only [List.length_append, List.length_cons, List.length_nil]; omega), ke #[], str_add (by simp only [List.length_append, List.length_cons, List.length_nil]; omega), str_add (by simp only [List.length_append, List.length_cons, List.length_nil]; omega), ke #[], str_add (by simp only [List.length_append, List.length_cons, List.length_nil]; omega), str_add (by simp only [List.length_append, List.length_cons, List.length_nil]; omega), str_add (by simp only [List.length_append, List.length_cons, List.length_nil]; omega), ke #[], str_add (by simp only [List.length_append, List.length_cons, List.length_nil]; omega), str_add (by simp only [List.length_append, List.length_cons, List.length_nil]; omega), ke #[], str_add (by simp only [List.length_append, List.length_cons, List.length_nil]; omega), str_add (by simp only [List.length_append, List.length_cons, List.length_nil]; omega), ke #[], str_add (by simp only [List.length_append, List.length_cons, List.length_nil]; omega), str_add (by simp only [List.length_append, List.length_cons, List.length_nil]; omega), ke #[], str_add (by simp only [List.length_append, List.length_cons, List.length_nil]; omega), str_add (by simp only [List.length_append, List.length_cons, List.length_nil]; omega), str_add (by simp only [List.length_append, List.length_cons, List.length_nil]; omega), ke #[], str_add (by simp only [List.length_append, List.length_cons, List.length_nil]; omega), str_add (by simp only [List.length_append, List.length_cons, List.length_nil]; omega), str_add (by simp only [List.length_append, List.length_cons, List.length_nil]; omega), ke #[], str_add (by simp only [List.length_append, List.length_cons, List.length_nil]; omega), str_add (by simp only [List.length_append, List.length_cons, List.length_nil]; omega), str_add (by simp only [List.length_append, List.length_cons, List.length_nil]; omega), str_add (by simp only [List.length_append, List.length_cons, List.length_nil]; omega), q4, kf #[], str_add (by simp only [List.length_append, List.length_cons, List.length_nil]; omega), hw, pl_runs r14.2.1 #[], pbad r14.1 r14.2.1 r14.2.2 _, str_add (by simp only [List.length_append, List.length_cons, List.length_nil]; omega), ke #[], str_add (by simp only [List.length_append, List.length_cons, List.length_nil]; omega), pl, pg _ _, hld, heq, trivial⟩ trivial

end Go.Proofs.YtameamgamdaibaaDoor
