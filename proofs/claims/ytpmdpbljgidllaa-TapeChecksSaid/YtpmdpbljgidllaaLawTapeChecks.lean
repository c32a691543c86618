/- The law TapeChecks returns true, whatever the numbers. -/
import Derived.Test.YtpmdpbljgidllaaTkM
namespace Go.Proofs.Ytpmdpbljgidllaa
open Go
set_option linter.unusedVariables false
set_option linter.unusedSimpArgs false
set_option maxRecDepth 100000

theorem tapeKnownK : Runs Try.prog 12 #[] #[] (.bool true) #[] := by
  have h : (askN noF noC 12 12 #[] #[] []).map (fun r => (r.1, r.2.2)) = some (.bool true, []) := by kernel_rfl
  obtain ⟨H', h⟩ := tells_of h trivial
  exact h.quiet rfl rfl #[]
theorem rn_nil {f : FuncId} {args : Array Value} {l : List (Option ABlk)} {v : Value} (h : Runs Try.prog f args (froze l.toArray) v (froze l.toArray)) : (rnO f args l v []).ok Try.prog := by
  have e : froze l.toArray ++ ([] : List (Option ABlk)).toArray = froze l.toArray := by
    apply Array.ext'
    simp
  show Runs _ _ _ _ _ (froze l.toArray ++ ([] : List (Option ABlk)).toArray)
  rw [e]
  exact h
theorem rare_nac (z : Int) : ∃ f, Runs Try.prog 18 #[.int .i64 z] #[] (.float .f64 f) #[] ∧ NaC f := by
  have h1 := Int.emod_nonneg z (b := 10) (by decide)
  have h2 := Int.emod_lt_of_pos z (b := 10) (by decide)
  have hw := within1 z 9 (by decide)
  have fin : ∀ (k : Int) (f : Nat), NaC f → z % 10 = k → (askN (fun g => if g == 43 then 1 else 0) noC 12 18 #[.int .i64 z] #[] [isI k]).map (fun r => (r.1, r.2.2)) = some (.float .f64 f, [.run 43 #[.int .i64 z, .int .i64 (Int.ofNat 10)] #[] (.int .i64 k) #[]]) →
      ∃ f, Runs Try.prog 18 #[.int .i64 z] #[] (.float .f64 f) #[] ∧ NaC f := by
    intro k f hf hk hr
    have e : z % Int.ofNat (9 + 1) = k := hk
    rw [e] at hw
    obtain ⟨H', r⟩ := tells_of hr ⟨hw, trivial⟩
    exact ⟨f, r.quiet rfl rfl #[], hf⟩
  have nn : ∀ {x : Nat}, (x < 18446744073709551616 ∧ -9218868437227405312 ≤ ix x ∧ ix x ≤ 9218868437227405312) → NaC x := fun h => .inl h
  have : z % 10 = 0 ∨ z % 10 = 1 ∨ z % 10 = 2 ∨ z % 10 = 3 ∨ z % 10 = 4 ∨ z % 10 = 5 ∨ z % 10 = 6 ∨ z % 10 = 7 ∨ z % 10 = 8 ∨ z % 10 = 9 := by omega
  rcases this with h | h | h | h | h | h | h | h | h | h
  · exact fin 0 9221120237041090561 (.inr (.inr rfl)) h (by kernel_rfl)
  · exact fin 1 9218868437227405312 (nn (by decide)) h (by kernel_rfl)
  · exact fin 2 18442240474082181120 (nn (by decide)) h (by kernel_rfl)
  · exact fin 3 0 (nn (by decide)) h (by kernel_rfl)
  · exact fin 4 1 (nn (by decide)) h (by kernel_rfl)
  · exact fin 5 18442240474082181119 (nn (by decide)) h (by kernel_rfl)
  · exact fin 6 9218868437227405311 (nn (by decide)) h (by kernel_rfl)
  · exact fin 7 4607182418800017408 (nn (by decide)) h (by kernel_rfl)
  · exact fin 8 4602678819172646912 (nn (by decide)) h (by kernel_rfl)
  · exact fin 9 13835058055282163712 (nn (by decide)) h (by kernel_rfl)

/-! what is written -/
theorem flat_one : ∀ l : List Value, l.flatMap (fun v => [v]) = l
  | [] => rfl
  | v :: l => by rw [List.flatMap_cons, flat_one l]; rfl
theorem wr_one {l : List (Option ABlk)} {b i : Nat} {B : ABlk} {t : TypeId} {v : Value} {cells : List Value} (ht : sizeB Try.prog t 1 = true) (hv : v.cells = #[v]) (h1 : oneC v = true) (hb : l[b]? = some (some B)) (ho : B.own = true) (hc : B.cells = cells.toArray) (hi : i < cells.length) :
    writeVar Try.prog l.toArray t ⟨b, i, none⟩ v = some (l.set b (some { B with cells := (cells.set i v).toArray })).toArray := by
  obtain ⟨inf, g1, g2⟩ := sizeB_ex ht
  have h := wr_at (P := Try.prog) (f := fun v : Value => [v]) (n := 1) (fun _ => rfl) g1 g2 (H := l.toArray) (b := b) (k := i) (B := B) (l := cells) (a := v) (v := v) hv (by simp [h1]) (by simpa using hb) ho (by rw [flat_one]; exact hc) hi (o := i) (by omega)
  rw [flat_one, List.setIfInBounds_toArray] at h
  exact h
theorem opC_len (o : OpD) : (opC o).length = 4 := rfl
theorem set_flat {v : Value} {f : Nat} (hf : f < 4) : ∀ (ops : List OpD) (k : Nat) (o' : OpD), k < ops.length → (∀ o, ops[k]? = some o → opC o' = (opC o).set f v) → (ops.flatMap opC).set (k * 4 + f) v = (ops.set k o').flatMap opC
  | [], k, o', hk, _ => absurd hk (Nat.not_lt_zero k)
  | o :: ops, 0, o', _, h => by
    have := h o rfl
    rw [List.flatMap_cons, List.set_cons_zero, List.flatMap_cons, this, List.set_append, if_pos (by rw [opC_len]; omega), Nat.zero_mul, Nat.zero_add]
  | o :: ops, k + 1, o', hk, h => by
    have ih := set_flat hf ops k o' (by simpa using hk) (fun o ho => h o (by simpa using ho))
    rw [List.flatMap_cons, List.set_cons_succ, List.flatMap_cons, List.set_append, if_neg (by rw [opC_len]; omega), opC_len, ← ih]
    congr 2
    omega
theorem wr_fld {l : List (Option ABlk)} {b k f : Nat} {ops : List OpD} {o' : OpD} {t : TypeId} {v : Value} (ht : sizeB Try.prog t 1 = true) (hv : v.cells = #[v]) (h1 : oneC v = true) (hb : l[b]? = some (opB (opsB ops true).cells)) (hf : f < 4) (hk : k < ops.length) (ho : ∀ o, ops[k]? = some o → opC o' = (opC o).set f v) :
    writeVar Try.prog l.toArray t ⟨b, k * 4 + f, none⟩ v = some (l.set b (opB (opsB (ops.set k o') true).cells)).toArray := by
  have hlen : (ops.flatMap opC).length = ops.length * 4 := by
    have : ∀ l : List OpD, (l.flatMap opC).length = l.length * 4 := by
      intro l
      induction l with
      | nil => rfl
      | cons a l ih => rw [List.flatMap_cons, List.length_append, ih, opC_len, List.length_cons]; omega
    exact this ops
  have h := wr_one (l := l) (i := k * 4 + f) (cells := ops.flatMap opC) ht hv h1 hb rfl rfl (by omega)
  rw [set_flat hf ops k o' hk ho] at h
  exact h
theorem fd_ok0 (p : Nat) : (fdTl ⟨5, p, none⟩ 0 ⟨5, p + 0, none⟩).ok Try.prog := by
  show fieldAddrV Try.prog 32 (.pointer (some ⟨5, p, none⟩)) 0 = some (.pointer (some ⟨5, p + 0, none⟩))
  kernel_rfl
theorem fd_ok1 (p : Nat) : (fdTl ⟨5, p, none⟩ 1 ⟨5, p + 1, none⟩).ok Try.prog := by
  show fieldAddrV Try.prog 32 (.pointer (some ⟨5, p, none⟩)) 1 = some (.pointer (some ⟨5, p + 1, none⟩))
  kernel_rfl
theorem fd_ok2 (p : Nat) : (fdTl ⟨5, p, none⟩ 2 ⟨5, p + 2, none⟩).ok Try.prog := by
  show fieldAddrV Try.prog 32 (.pointer (some ⟨5, p, none⟩)) 2 = some (.pointer (some ⟨5, p + 2, none⟩))
  kernel_rfl
theorem fd_ok3 (p : Nat) : (fdTl ⟨5, p, none⟩ 3 ⟨5, p + 3, none⟩).ok Try.prog := by
  show fieldAddrV Try.prog 32 (.pointer (some ⟨5, p, none⟩)) 3 = some (.pointer (some ⟨5, p + 3, none⟩))
  kernel_rfl
theorem lq_ok (a b : Int) (c : Bool) (h : decide (a ≤ b) = c) : (lqTl a b c).ok Try.prog := by
  subst h
  show cmpV Try.prog .leq 3 (.int .i64 a) (.int .i64 b) = some (decide (a ≤ b))
  kernel_rfl
theorem wiTl_ok (z : Int) {n : Nat} (h1 : 1 ≤ n) (h2 : n < 100000) : (wiTl z n (z % (n : Int))).ok Try.prog := by
  obtain ⟨k, rfl⟩ : ∃ k, n = k + 1 := ⟨n - 1, by omega⟩
  exact within3 z k (by omega)
theorem arS_ok (a : Int) (h1 : -9223372036854775807 ≤ a) (h2 : a < 9223372036854775808) : (arTl .sub a 1 (a - 1)).ok Try.prog := by
  have h : pureV Try.prog (binOp .sub 3 (.int .i64 a) (.int .i64 1)) = some (.int .i64 (IntKind.i64.wrap (a - 1))) := by kernel_rfl
  rw [wrap_id (by omega) (by omega)] at h
  exact h
theorem arA_ok (a b : Int) (h1 : -9223372036854775808 ≤ a + b) (h2 : a + b < 9223372036854775808) : (arTl .add a b (a + b)).ok Try.prog := by
  have h : pureV Try.prog (binOp .add 3 (.int .i64 a) (.int .i64 b)) = some (.int .i64 (IntKind.i64.wrap (a + b))) := by kernel_rfl
  rw [wrap_id h1 h2] at h
  exact h
theorem gr_is : growOk Try.prog 23 3 1 = true := by kernel_rfl
theorem gr_op : growOk Try.prog 22 32 4 = true := by kernel_rfl
theorem full_nac {k n : Nat} {o : OpD} (h : opFull k n o) : NaC o.C := by
  rcases h with ⟨_, _, _, h⟩ | ⟨_, _, h, _⟩ | ⟨_, _, h, _⟩
  · exact .inl h.nn
  · rw [h]; exact .inl fi_zero.1.nn
  · rw [h]; exact .inl fi_zero.1.nn

/-! operations are put behind -/
def oneOp : OpD := ⟨1, 0, 0, 0⟩
theorem rds7 {o1 o2 o3 : Option ABlk} (p1 : PlO o1) (p2 : PlO o2) (p3 : PlO o3) {Nt : Nat} {out : List Int} {v : Int} {ops : List OpD} {Y : Nat} (hY : Y = 59 + (v % 4).toNat) : ∀ (d L : Nat), L + d = max ops.length Y → ops.length ≤ L →
    RdsB Try.prog 3 bodyT7 (tmA 139 (LT7 v)) (HLT o1 o2 o3 Nt L (opsB (ops ++ List.replicate (L - ops.length) oneOp) true).cells (intB out true).cells).toArray
      (.exit 1, tmA 139 (LT7 v), (HLT o1 o2 o3 Nt (max ops.length Y) (opsB (ops ++ List.replicate (max ops.length Y - ops.length) oneOp) true).cells (intB out true).cells).toArray) := by
  have v0 := Int.emod_nonneg v (b := 4) (by decide)
  have v1 := Int.emod_lt_of_pos v (b := 4) (by decide)
  have ent : ∀ (c : Nat) (L : Nat) (ops : List OpD) (R : List Nat), (List.range 3).all (fun b => R[b]? == some b) = true → R.Nodup → R.getD 3 0 = c → R.getD 4 0 = 4 → EntOK 3 [5, 13] R (139, [.int .i64 v, ptT (R.getD 5 0)], [some o1, some o2, some o3, some (opB (opsB ops true).cells), some (iB (intB out true).cells), some (tbTl Nt (.slice (some ⟨c, 0, none⟩) L L) (.slice (some ⟨4, 0, none⟩) Nt Nt))])
      (tmA 139 (LT7 v)) (HLT o1 o2 o3 Nt L (opsB ops true).cells (intB out true).cells).toArray := by
    intro c L ops R hlow hnd h3 h4
    refine entOK rfl hlow hnd (.cons (.clos rfl) (.cons (.ptr 5 (R.getD 5 0) 0 none (show (5 : Nat) < 6 by decide) rfl) .nil)) ?_
    refine relBs_pl p1 (relBs_pl p2 (relBs_pl p3 (relBs_own (opsB_plain ops true) (relBs_own (intB_plain out true) (.some (RelK.list (.cons (.clos rfl) (.cons (.slice 3 c 0 none L L L (show (3 : Nat) < 6 by decide) h3) (.cons (.slice 4 4 0 none Nt Nt Nt (show (4 : Nat) < 6 by decide) h4) .nil)))) .nil)))))
  intro d
  induction d with
  | zero =>
    intro L hL hle
    have eL : L = max ops.length Y := by omega
    rw [← eL]
    refine .last (rndT_to (rdT7e o1 o2 o3 Nt L _ _ v (v % 4) (59 + v % 4)) okT7 ⟨wiTl_ok v (n := 4) (by decide) (by decide), arA_ok 59 _ (by omega) (by omega), ?_, trivial⟩ (ent 3 L _ [0, 1, 2, 3, 4, 5] (by decide) (by decide) rfl rfl)) (by show AExit.exit 1 ≠ .normal; simp)
    refine (cmp_lss _ _).trans (congrArg some (decide_eq_false ?_))
    omega
  | succ d ih =>
    intro L hL hle
    have t := ih (L + 1) (by omega) (by omega)
    have e1 : ops ++ List.replicate (L + 1 - ops.length) oneOp = (ops ++ List.replicate (L - ops.length) oneOp) ++ [oneOp] := by
      rw [show L + 1 - ops.length = (L - ops.length) + 1 by omega, List.replicate_succ', List.append_assoc]
    rw [e1] at t
    have hlen : (ops ++ List.replicate (L - ops.length) oneOp).length = L := by simp; omega
    generalize ops ++ List.replicate (L - ops.length) oneOp = xs at t hlen ⊢
    have e := ent 7 (L + 1) (xs ++ [oneOp]) [0, 1, 2, 7, 4, 5] (by decide) (by decide) rfl rfl
    refine .next (rndT_to (rdT7 o1 o2 o3 Nt L _ (opsB (xs ++ [oneOp]) true).cells _ v (v % 4) (59 + v % 4)) okT7 ⟨wiTl_ok v (n := 4) (by decide) (by decide), arA_ok 59 _ (by omega) (by omega), ?_, ?_, trivial⟩ e) t
    · refine (cmp_lss _ _).trans (congrArg some (decide_eq_true ?_))
      omega
    · have h := app_at (P := Try.prog) (f := opC) (n := 4) (fun _ => rfl) gr_op (H := (HLT o1 o2 o3 Nt L (opsB xs true).cells (intB out true).cells ++ [opOneTl]).toArray) (br := 3) (bx := 6) (k := L) (c := L) (c' := 1) (B := opsB xs true) (Bx := ⟨#[.int .i64 1, .int .i64 0, .int .i64 0, .float .f64 0], 32, 4, true⟩) (l := xs) (a := oneOp) rfl rfl rfl rfl rfl hlen rfl rfl rfl (by omega)
      exact h

theorem set_int (out : List Int) (k : Nat) (y : Int) : (out.flatMap iC).set k (.int .i64 y) = (out.set k y).flatMap iC := by
  have e : ∀ l : List Int, l.flatMap iC = l.map (Value.int .i64) := fun l => by
    induction l with
    | nil => rfl
    | cons a l ih => rw [List.flatMap_cons, ih]; rfl
  rw [e, e, List.map_set]
theorem iC_len (out : List Int) : (out.flatMap iC).length = out.length := by
  induction out with
  | nil => rfl
  | cons a l ih => rw [List.flatMap_cons, List.length_append, ih, List.length_cons]; show 1 + _ = _; omega
theorem mem_set_nac {ops : List OpD} {k : Nat} {o' : OpD} (h : ∀ o ∈ ops, NaC o.C) (h' : NaC o'.C) : ∀ o ∈ ops.set k o', NaC o.C := by
  intro o ho
  rcases List.mem_or_eq_of_mem_set ho with h1 | h1
  · exact h o h1
  · rw [h1]; exact h'
set_option maxHeartbeats 8000000 in
theorem tapeChecks_at {o1 o2 o3 : Option ABlk} (p1 : PlO o1) (p2 : PlO o2) (p3 : PlO o3) {N : Int} {a b : Option Addr} {ca cb : Nat} {ops0 : List OpD} {out0 : List Int} {ba bb : Nat} (pa : PartT [o1, o2, o3] (.slice a ops0.length ca) (ops0.flatMap opC) ops0.length ba) (pb : PartT [o1, o2, o3] (.slice b out0.length cb) (out0.flatMap iC) out0.length bb) (hne : ba ≠ bb)
    (hC0 : ∀ o ∈ ops0, NaC o.C) {vc : Value} {zs : List Int} (hz : Handed #[o1, o2, o3] zs vc) (n w at' v : Int) :
    Tells 3 #[tvT N a ops0.length ca b out0.length cb, .int .i64 n, vc, .int .i64 w, .int .i64 at', .int .i64 v] #[o1, o2, o3] (.bool true) := by
  obtain ⟨n1, n2⟩ := mkN_le n
  obtain ⟨m1, m2⟩ := mkM_le n zs
  obtain ⟨ops, hops⟩ : ∃ ops, ops = mkOps n zs true := ⟨_, rfl⟩
  obtain ⟨out, hout⟩ : ∃ out, out = mkOut n (mkM n zs) := ⟨_, rfl⟩
  have hM : ops.length = mkM n zs := by rw [hops, mkOps_len]
  have hN : out.length = mkN n := by rw [hout, mkOut_len]
  have hf : ∀ k o, ops[k]? = some o → opFull k (mkN n) o := fun k o h => mk_full n zs true k o (by rw [← hops]; exact h)
  have hC : ∀ o ∈ ops, NaC o.C := fun o ho => by
    obtain ⟨k, hk⟩ := List.getElem?_of_mem ho
    exact full_nac (hf k o hk)
  have hu : ∀ u ∈ out, 0 ≤ u ∧ u < (mkM n zs : Nat) := by
    intro u hu
    rw [hout] at hu
    obtain ⟨i, _, rfl⟩ := List.mem_map.1 hu
    exact mkU_bd n (M := mkM n zs) m1 (by omega) i
  have hmk := make_rn (l := [o1, o2, o3, bxT N a ops0.length ca b out0.length cb, bxT N a ops0.length ca b out0.length cb]) n true (hz.list [bxT N a ops0.length ca b out0.length cb, bxT N a ops0.length ca b out0.length cb]) rfl rfl (s := 5) rfl
  rw [← hops, ← hout] at hmk
  generalize mkM n zs = M at m1 m2 hM hu hmk
  generalize mkN n = Nt at n1 n2 hN hf hmk
  let mkV : Int → Int → Int → Nat → Nat → Nat → Nat → Int → TkV := fun x y z f p q p2 y2 => { N := N, a := a, n := ops0.length, ca := ca, b := b, m := out0.length, cb := cb, Nt := Nt, M := M, co := (opsB ops true).cells, cu := (intB out true).cells, k := at' % (M : Nat), x := x, y := y, z := z, f := f, p := p, q := q, p2 := p2, y2 := y2 }
  have f2f : (lqTl (ops0.length : Nat) 80 (decide ((ops0.length : Int) ≤ 80))).ok Try.prog := lq_ok _ _ _ rfl
  have f3f : (lqTl (out0.length : Nat) 20 (decide ((out0.length : Int) ≤ 20))).ok Try.prog := lq_ok _ _ _ rfl
  by_cases h80 : (ops0.length : Int) ≤ 80
  case neg =>
    rw [decide_eq_false h80] at f2f
    exact askT_tells (k := []) (tlFew0 o1 o2 o3 (mkV 0 0 0 0 0 0 0 0) n vc w at' v) ⟨tapeKnownK, f2f, trivial⟩ trivial
  rw [decide_eq_true h80] at f2f
  by_cases h20 : (out0.length : Int) ≤ 20
  case neg =>
    rw [decide_eq_false h20] at f3f
    exact askT_tells (k := []) (tlFew1 o1 o2 o3 (mkV 0 0 0 0 0 0 0 0) n vc w at' v) ⟨tapeKnownK, f2f, f3f, trivial⟩ trivial
  rw [decide_eq_true h20] at f3f
  obtain ⟨r, f5, f6⟩ := check_rn (l := h1Tl o1 o2 o3 (mkV 0 0 0 0 0 0 0 0)) (N := N) (pa.app _) (pb.app _) hne hC0
  have f7 : (rnO 15 #[tpV 5 6 Nt M] (h1Tl o1 o2 o3 (mkV 0 0 0 0 0 0 0 0)) (.bool true) []).ok Try.prog :=
    rn_nil (check_in n1 n2 m1 (by omega) hM hN hf hu (fz_at (l := h1Tl o1 o2 o3 (mkV 0 0 0 0 0 0 0 0)) (i := 5) (B := opsB ops true) rfl) rfl (fz_at (l := h1Tl o1 o2 o3 (mkV 0 0 0 0 0 0 0 0)) (i := 6) (B := intB out true) rfl) rfl)
  have f8 := wiTl_ok at' (n := M) (by omega) (by omega)
  have k0 := Int.emod_nonneg at' (b := (M : Nat)) (by omega)
  have k1 := Int.emod_lt_of_pos at' (b := (M : Nat)) (by omega)
  obtain ⟨k, hk⟩ : ∃ k : Nat, at' % (M : Nat) = k := ⟨(at' % (M : Nat)).toNat, by omega⟩
  have hkM : k < ops.length := by omega
  have hix : (ix2 22 (opSl M) (at' % (M : Nat)) ⟨5, k * 4, none⟩).ok Try.prog := ixOp k0 k1 (by rw [hk]; rfl)
  have hCk : NaC (ops.getD k oneOp).C := hC _ (by rw [List.getD_eq_getElem?_getD, List.getElem?_eq_getElem hkM]; exact List.getElem_mem hkM)
  have hgo : ∀ o, ops[k]? = some o → ops.getD k oneOp = o := fun o h => by rw [List.getD_eq_getElem?_getD, h]; rfl
  have hPo : ∀ {l : List (Option ABlk)} {xs : List OpD}, xs.length = M → l[5]? = some (opB (opsB xs true).cells) → PartT l (opSl M) (xs.flatMap opC) xs.length 5 := fun {l xs} hl h => by rw [hl]; exact .at 5 M M (opsB xs true) _ h rfl
  have hPu : ∀ {l : List (Option ABlk)} {us : List Int}, us.length = Nt → l[6]? = some (iB (intB us true).cells) → PartT l (ouSl Nt) (us.flatMap iC) us.length 6 := fun {l us} hl h => by rw [hl]; exact .at 6 Nt Nt (intB us true) _ h rfl
  have w8 := wiTl_ok w (n := 8) (by decide) (by decide)
  have w0 := Int.emod_nonneg w (b := ((8 : Nat) : Int)) (by decide)
  have w1 := Int.emod_lt_of_pos w (b := ((8 : Nat) : Int)) (by decide)
  have hw : w % ((8 : Nat) : Int) = 0 ∨ w % ((8 : Nat) : Int) = 1 ∨ w % ((8 : Nat) : Int) = 2 ∨ w % ((8 : Nat) : Int) = 3 ∨ w % ((8 : Nat) : Int) = 4 ∨ w % ((8 : Nat) : Int) = 5 ∨ w % ((8 : Nat) : Int) = 6 ∨ w % ((8 : Nat) : Int) = 7 := by
    generalize w % ((8 : Nat) : Int) = j at *
    omega
  have vm : ∀ (q : Nat), 1 ≤ q → q < 1000 → 0 ≤ v % ((q : Nat) : Int) ∧ v % ((q : Nat) : Int) < 1000 := fun q hq hq2 => by
    have := Int.emod_nonneg v (b := ((q : Nat) : Int)) (by omega)
    have := Int.emod_lt_of_pos v (b := ((q : Nat) : Int)) (by omega)
    omega
  rcases hw with h | h | h | h | h | h | h | h <;> rw [h] at w8
  · -- the kind
    have x := vm 9 (by decide) (by decide)
    let o' : OpD := { ops.getD k oneOp with K := v % ((9 : Nat) : Int) - 1 }
    have hset : (ops.set k o').length = M := by rw [List.length_set, hM]
    obtain ⟨b', g1, g2⟩ := check_rn (l := h2Tl o1 o2 o3 (mkV 0 0 0 0 0 0 0 0) (opsB (ops.set k o') true).cells (intB out true).cells) (N := (Nt : Nat)) (hPo hset rfl) (hPu hN rfl) (by decide) (mem_set_nac hC hCk)
    exact askT_tells (k := []) (tl0 o1 o2 o3 (mkV (v % ((9 : Nat) : Int)) (v % ((9 : Nat) : Int) - 1) 0 0 (k * 4) (k * 4 + 0) 0 0) n vc w at' v r b' (opsB (ops.set k o') true).cells)
      (okApp (okApp ⟨tapeKnownK, f2f, f3f, hmk, f5, f6, f7, f8, w8, trivial⟩ ⟨wiTl_ok v (n := 9) (by decide) (by decide), arS_ok (v % ((9 : Nat) : Int)) (by omega) (by omega), hix, fd_ok0 _, wr_fld sz_i rfl rfl rfl (by decide) hkM (fun o ho => by rw [← hgo o ho]; rfl), trivial⟩) ⟨g1, g2, trivial⟩) trivial
  · -- the first number
    have x := vm (M + 2) (by omega) (by omega)
    let o' : OpD := { ops.getD k oneOp with A := v % ((M + 2 : Nat) : Int) - 1 }
    have hset : (ops.set k o').length = M := by rw [List.length_set, hM]
    obtain ⟨b', g1, g2⟩ := check_rn (l := h2Tl o1 o2 o3 (mkV 0 0 0 0 0 0 0 0) (opsB (ops.set k o') true).cells (intB out true).cells) (N := (Nt : Nat)) (hPo hset rfl) (hPu hN rfl) (by decide) (mem_set_nac hC hCk)
    exact askT_tells (k := []) (tl1 o1 o2 o3 (mkV (v % ((M + 2 : Nat) : Int)) (v % ((M + 2 : Nat) : Int) - 1) ((M + 2 : Nat) : Int) 0 (k * 4) (k * 4 + 1) 0 0) n vc w at' v r b' (opsB (ops.set k o') true).cells)
      (okApp (okApp ⟨tapeKnownK, f2f, f3f, hmk, f5, f6, f7, f8, w8, trivial⟩ ⟨arA_ok ((M : Nat) : Int) 2 (by omega) (by omega), wiTl_ok v (n := M + 2) (by omega) (by omega), arS_ok (v % ((M + 2 : Nat) : Int)) (by omega) (by omega), hix, fd_ok1 _, wr_fld sz_i rfl rfl rfl (by decide) hkM (fun o ho => by rw [← hgo o ho]; rfl), trivial⟩) ⟨g1, g2, trivial⟩) trivial
  · -- the second
    have x := vm 4 (by decide) (by decide)
    have x4 := Int.emod_lt_of_pos v (b := ((4 : Nat) : Int)) (by decide)
    obtain ⟨j, hj⟩ : ∃ j : Nat, v % ((4 : Nat) : Int) = j := ⟨(v % ((4 : Nat) : Int)).toNat, by omega⟩
    have hj4 : j < 4 := by omega
    let y : Int := [v, at' % (M : Nat), at' % (M : Nat) - 1, 0].getD j 0
    let o' : OpD := { ops.getD k oneOp with B := y }
    have hset : (ops.set k o').length = M := by rw [List.length_set, hM]
    obtain ⟨b', g1, g2⟩ := check_rn (l := h2Tl o1 o2 o3 (mkV 0 0 0 0 0 0 0 0) (opsB (ops.set k o') true).cells (intB out true).cells ++ [i4Tl v (at' % (M : Nat)) (at' % (M : Nat) - 1)]) (N := (Nt : Nat)) (hPo hset rfl) (hPu hN rfl) (by decide) (mem_set_nac hC hCk)
    have hrd : readVar Try.prog (h1Tl o1 o2 o3 (mkV 0 0 0 0 0 0 0 0) ++ [i4Tl v (at' % (M : Nat)) (at' % (M : Nat) - 1)]).toArray 3 ⟨8, j, none⟩ = some (.int .i64 y) := by
      refine rdI (B := ⟨#[.int .i64 v, .int .i64 (at' % (M : Nat)), .int .i64 (at' % (M : Nat) - 1), .int .i64 0], 3, 1, true⟩) (l := [v, at' % (M : Nat), at' % (M : Nat) - 1, 0]) (k := j) rfl rfl ?_ rfl
      show _ = some ([v, at' % (M : Nat), at' % (M : Nat) - 1, 0].getD j 0)
      rw [List.getD_eq_getElem?_getD, List.getElem?_eq_getElem (by simpa using hj4)]
      rfl
    have hix4 : (ix2 23 (.slice (some ⟨8, 0, none⟩) 4 4) (v % ((4 : Nat) : Int)) ⟨8, j, none⟩).ok Try.prog := ixI x.1 x4 (by rw [hj]; rfl)
    exact askT_tells (k := []) (tl2 o1 o2 o3 (mkV (v % ((4 : Nat) : Int)) y (at' % (M : Nat) - 1) 0 (k * 4) (k * 4 + 2) j 0) n vc w at' v r b' (opsB (ops.set k o') true).cells)
      (okApp (okApp ⟨tapeKnownK, f2f, f3f, hmk, f5, f6, f7, f8, w8, trivial⟩ ⟨arS_ok (at' % (M : Nat)) (by omega) (by omega), wiTl_ok v (n := 4) (by decide) (by decide), hix4, hrd, hix, fd_ok2 _, wr_fld (l := h1Tl o1 o2 o3 (mkV 0 0 0 0 0 0 0 0) ++ [i4Tl v (at' % (M : Nat)) (at' % (M : Nat) - 1)]) sz_i rfl rfl rfl (by decide) hkM (fun o ho => by rw [← hgo o ho]; rfl), trivial⟩) ⟨g1, g2, trivial⟩) trivial
  · -- the number
    obtain ⟨f, hr, hn⟩ := rare_nac v
    let o' : OpD := { ops.getD k oneOp with C := f }
    have hset : (ops.set k o').length = M := by rw [List.length_set, hM]
    obtain ⟨b', g1, g2⟩ := check_rn (l := h2Tl o1 o2 o3 (mkV 0 0 0 0 0 0 0 0) (opsB (ops.set k o') true).cells (intB out true).cells) (N := (Nt : Nat)) (hPo hset rfl) (hPu hN rfl) (by decide) (mem_set_nac hC hn)
    exact askT_tells (k := []) (tl3 o1 o2 o3 (mkV 0 0 0 f (k * 4) (k * 4 + 3) 0 0) n vc w at' v r b' (opsB (ops.set k o') true).cells)
      (okApp (okApp ⟨tapeKnownK, f2f, f3f, hmk, f5, f6, f7, f8, w8, trivial⟩ ⟨rn_nil (hr.quiet rfl rfl _), hix, fd_ok3 _, wr_fld sz_f rfl rfl rfl (by decide) hkM (fun o ho => by rw [← hgo o ho]; rfl), trivial⟩) ⟨g1, g2, trivial⟩) trivial
  · -- what it tells
    have x := vm (M + 2) (by omega) (by omega)
    have y0 := Int.emod_nonneg at' (b := (Nt : Nat)) (by omega)
    have y1 := Int.emod_lt_of_pos at' (b := (Nt : Nat)) (by omega)
    obtain ⟨j, hj⟩ : ∃ j : Nat, at' % (Nt : Nat) = j := ⟨(at' % (Nt : Nat)).toNat, by omega⟩
    have hset : (out.set j (v % ((M + 2 : Nat) : Int) - 1)).length = Nt := by rw [List.length_set, hN]
    obtain ⟨b', g1, g2⟩ := check_rn (l := h2Tl o1 o2 o3 (mkV 0 0 0 0 0 0 0 0) (opsB ops true).cells (intB (out.set j (v % ((M + 2 : Nat) : Int) - 1)) true).cells) (N := (Nt : Nat)) (hPo hM rfl) (hPu hset rfl) (by decide) hC
    have hwr := wr_one (l := h1Tl o1 o2 o3 (mkV 0 0 0 0 0 0 0 0)) (b := 6) (i := j) (B := intB out true) (v := .int .i64 (v % ((M + 2 : Nat) : Int) - 1)) (cells := out.flatMap iC) sz_i rfl rfl rfl rfl rfl (by rw [iC_len]; omega)
    rw [set_int] at hwr
    exact askT_tells (k := []) (tl4 o1 o2 o3 (mkV (v % ((M + 2 : Nat) : Int)) (at' % (Nt : Nat)) ((M + 2 : Nat) : Int) 0 j 0 0 (v % ((M + 2 : Nat) : Int) - 1)) n vc w at' v r b' (intB (out.set j (v % ((M + 2 : Nat) : Int) - 1)) true).cells)
      (okApp (okApp ⟨tapeKnownK, f2f, f3f, hmk, f5, f6, f7, f8, w8, trivial⟩ ⟨wiTl_ok at' (n := Nt) (by omega) (by omega), arA_ok ((M : Nat) : Int) 2 (by omega) (by omega), wiTl_ok v (n := M + 2) (by omega) (by omega), arS_ok (v % ((M + 2 : Nat) : Int)) (by omega) (by omega), ixI y0 y1 (by rw [hj]; rfl), hwr, trivial⟩) ⟨g1, g2, trivial⟩) trivial
  · -- one more
    have happ := app_at (P := Try.prog) (f := iC) (n := 1) (fun _ => rfl) gr_is (H := (h1Tl o1 o2 o3 (mkV 0 0 0 0 0 0 0 0) ++ [i1Tl]).toArray) (br := 6) (bx := 8) (k := Nt) (c := Nt) (c' := 1) (B := intB out true) (Bx := ⟨#[.int .i64 0], 3, 1, true⟩) (l := out) (a := 0) rfl rfl rfl rfl rfl hN rfl rfl rfl (by omega)
    have hl : (out ++ [0]).length = Nt + 1 := by simp [hN]
    obtain ⟨b', g1, g2⟩ := check_rn (l := h0Tl o1 o2 o3 (mkV 0 0 0 0 0 0 0 0) ++ [opB (opsB ops true).cells, none, tbTl (Nt : Nat) (opSl M) (.slice (some ⟨9, 0, none⟩) (Nt + 1) (Nt + 1)), i1Tl, iB (intB (out ++ [0]) true).cells]) (N := (Nt : Nat)) (s2 := .slice (some ⟨9, 0, none⟩) (Nt + 1) (Nt + 1)) (out := out ++ [0]) (bu := 9) (hPo hM rfl) (by rw [hl]; exact .at 9 (Nt + 1) (Nt + 1) (intB (out ++ [0]) true) _ rfl rfl) (by decide) hC
    exact askT_tells (k := []) (tl5 o1 o2 o3 (mkV 0 0 0 0 0 0 0 0) n vc w at' v r b' (intB (out ++ [0]) true).cells)
      (okApp (okApp ⟨tapeKnownK, f2f, f3f, hmk, f5, f6, f7, f8, w8, trivial⟩ ⟨happ, trivial⟩) ⟨g1, g2, trivial⟩) trivial
  · -- how many variables
    have x := vm 7 (by decide) (by decide)
    obtain ⟨b', g1, g2⟩ := check_rn (l := h0Tl o1 o2 o3 (mkV 0 0 0 0 0 0 0 0) ++ [opB (opsB ops true).cells, iB (intB out true).cells, tbTl (v % ((7 : Nat) : Int) - 1) (opSl M) (ouSl Nt)]) (N := v % ((7 : Nat) : Int) - 1) (hPo hM rfl) (hPu hN rfl) (by decide) hC
    exact askT_tells (k := []) (tl6 o1 o2 o3 (mkV (v % ((7 : Nat) : Int)) (v % ((7 : Nat) : Int) - 1) 0 0 0 0 0 0) n vc w at' v r b')
      (okApp (okApp ⟨tapeKnownK, f2f, f3f, hmk, f5, f6, f7, f8, w8, trivial⟩ ⟨wiTl_ok v (n := 7) (by decide) (by decide), arS_ok (v % ((7 : Nat) : Int)) (by omega) (by omega), trivial⟩) ⟨g1, g2, trivial⟩) trivial
  · -- many more operations
    obtain ⟨L, hL⟩ : ∃ L, L = max ops.length (59 + (v % 4).toNat) := ⟨_, rfl⟩
    have v1 := Int.emod_lt_of_pos v (b := 4) (by decide)
    have rds := rds7 p1 p2 p3 (Nt := Nt) (out := out) (v := v) (ops := ops) rfl (L - ops.length) ops.length (by omega) (Nat.le_refl _)
    rw [← hL, Nat.sub_self, List.replicate_zero, List.append_nil] at rds
    have hlen : (ops ++ List.replicate (L - ops.length) oneOp).length = L := by simp; omega
    have hC7 : ∀ o ∈ ops ++ List.replicate (L - ops.length) oneOp, NaC o.C := by
      intro o ho
      rcases List.mem_append.1 ho with h1 | h1
      · exact hC o h1
      · rw [(List.mem_replicate.1 h1).2]
        exact .inl fi_zero.1.nn
    generalize ops ++ List.replicate (L - ops.length) oneOp = xs at rds hlen hC7
    obtain ⟨b', g1, g2⟩ := check_rn (l := HLT o1 o2 o3 Nt L (opsB xs true).cells (intB out true).cells) (N := (Nt : Nat)) (s1 := .slice (some ⟨3, 0, none⟩) L L) (s2 := .slice (some ⟨4, 0, none⟩) Nt Nt) (ops := xs) (out := out) (bo := 3) (bu := 4) (by rw [hlen]; exact .at 3 L L (opsB xs true) _ rfl rfl) (by rw [hN]; exact .at 4 Nt Nt (intB out true) _ rfl rfl) (by decide) hC7
    have ent : EntOK 3 [5, 13] [0, 1, 2, 5, 6, 7] (139, [.int .i64 v, ptT 7], [some o1, some o2, some o3, some (opB (opsB ops true).cells), some (iB (intB out true).cells), some (tcB 5 Nt M)]) (tmA 139 (LT7 v)) (HLT o1 o2 o3 Nt M (opsB ops true).cells (intB out true).cells).toArray := by
      refine entOK rfl (by decide) (by decide) (.cons (.clos rfl) (.cons (.ptr 5 7 0 none (show (5 : Nat) < 6 by decide) rfl) .nil)) ?_
      exact relBs_pl p1 (relBs_pl p2 (relBs_pl p3 (relBs_own (opsB_plain ops true) (relBs_own (intB_plain out true) (.some (RelK.list (.cons (.clos rfl) (.cons (.slice 3 5 0 none M M M (show (3 : Nat) < 6 by decide) rfl) (.cons (.slice 4 6 0 none Nt Nt Nt (show (4 : Nat) < 6 by decide) rfl) .nil)))) .nil)))))
    rw [hM] at rds
    exact askT_tells (tl7 o1 o2 o3 (mkV 0 0 0 0 0 0 0 0) n vc w at' v r b' L (opsB xs true).cells)
      (okApp ⟨tapeKnownK, f2f, f3f, hmk, f5, f6, f7, f8, w8, trivial⟩ ⟨g1, g2, trivial⟩) ⟨⟨_, _, ent, rds.loop⟩, trivial⟩

end Go.Proofs.Ytpmdpbljgidllaa
