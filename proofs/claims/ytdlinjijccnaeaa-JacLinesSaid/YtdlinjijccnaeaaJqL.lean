/- jac of any field in any memory; the law JacLines: its runs. -/
import Derived.Test.YtdlinjijccnaeaaJqI
namespace Go.Proofs.Ytdlinjijccnaeaa
open Go
set_option linter.unusedVariables false
set_option linter.unusedSimpArgs false
set_option maxRecDepth 100000

section
variable {l : List (Option ABlk)}
theorem jacAny_rn {N M bo bu bx s : Nat} {ops : List OpD} {out : List Int} {xs : List Nat} (hok : ∀ k o, ops[k]? = some o → opOkD k N o) (hx : xs.length = N) (hu : out.length = N) (huo : ∀ u ∈ out, 0 ≤ u ∧ u < ops.length) (h1 : 1 ≤ N) (h4 : N ≤ 4) (hM : ops.length = M) (hM1 : M ≤ 12) (hM2 : 2 ≤ M)
    (g0 : l[bo]? = some (opB (opsB ops true).cells)) (g1 : l[bu]? = some (iB (intB out true).cells)) (g2 : l[bx]? = some (nwF xs)) (n1 : bo ≠ bu) (n2 : bo ≠ bx) (n3 : bu ≠ bx) (hs : s = l.length) :
    (rnO 16 #[tpV bo bu N M, slV bx N] l (slV (s + N) N) (tabJ s N (rwD ops xs out))).ok Try.prog := by
  subst hM hs
  have hG : EvG fC (some (opsB ops false)) (some (intB out false)) (some ⟨(xs.flatMap fC).toArray, 27, 1, false⟩) N ops out xs := ⟨⟨_, rfl, rfl⟩, ⟨_, rfl, rfl⟩, ⟨_, rfl, rfl⟩, hok, hx, hu, huo⟩
  have r1 := jac_Jac hG rfl rfl (opsB_plain _ _) (intB_plain _ _) (plain_flat fC_cl _ _ _ _) rfl h1 h4 hM1 hM2
  have a := Runs.tabAt (args1 := #[tpV bo bu N ops.length, slV bx N]) (bo := bo) (bu := bu) (bx := bx) (B0 := opsB ops false) (B1 := intB out false) (B2 := ⟨(xs.flatMap fC).toArray, 27, 1, false⟩) r1 rfl rfl rfl (opsB_plain _ _) (intB_plain _ _) (plain_flat fC_cl _ _ _ _) (froze_all l.toArray) (fz_at g0) (fz_at g1) (fz_at g2) n1 n2 n3
      (.cons (tp_rel bo bu _ _ (by decide) rfl rfl) (.cons (.slice 2 bx 0 none _ _ _ (by decide) rfl) .nil))
  rw [fz_size] at a
  exact a
theorem jacAnyI_rn {N M bo bu bx s : Nat} {ops : List OpD} {out : List Int} {xs : List P2} (hr : ∀ k, Rt (regDI ops xs k).1) (hok : ∀ k o, ops[k]? = some o → opOkD k N o) (hx : xs.length = N) (hu : out.length = N) (huo : ∀ u ∈ out, 0 ≤ u ∧ u < ops.length) (h1 : 1 ≤ N) (h4 : N ≤ 4) (hM : ops.length = M) (hM1 : M ≤ 12) (hM2 : 2 ≤ M)
    (g0 : l[bo]? = some (opB (opsB ops true).cells)) (g1 : l[bu]? = some (iB (intB out true).cells)) (g2 : l[bx]? = some (nwPj xs)) (n1 : bo ≠ bu) (n2 : bo ≠ bx) (n3 : bu ≠ bx) (hs : s = l.length) :
    (rnO 20 #[tpV bo bu N M, slV bx N] l (slV (s + N) N) (tabJI s N (rwDI ops xs out))).ok Try.prog := by
  subst hM hs
  have hG : EvG pC (some (opsB ops false)) (some (intB out false)) (some ⟨(xs.flatMap pC).toArray, 29, 2, false⟩) N ops out xs := ⟨⟨_, rfl, rfl⟩, ⟨_, rfl, rfl⟩, ⟨_, rfl, rfl⟩, hok, hx, hu, huo⟩
  have r1 := jac_JacI hG rfl rfl (opsB_plain _ _) (intB_plain _ _) (plain_flat pC_cl _ _ _ _) rfl hr h1 h4 hM1 hM2
  have a := Runs.tabAtI (args1 := #[tpV bo bu N ops.length, slV bx N]) (bo := bo) (bu := bu) (bx := bx) (B0 := opsB ops false) (B1 := intB out false) (B2 := ⟨(xs.flatMap pC).toArray, 29, 2, false⟩) r1 rfl rfl rfl (opsB_plain _ _) (intB_plain _ _) (plain_flat pC_cl _ _ _ _) (froze_all l.toArray) (fz_at g0) (fz_at g1) (fz_at g2) n1 n2 n3
      (.cons (tp_rel bo bu _ _ (by decide) rfl rfl) (.cons (.slice 2 bx 0 none _ _ _ (by decide) rfl) .nil))
  rw [fz_size] at a
  exact a
end

/-! the law's run -/
noncomputable def askLn (g : FuncId) : Nat := if [12, 18, 13, 16, 20, 21, 22].contains g then 1 else if g == 1000040 || g == 1000041 || g == 1000045 || g == 1000046 then 7 else 0
def tabAl (N : Nat) (R : Nat → Nat → Nat) (s : Nat) : Ans := cAns (fun s => slV (s + N) N) (tabJ s N R)
def tabAlI (N : Nat) (R : Nat → Nat → P2) (s : Nat) : Ans := cAns (fun s => slV (s + N) N) (tabJI s N R)
noncomputable def wiOl (z : Int) (n : Nat) (w : Int) : Obl := .run 13 #[.int .i64 z, .int .i64 (Int.ofNat n)] #[] (.int .i64 w) #[]
def cmL : BinOp → Value → Value → Bool
  | .lss, .int _ _, _ => true
  | .neq, .float _ _, _ => true
  | .gtr, .float _ _, _ => true
  | _, _, _ => false
def opsLn (N : Nat) (c : Nat → Nat) : List OpD := (List.range N).flatMap fun i => [⟨1, Int.ofNat i, 0, 0⟩, ⟨0, 0, 0, c i⟩, ⟨4, Int.ofNat (3 * i), Int.ofNat (3 * i + 1), 0⟩]
def outLn (N : Nat) : List Int := (List.range N).map fun i => Int.ofNat (3 * i + 2)
def tcL (N i : Nat) : Option ABlk := some ⟨#[.int .i64 (Int.ofNat N), if i = 0 then .slice none 0 0 else slV (3 + 6 * (i - 1) + 3) (3 * i), if i = 0 then .slice none 0 0 else slV (3 + 6 * (i - 1) + 5) i], 36, 0, true⟩
def grL (N : Nat) (c : Nat → Nat) : List (Option ABlk) := (List.range N).flatMap fun i => [nwF [c i], if i + 1 = N then nwF ((List.range N).map c) else none,
  opB (opsB [⟨1, Int.ofNat i, 0, 0⟩, ⟨0, 0, 0, c i⟩, ⟨4, Int.ofNat (3 * i), Int.ofNat (3 * i + 1), 0⟩] true).cells, if i + 1 = N then opB (opsB (opsLn N c) true).cells else none, iB (intB [Int.ofNat (3 * i + 2)] true).cells, if i + 1 = N then iB (intB (outLn N) true).cells else none]
def hpL1 (b1 b2 : Option ABlk) (N : Nat) (c : Nat → Nat) : List (Option ABlk) := [b1, b2, tcL N N] ++ grL N c
def bIv (fx : Nat → Nat) (i : Nat) : P2 := (fop .sub .f64 (fx i) 4607182418800017408, fop .add .f64 (fx i) 4607182418800017408)
def hpL2 (b1 b2 : Option ABlk) (N : Nat) (c fx : Nat → Nat) (R : Nat → Nat → Nat) : List (Option ABlk) := hpL1 b1 b2 N c ++ [nwF ((List.range N).map fx)] ++ tabJ (4 + 6 * N) N R ++ grRi N (bIv fx)
def wantL (c : Nat → Nat) (i m : Nat) : Nat := if m = i then c i else 0
noncomputable def ckO (c : Nat → Nat) (R : Nat → Nat → Nat) (RI : Nat → Nat → P2) (mg : Nat → Nat → Nat) (i m : Nat) : List Obl :=
  [.cmp .neq 27 (.float .f64 (R i m)) (.float .f64 (wantL c i m)) false, qtO 21 #[.float .f64 (wantL c i m), vI (RI i m)] (.bool true), qtO 22 #[vI (RI i m)] (.float .f64 (mg i m)), .cmp .gtr 27 (.float .f64 (mg i m)) (.float .f64 4616302208045442662) false]
/-- What was made ahead of the i-th number. -/
def hL (N : Nat) (c : Nat → Nat) (i : Nat) : List (Option ABlk) := tcL N i :: grL i c
def LnRun (N l : Nat) : Prop := ∀ (b1 b2 : Option ABlk) (n : Int) (vb : Value) (nr : Nat) (ar : Option Addr) (cr : Nat) (p : Nat → Addr) (r w u : Nat → Int) (g fx : Nat → Nat) (R : Nat → Nat → Nat) (RI : Nat → Nat → P2) (mg : Nat → Nat → Nat),
  (askN askLn cmL 12 6 #[.slice ar nr cr, .int .i64 n, vb] #[b1, b2]
    ([yes true, isI (Int.ofNat (N - 1))] ++ (List.range N).flatMap (fun i => [yes true] ++ (if i < l then [yes true, pAnsT (p i), isI (r i)] else [yes false]) ++ [isI (w i), isI (u i), vAns (.float .f64 (g i))]) ++ [yes false, rwA N fx, tabAl N R (4 + 6 * N)] ++ (List.range N).map (fun _ => yes true) ++ [yes false, tabAlI N RI (5 + 9 * N)] ++
      (List.range N).flatMap (fun i => [yes true] ++ (List.range N).flatMap (fun m => [yes true, yes false, yes true, vAns (.float .f64 (mg i m)), yes false]) ++ [yes false]) ++ [yes false])).map (fun r => (r.1, r.2.2)) =
  some (.bool true, [qtO 12 #[] (.bool true), wiOl n 4 (Int.ofNat (N - 1))] ++
    (List.range N).flatMap (fun i => [cpO .lss (Int.ofNat i) (Int.ofNat N) true] ++ (if i < l then [cpO .lss (Int.ofNat i) nr true, .ex (indexAddrV Try.prog 22 (.slice ar nr cr) (.int .i64 (Int.ofNat i)) = some (.pointer (some (p i)))), .ex (readVar Try.prog (b1 :: b2 :: hL N (fun i => vw8 (g i)) i).toArray 3 (p i) = some (.int .i64 (r i))), wiOl (r i) 65 (w i)] else [cpO .lss (Int.ofNat i) nr false, wiOl (Int.ofNat i) 65 (w i)]) ++ [arO .sub (w i) 32 (u i), cvO (u i) (g i)]) ++
    [cpO .lss (Int.ofNat N) (Int.ofNat N) false, rnO 18 #[.int .i64 (Int.ofNat N), vb] (hpL1 b1 b2 N (fun i => vw8 (g i))) (slV (3 + 6 * N) N) [nwF ((List.range N).map fx)],
      rnO 16 #[tpV (3 + 6 * (N - 1) + 3) (3 + 6 * (N - 1) + 5) N (3 * N), slV (3 + 6 * N) N] (hpL1 b1 b2 N (fun i => vw8 (g i)) ++ [nwF ((List.range N).map fx)]) (slV (4 + 6 * N + N) N) (tabJ (4 + 6 * N) N R)] ++
    (List.range N).map (fun i => cpO .lss (Int.ofNat i) (Int.ofNat N) true) ++
    [cpO .lss (Int.ofNat N) (Int.ofNat N) false, rnO 20 #[tpV (3 + 6 * (N - 1) + 3) (3 + 6 * (N - 1) + 5) N (3 * N), slV (4 + 9 * N) N] (hpL2 b1 b2 N (fun i => vw8 (g i)) fx R) (slV (5 + 9 * N + N) N) (tabJI (5 + 9 * N) N RI)] ++
    (List.range N).flatMap (fun i => [cpO .lss (Int.ofNat i) (Int.ofNat N) true] ++ (List.range N).flatMap (fun m => [cpO .lss (Int.ofNat m) (Int.ofNat N) true] ++ ckO (fun i => vw8 (g i)) R RI mg i m) ++ [cpO .lss (Int.ofNat N) (Int.ofNat N) false]) ++ [cpO .lss (Int.ofNat N) (Int.ofNat N) false])
theorem lnRun_1_0 : LnRun 1 0 := fun _ _ _ _ _ _ _ _ _ _ _ _ _ _ _ _ => by kernel_rfl
theorem lnRun_1_1 : LnRun 1 1 := fun _ _ _ _ _ _ _ _ _ _ _ _ _ _ _ _ => by kernel_rfl
theorem lnRun_2_0 : LnRun 2 0 := fun _ _ _ _ _ _ _ _ _ _ _ _ _ _ _ _ => by kernel_rfl
theorem lnRun_2_1 : LnRun 2 1 := fun _ _ _ _ _ _ _ _ _ _ _ _ _ _ _ _ => by kernel_rfl
theorem lnRun_2_2 : LnRun 2 2 := fun _ _ _ _ _ _ _ _ _ _ _ _ _ _ _ _ => by kernel_rfl
theorem lnRun_3_0 : LnRun 3 0 := fun _ _ _ _ _ _ _ _ _ _ _ _ _ _ _ _ => by kernel_rfl
theorem lnRun_3_1 : LnRun 3 1 := fun _ _ _ _ _ _ _ _ _ _ _ _ _ _ _ _ => by kernel_rfl
theorem lnRun_3_2 : LnRun 3 2 := fun _ _ _ _ _ _ _ _ _ _ _ _ _ _ _ _ => by kernel_rfl
theorem lnRun_3_3 : LnRun 3 3 := fun _ _ _ _ _ _ _ _ _ _ _ _ _ _ _ _ => by kernel_rfl
theorem lnRun_4_0 : LnRun 4 0 := fun _ _ _ _ _ _ _ _ _ _ _ _ _ _ _ _ => by kernel_rfl
theorem lnRun_4_1 : LnRun 4 1 := fun _ _ _ _ _ _ _ _ _ _ _ _ _ _ _ _ => by kernel_rfl
theorem lnRun_4_2 : LnRun 4 2 := fun _ _ _ _ _ _ _ _ _ _ _ _ _ _ _ _ => by kernel_rfl
theorem lnRun_4_3 : LnRun 4 3 := fun _ _ _ _ _ _ _ _ _ _ _ _ _ _ _ _ => by kernel_rfl
theorem lnRun_4_4 : LnRun 4 4 := fun _ _ _ _ _ _ _ _ _ _ _ _ _ _ _ _ => by kernel_rfl

end Go.Proofs.Ytdlinjijccnaeaa
