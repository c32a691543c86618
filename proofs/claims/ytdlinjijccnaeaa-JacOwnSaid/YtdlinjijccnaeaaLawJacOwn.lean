/- The law JacOwn returns true, whatever it is handed. -/
import Derived.Test.YtdlinjijccnaeaaJrH
namespace Go.Proofs.Ytdlinjijccnaeaa
open Go
set_option linter.unusedVariables false
set_option linter.unusedSimpArgs false
set_option maxRecDepth 100000

noncomputable def askOj (g : FuncId) : Nat := if [12, 17, 18, 16, 25, 19].contains g then 1 else if [15, 26].contains g then 2 else if g == 1000052 then 7 else 0
theorem knownJ : Runs Try.prog 12 #[] #[] (.bool true) #[] := by
  have h : (askN noF noC 12 12 #[] #[] []).map (fun r => (r.1, r.2.2)) = some (.bool true, []) := by kernel_rfl
  obtain ⟨H', h⟩ := tells_of h trivial
  exact h.quiet rfl rfl #[]
def tabA (N : Nat) (R : Nat → Nat → Nat) (s : Nat) : Ans := cAns (fun s => slV (s + N) N) (tabJ s N R)
def L7J (b1 b2 : Option ABlk) (N M : Nat) (co cu : Array Value) (fx : Nat → Nat) : List (Option ABlk) := [b1, b2, opB co, iB cu, tcB 2 N M, nwF ((List.range N).map fx), nwF ((List.range N).map fx)]
noncomputable def sameO (x : Nat) : Obl := qtO 19 #[.float .f64 x, .float .f64 x] (.bool true)
def OwnRunJ (N : Nat) : Prop := ∀ (b1 b2 : Option ABlk) (n by_ : Int) (va vb : Value) (M : Nat) (co cu : Array Value) (fx : Nat → Nat) (fb : Nat) (R : Nat → Nat → Nat),
  (askN askOj noC 12 8 #[.int .i64 n, va, vb, .int .i64 by_] #[b1, b2] ([yes true, tpA N M co cu, rwA N fx, rwA N fx, tabA N R 7] ++ List.replicate (N * N) (vAns (.float .f64 fb)) ++ [tabA N R (8 + N), tpA N M co cu, tabA N R (11 + 2 * N)] ++ List.replicate (N * N + N) (yes true))).map (fun r => (r.1, r.2.2)) =
  some (.bool true, [qtO 12 #[] (.bool true), rnO 17 #[.int .i64 n, va, .bool true] [b1, b2] (tpV 2 3 N M) [opB co, iB cu],
      rnO 18 #[.int .i64 (Int.ofNat N), vb] [b1, b2, opB co, iB cu, tcB 2 N M] (slV 5 N) [nwF ((List.range N).map fx)],
      rnO 18 #[.int .i64 (Int.ofNat N), vb] [b1, b2, opB co, iB cu, tcB 2 N M, nwF ((List.range N).map fx)] (slV 6 N) [nwF ((List.range N).map fx)],
      rnO 16 #[tpV 2 3 N M, slV 5 N] (L7J b1 b2 N M co cu fx) (slV (7 + N) N) (tabJ 7 N R)] ++
    List.replicate (N * N) (cvO by_ fb) ++
    [rnO 16 #[tpV 2 3 N M, slV 5 N] (L7J b1 b2 N M co cu fx ++ tabJ 7 N (fun _ _ => fb)) (slV (8 + 2 * N) N) (tabJ (8 + N) N R),
      rnO 17 #[.int .i64 n, va, .bool true] (L7J b1 b2 N M co cu fx ++ tabJ 7 N (fun _ _ => fb) ++ tabJ (8 + N) N R) (tpV (9 + 2 * N) (10 + 2 * N) N M) [opB co, iB cu],
      rnO 25 #[tpV (9 + 2 * N) (10 + 2 * N) N M, slV 6 N] (L7J b1 b2 N M co cu fx ++ tabJ 7 N (fun _ _ => fb) ++ tabJ (8 + N) N R ++ [opB co, iB cu]) (slV (11 + 3 * N) N) (tabJ (11 + 2 * N) N R)] ++
    (List.range N).flatMap (fun i => (List.range N).map fun j => sameO (R i j)) ++ (List.range N).map (fun i => sameO (fx i)))
theorem ownRunJ_1 : OwnRunJ 1 := fun _ _ _ _ _ _ _ _ _ _ _ _ => by kernel_rfl
theorem ownRunJ_2 : OwnRunJ 2 := fun _ _ _ _ _ _ _ _ _ _ _ _ => by kernel_rfl
theorem ownRunJ_3 : OwnRunJ 3 := fun _ _ _ _ _ _ _ _ _ _ _ _ => by kernel_rfl
theorem ownRunJ (N : Nat) (h1 : 1 ≤ N) (h2 : N ≤ 3) : OwnRunJ N := by
  have : N = 1 ∨ N = 2 ∨ N = 3 := by omega
  rcases this with rfl | rfl | rfl
  · exact ownRunJ_1
  · exact ownRunJ_2
  · exact ownRunJ_3
theorem rep_ok {P : Program} {o : Obl} (h : o.ok P) : ∀ n, okAll P (List.replicate n o)
  | 0 => trivial
  | n + 1 => ⟨h, rep_ok h n⟩
theorem jacOwn_pad {o o2 : Option ABlk} {va vb : Value} {zs ms : List Int} (ha : Handed #[o, o2] zs va) (hb : Handed #[o, o2] ms vb) (n by_ : Int) :
    Tells 8 #[.int .i64 n, va, vb, .int .i64 by_] #[o, o2] (.bool true) := by
  obtain ⟨n1, n2⟩ := mkN_le n
  generalize hN : mkN n = N at n1 n2
  let fx : Nat → Nat := fun i => vw8 (Fz (vlI ms i))
  let xs : List Nat := (List.range N).map fx
  have hx : xs.length = N := by show ((List.range N).map fx).length = N; simp
  obtain ⟨fb, hfb⟩ : ∃ fb, (cvO by_ fb).ok Try.prog := ⟨_, cv_ok by_⟩
  have hh := fun (c : List (Option ABlk)) {zs : List Int} {v : Value} (h : Handed [o, o2].toArray zs v) => h.list c
  let co := (opsB (mkOps n zs true) true).cells
  let cu := (intB (mkOut n (mkM n zs)) true).cells
  have r := ownRunJ N n1 n2 o o2 n by_ va vb (mkM n zs) co cu fx fb (evD n zs true xs)
  have lt : ∀ c R, (tabJ c N R).length = N + 1 := fun c R => tab_len c N R
  have j1 := jacs_rn (l := L7J o o2 N (mkM n zs) co cu fx) n zs true (xs := xs) (bo := 2) (bu := 3) (bx := 5) (s := 7) hN rfl hx rfl rfl rfl (by decide) (by decide) (by decide) rfl
  have j2 := jacs_rn (l := L7J o o2 N (mkM n zs) co cu fx ++ tabJ 7 N (fun _ _ => fb)) n zs true (xs := xs) (bo := 2) (bu := 3) (bx := 5) (s := 8 + N) hN rfl hx rfl rfl rfl (by decide) (by decide) (by decide) (by rw [List.length_append, lt]; show 8 + N = 7 + (N + 1); omega)
  have hl3 : (L7J o o2 N (mkM n zs) co cu fx ++ tabJ 7 N (fun _ _ => fb) ++ tabJ (8 + N) N (evD n zs true xs)).length = 9 + 2 * N := by
    rw [List.length_append, List.length_append, lt, lt]
    show 7 + (N + 1) + (N + 1) = _
    omega
  have j3 := jacs_rn (l := L7J o o2 N (mkM n zs) co cu fx ++ tabJ 7 N (fun _ _ => fb) ++ tabJ (8 + N) N (evD n zs true xs) ++ [opB co, iB cu]) n zs true (xs := xs) (bo := 9 + 2 * N) (bu := 10 + 2 * N) (bx := 6) (s := 11 + 2 * N) hN rfl hx
    (by rw [List.getElem?_append_right (by omega), hl3, Nat.sub_self]; rfl) (by rw [List.getElem?_append_right (by omega), hl3, show 10 + 2 * N - (9 + 2 * N) = 1 by omega]; rfl) rfl (by omega) (by omega) (by omega) (by rw [List.length_append, hl3]; simp; omega)
  rw [show 8 + N + N = 8 + 2 * N by omega] at j2
  rw [show 11 + 2 * N + N = 11 + 3 * N by omega] at j3
  have e3 : (L7J o o2 N (mkM n zs) co cu fx ++ tabJ 7 N (fun _ _ => fb) ++ tabJ (8 + N) N (evD n zs true xs)) = [o, o2] ++ ([opB co, iB cu, tcB 2 N (mkM n zs), nwF ((List.range N).map fx), nwF ((List.range N).map fx)] ++ tabJ 7 N (fun _ _ => fb) ++ tabJ (8 + N) N (evD n zs true xs)) := rfl
  have m3 : (rnO 17 #[.int .i64 n, va, .bool true] (L7J o o2 N (mkM n zs) co cu fx ++ tabJ 7 N (fun _ _ => fb) ++ tabJ (8 + N) N (evD n zs true xs)) (tpV (9 + 2 * N) (10 + 2 * N) N (mkM n zs)) [opB co, iB cu]).ok Try.prog := by
    have := make_rn (l := L7J o o2 N (mkM n zs) co cu fx ++ tabJ 7 N (fun _ _ => fb) ++ tabJ (8 + N) N (evD n zs true xs)) n true (by rw [e3]; exact hh _ ha) hN rfl hl3.symm
    rw [show 9 + 2 * N + 1 = 10 + 2 * N by omega] at this
    exact this
  refine tells_of r (okApp' (okApp' (okApp' (okApp' ⟨knownJ, make_rn n true (hh [] ha) hN rfl rfl, val_rn n1 (by omega) (hh [_, _, _] hb) rfl, val_rn n1 (by omega) (hh [_, _, _, _] hb) rfl, j1.1, trivial⟩ (rep_ok hfb _)) ⟨j2.1, m3, j3.2, trivial⟩) (each_ok _ _ fun i _ => map_ok _ _ fun j _ => same_refl _)) (map_ok _ _ fun i _ => same_refl _))

end Go.Proofs.Ytdlinjijccnaeaa
