/- jac of any field in any memory. -/
import Derived.Test.YtdlinjijccnaeaaJqI
namespace Go.Proofs.Ytdlinjijccnaeaa
open Go
set_option linter.unusedVariables false
set_option linter.unusedSimpArgs false
set_option maxRecDepth 100000

section
variable {l : List (Option ABlk)}
theorem jacAny_rn {N M bo bu bx s : Nat} {ops : List OpD} {out : List Int} {xs : List Nat} (hok : ∀ k o, ops[k]? = some o → opOkD k N o) (hx : xs.length = N) (hu : out.length = N) (huo : ∀ u ∈ out, 0 ≤ u ∧ u < ops.length) (h1 : 1 ≤ N) (h4 : N ≤ 4) (hM : ops.length = M) (hM1 : M ≤ 13) (hM2 : 2 ≤ M)
    (g0 : l[bo]? = some (opB (opsB ops true).cells)) (g1 : l[bu]? = some (iB (intB out true).cells)) (g2 : l[bx]? = some (nwF xs)) (n1 : bo ≠ bu) (n2 : bo ≠ bx) (n3 : bu ≠ bx) (hs : s = l.length) :
    (rnO 16 #[tpV bo bu N M, slV bx N] l (slV (s + N) N) (tabJ s N (rwD ops xs out))).ok Try.prog := by
  subst hM hs
  have hG : EvG fC (some (opsB ops false)) (some (intB out false)) (some ⟨(xs.flatMap fC).toArray, 27, 1, false⟩) N ops out xs := ⟨⟨_, rfl, rfl⟩, ⟨_, rfl, rfl⟩, ⟨_, rfl, rfl⟩, hok, hx, hu, huo⟩
  have r1 := jac_Jac hG rfl rfl (opsB_plain _ _) (intB_plain _ _) (plain_flat fC_cl _ _ _ _) rfl h1 h4 hM1 hM2
  have a := Runs.tabAt (args1 := #[tpV bo bu N ops.length, slV bx N]) (bo := bo) (bu := bu) (bx := bx) (B0 := opsB ops false) (B1 := intB out false) (B2 := ⟨(xs.flatMap fC).toArray, 27, 1, false⟩) r1 rfl rfl rfl (opsB_plain _ _) (intB_plain _ _) (plain_flat fC_cl _ _ _ _) (froze_all l.toArray) (fz_at g0) (fz_at g1) (fz_at g2) n1 n2 n3
      (.cons (tp_rel bo bu _ _ (by decide) rfl rfl) (.cons (.slice 2 bx 0 none _ _ _ (by decide) rfl) .nil))
  rw [fz_size] at a
  exact a
theorem jacAnyI_rn {N M bo bu bx s : Nat} {ops : List OpD} {out : List Int} {xs : List P2} (hr : ∀ k, Rt (regDI ops xs k).1) (hok : ∀ k o, ops[k]? = some o → opOkD k N o) (hx : xs.length = N) (hu : out.length = N) (huo : ∀ u ∈ out, 0 ≤ u ∧ u < ops.length) (h1 : 1 ≤ N) (h4 : N ≤ 4) (hM : ops.length = M) (hM1 : M ≤ 13) (hM2 : 2 ≤ M)
    (g0 : l[bo]? = some (opB (opsB ops true).cells)) (g1 : l[bu]? = some (iB (intB out true).cells)) (g2 : l[bx]? = some (nwPj xs)) (n1 : bo ≠ bu) (n2 : bo ≠ bx) (n3 : bu ≠ bx) (hs : s = l.length) :
    (rnO 20 #[tpV bo bu N M, slV bx N] l (slV (s + N) N) (tabJI s N (rwDI ops xs out))).ok Try.prog := by
  subst hM hs
  have hG : EvG pC (some (opsB ops false)) (some (intB out false)) (some ⟨(xs.flatMap pC).toArray, 29, 2, false⟩) N ops out xs := ⟨⟨_, rfl, rfl⟩, ⟨_, rfl, rfl⟩, ⟨_, rfl, rfl⟩, hok, hx, hu, huo⟩
  have r1 := jac_JacI hG rfl rfl (opsB_plain _ _) (intB_plain _ _) (plain_flat pC_cl _ _ _ _) rfl hr h1 h4 hM1 hM2
  have a := Runs.tabAtI (args1 := #[tpV bo bu N ops.length, slV bx N]) (bo := bo) (bu := bu) (bx := bx) (B0 := opsB ops false) (B1 := intB out false) (B2 := ⟨(xs.flatMap pC).toArray, 29, 2, false⟩) r1 rfl rfl rfl (opsB_plain _ _) (intB_plain _ _) (plain_flat pC_cl _ _ _ _) (froze_all l.toArray) (fz_at g0) (fz_at g1) (fz_at g2) n1 n2 n3
      (.cons (tp_rel bo bu _ _ (by decide) rfl rfl) (.cons (.slice 2 bx 0 none _ _ _ (by decide) rfl) .nil))
  rw [fz_size] at a
  exact a
end

def tabAl (N : Nat) (R : Nat → Nat → Nat) (s : Nat) : Ans := cAns (fun s => slV (s + N) N) (tabJ s N R)
def tabAlI (N : Nat) (R : Nat → Nat → P2) (s : Nat) : Ans := cAns (fun s => slV (s + N) N) (tabJI s N R)
noncomputable def wiOl (z : Int) (n : Nat) (w : Int) : Obl := .run 13 #[.int .i64 z, .int .i64 (Int.ofNat n)] #[] (.int .i64 w) #[]

end Go.Proofs.Ytdlinjijccnaeaa
