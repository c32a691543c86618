/- What laws of tape.EvalIv have in common. -/
import Derived.Test.YtpmdpbljgidllaaTpKf
import Derived.Test.YtpmdpbljgidllaaTpLi
namespace Go.Proofs.Ytpmdpbljgidllaa
open Go
set_option linter.unusedVariables false
set_option linter.unusedSimpArgs false
set_option maxRecDepth 100000

def rwP (N : Nat) (f : Nat → Nat × Nat) : Ans := cAns (fun s => .slice (some ⟨s, 0, none⟩) N N) [nwP ((List.range N).map f)]
def evP (n : Int) (zs : List Int) (dv : Bool) (xs : List (Nat × Nat)) (i : Nat) : Nat × Nat := regP (mkOps n zs dv) xs (mkU n (mkM n zs) i).toNat
section
variable {l : List (Option ABlk)}
theorem evP_rn (n : Int) (zs : List Int) (dv : Bool) {xs : List (Nat × Nat)} (hr : ∀ X ∈ xs, Rt X) {N M bo bu bx s : Nat} (hN : mkN n = N) (hM : mkM n zs = M) (hx : xs.length = N) {t : TypeId} {z : Nat} {B : ABlk}
    (h0 : l[bo]? = some (opB (opsB (mkOps n zs dv) true).cells)) (h1 : l[bu]? = some (iB (intB (mkOut n (mkM n zs)) true).cells)) (h2 : l[bx]? = some (some B)) (e2 : B.cells = (xs.flatMap pC).toArray) (hs : s = l.length) :
    (rnO 20 #[tpV bo bu N M, slV bx N] l (slV s N) [nwP ((List.range N).map (evP n zs dv xs))]).ok Try.prog ∧
    (rnO 38 #[tpV bo bu N M, slV bx N] l (slV s N) [nwP ((List.range N).map (evP n zs dv xs))]).ok Try.prog := by
  subst hN hM hs
  have := evalI_in n zs dv (H := froze l.toArray) (mk_rt n zs dv hr) hx (fz_at h0) rfl (fz_at h1) rfl (fz_at h2) e2
  rw [evOut_map, fz_size] at this
  exact this
end
theorem rare_any (z : Int) : ∃ f, Runs Try.prog 18 #[.int .i64 z] #[] (.float .f64 f) #[] := by
  have h1 := Int.emod_nonneg z (b := 10) (by decide)
  have h2 := Int.emod_lt_of_pos z (b := 10) (by decide)
  have hw := within1 z 9 (by decide)
  have fin : ∀ (k : Int) (f : Nat), z % 10 = k → (askN (fun g => if g == 43 then 1 else 0) noC 12 18 #[.int .i64 z] #[] [isI k]).map (fun r => (r.1, r.2.2)) = some (.float .f64 f, [.run 43 #[.int .i64 z, .int .i64 (Int.ofNat 10)] #[] (.int .i64 k) #[]]) →
      ∃ f, Runs Try.prog 18 #[.int .i64 z] #[] (.float .f64 f) #[] := by
    intro k f hk hr
    have e : z % Int.ofNat (9 + 1) = k := hk
    rw [e] at hw
    obtain ⟨H', r⟩ := tells_of hr ⟨hw, trivial⟩
    exact ⟨f, r.quiet rfl rfl #[]⟩
  have : z % 10 = 0 ∨ z % 10 = 1 ∨ z % 10 = 2 ∨ z % 10 = 3 ∨ z % 10 = 4 ∨ z % 10 = 5 ∨ z % 10 = 6 ∨ z % 10 = 7 ∨ z % 10 = 8 ∨ z % 10 = 9 := by omega
  rcases this with h | h | h | h | h | h | h | h | h | h
  · exact fin 0 nanN h (by kernel_rfl)
  · exact fin 1 9218868437227405312 h (by kernel_rfl)
  · exact fin 2 18442240474082181120 h (by kernel_rfl)
  · exact fin 3 0 h (by kernel_rfl)
  · exact fin 4 1 h (by kernel_rfl)
  · exact fin 5 18442240474082181119 h (by kernel_rfl)
  · exact fin 6 9218868437227405311 h (by kernel_rfl)
  · exact fin 7 4607182418800017408 h (by kernel_rfl)
  · exact fin 8 4602678819172646912 h (by kernel_rfl)
  · exact fin 9 13835058055282163712 h (by kernel_rfl)
theorem tapeKnown0 : Runs Try.prog 12 #[] #[] (.bool true) #[] := by
  have h : (askN noF noC 12 12 #[] #[] []).map (fun r => (r.1, r.2.2)) = some (.bool true, []) := by kernel_rfl
  obtain ⟨H', h⟩ := tells_of h trivial
  exact h.quiet rfl rfl #[]

end Go.Proofs.Ytpmdpbljgidllaa
