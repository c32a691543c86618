/- The interpreter at this seat's program: the model's own rows, the modes of its functions, and that its regions may be taken in the text's order. -/
import Derived.Test.YthajhpilfbijdaaProg
import Derived.Test.YthajhpilfbijdaaAbsL
import Derived.KernelRfl
namespace Go.Proofs.Ythajhpilfbijdaa
open Go
set_option linter.unusedVariables false

def bitsRow : Array Value → Option Value
  | ⟨[.float .f64 b]⟩ => if isNan .f64 b then none else some (.int .u64 b)
  | _ => none
def fromRow : Array Value → Option Value
  | ⟨[.int .u64 n]⟩ => some (.float .f64 n.toNat)
  | _ => none

/-- What the model has by rows of its own. -/
def rows0 (f : FuncId) (args : Array Value) : Option Value :=
  if f = 56 then bitsRow args else
  if f = 53 then fromRow args else
  none

theorem run_bits (b : Nat) (w : World) : (callFunc 56 #[.float .f64 b]).run Try.prog w = .ok (.value (.int .u64 b)) w := by kernel_rfl
theorem run_from (n : Int) (w : World) : (callFunc 53 #[.int .u64 n]).run Try.prog w = .ok (.value (.float .f64 n.toNat)) w := by kernel_rfl

theorem vrs_one {m : Mp} {x : Value} {ys : Array Value} (h : VRs m #[x] ys) : ∃ y, ys = #[y] ∧ VR m x y := by
  have hs := h.1
  simp at hs
  refine ⟨ys[0]'(by omega), ?_, h.2 0 (by simp) (by omega)⟩
  apply Array.ext
  · simp; omega
  · intro i h1 h2
    have : i = 0 := by omega
    subst this
    simp

theorem rows0_ok {f : FuncId} {args : Array Value} {v : Value} (h : rows0 f args = some v) (m : Mp) (args' : Array Value) (hv : VRs m args args') (w : World) : ∃ v', (callFunc f args').run Try.prog w = .ok (.value v') w ∧ VR m v v' := by
  unfold rows0 at h
  split at h
  · rename_i hf
    subst hf
    unfold bitsRow at h
    split at h
    · rename_i b
      obtain ⟨y, rfl, hy⟩ := vrs_one hv
      cases hy with
      | @float _ _ b' hb =>
        split at h
        · cases h
        · rename_i hn
          injection h with h; subst h
          rcases hb with rfl | ⟨h1, _⟩
          · exact ⟨_, run_bits b w, .int _ _⟩
          · exact absurd h1 hn
    · cases h
  split at h
  · rename_i hf
    subst hf
    unfold fromRow at h
    split at h
    · rename_i n
      obtain ⟨y, rfl, hy⟩ := vrs_one hv
      cases hy
      injection h with h; subst h
      exact ⟨_, run_from n w, .float _ (.refl _ _)⟩
    · cases h
  cases h

def base0 : Orc := ⟨fun _ _ _ => none, rows0, fun _ _ _ _ => none⟩
theorem base0_ok : OrcOK Try.prog base0 := ⟨fun _ _ _ _ _ h => (by cases h), fun f args v h m args' hv w => rows0_ok h m args' hv w, fun _ _ _ _ _ h => (by cases h)⟩

theorem mixed0 : Try.prog.follows .mixedOrders = true := by kernel_rfl

end Go.Proofs.Ythajhpilfbijdaa
