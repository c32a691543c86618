/- The interpreter at this seat's program: the model's own rows, the modes of its functions, and that its regions may be taken in the text's order. -/
import Derived.Test.YtclphdmaedpipaaProg
import Derived.Test.YtclphdmaedpipaaAbsL
import Derived.KernelRfl
namespace Go.Proofs.Ytclphdmaedpipaa
open Go
set_option linter.unusedVariables false

def bitsRow : Array Value → Option Value
  | ⟨[.float .f64 b]⟩ => if isNan .f64 b then none else some (.int .u64 b)
  | _ => none
def fromRow : Array Value → Option Value
  | ⟨[.int .u64 n]⟩ => some (.float .f64 n.toNat)
  | _ => none

def floorRow : Array Value → Option Value
  | ⟨[.float .f64 b]⟩ => if isNan .f64 b then none else some (.float .f64 (FloatKind.f64.encode ((FloatKind.f64.decode b).integral .down)))
  | _ => none

/-- What the model has by rows of its own. -/
def rows0 (f : FuncId) (args : Array Value) : Option Value :=
  if f = 54 then bitsRow args else
  if f = 53 then fromRow args else
  none

theorem run_bits (b : Nat) (w : World) : (callFunc 54 #[.float .f64 b]).run Try.prog w = .ok (.value (.int .u64 b)) w := by kernel_rfl
theorem run_from (n : Int) (w : World) : (callFunc 53 #[.int .u64 n]).run Try.prog w = .ok (.value (.float .f64 n.toNat)) w := by kernel_rfl


theorem vr_two {m : Mp} {a b : Nat} {v : Value} (h : VR m (.agg #[.float .f64 a, .float .f64 b]) v) : ∃ a' b', v = .agg #[.float .f64 a', .float .f64 b'] ∧ alikeF .f64 a a' ∧ alikeF .f64 b b' := by
  cases h with
  | @agg _ ys h1 h2 =>
    simp at h1
    have g1 := h2 0 (by simp) (by omega)
    have g2 := h2 1 (by simp) (by omega)
    have hy : ys = #[ys[0]'(by omega), ys[1]'(by omega)] := by
      apply Array.ext
      · simp; omega
      · intro i q1 q2
        have : i = 0 ∨ i = 1 := by omega
        rcases this with rfl | rfl <;> simp
    generalize ys[0]'(by omega) = y0 at g1 hy
    generalize ys[1]'(by omega) = y1 at g2 hy
    cases g1 with
    | @float _ _ a' e1 => cases g2 with
      | @float _ _ b' e2 => exact ⟨a', b', by rw [hy], e1, e2⟩

theorem vrs_one {m : Mp} {x : Value} {ys : Array Value} (h : VRs m #[x] ys) : ∃ y, ys = #[y] ∧ VR m x y := by
  have hs := h.1
  simp at hs
  refine ⟨ys[0]'(by omega), ?_, h.2 0 (by simp) (by omega)⟩
  apply Array.ext
  · simp; omega
  · intro i h1 h2
    have : i = 0 := by omega
    subst this
    simp

theorem rows0_ok {f : FuncId} {args : Array Value} {v : Value} (h : rows0 f args = some v) (m : Mp) (args' : Array Value) (hv : VRs m args args') (w : World) : ∃ v', (callFunc f args').run Try.prog w = .ok (.value v') w ∧ VR m v v' := by
  unfold rows0 at h
  split at h
  · rename_i hf
    subst hf
    unfold bitsRow at h
    split at h
    · rename_i b
      obtain ⟨y, rfl, hy⟩ := vrs_one hv
      cases hy with
      | @float _ _ b' hb =>
        split at h
        · cases h
        · rename_i hn
          injection h with h; subst h
          rcases hb with rfl | ⟨h1, _⟩
          · exact ⟨_, run_bits b w, .int _ _⟩
          · exact absurd h1 hn
    · cases h
  split at h
  · rename_i hf
    subst hf
    unfold fromRow at h
    split at h
    · rename_i n
      obtain ⟨y, rfl, hy⟩ := vrs_one hv
      cases hy
      injection h with h; subst h
      exact ⟨_, run_from n w, .float _ (.refl _ _)⟩
    · cases h
  cases h

/-- Whether two from-tos are the same, by their ends. -/
def binIv (op : BinOp) (t : TypeId) (x y : Value) : Option Value :=
  match op, x, y with
  | .neq, .bool a, .bool b => if t = 4 then some (.bool (a != b)) else none
  | _, _, _ => none

theorem run_neBool (x y : Operand) (w : World) : ∀ a b : Bool, (do eqGuard .neq 4 x y (.bool a) (.bool b); binOp .neq 4 (.bool a) (.bool b)).run Try.prog w = .ok (.bool (a != b)) w
  | true, true => by kernel_rfl
  | true, false => by kernel_rfl
  | false, true => by kernel_rfl
  | false, false => by kernel_rfl



theorem binIv_ok {op : BinOp} {t : TypeId} {a b v : Value} (h : binIv op t a b = some v) (m : Mp) (a' b' : Value) (ha : VR m a a') (hb : VR m b b') (x y : Operand) (w : World) :
    ∃ v', (do eqGuard op t x y a' b'; binOp op t a' b').run Try.prog w = .ok v' w ∧ VR m v v' := by
  unfold binIv at h
  split at h
  · rename_i a b
    split at h
    · rename_i ht
      subst ht
      injection h with h
      subst h
      cases ha
      cases hb
      exact ⟨_, run_neBool x y w _ _, .bool _⟩
    · cases h
  · cases h

def base0 : Orc := ⟨fun _ _ _ => none, rows0, binIv⟩
theorem base0_ok : OrcOK Try.prog base0 := ⟨fun _ _ _ _ _ h => (by cases h), fun f args v h m args' hv w => rows0_ok h m args' hv w, fun _ _ _ _ _ h m a' b' ha hb x y w => binIv_ok h m a' b' ha hb x y w⟩

theorem mixed0 : Try.prog.follows .mixedOrders = true := by kernel_rfl

end Go.Proofs.Ytclphdmaedpipaa
