/- The interpreter at this seat's program: the model's own rows, the modes of its functions, and that its regions may be taken in the text's order. -/
import Derived.Test.YtpmdpbljgidllaaProg
import Derived.Test.YtpmdpbljgidllaaAbsL
import Derived.KernelRfl
import Derived.Laws.StructEq
namespace Go.Proofs.Ytpmdpbljgidllaa
open Go
set_option linter.unusedVariables false

def bitsRow : Array Value → Option Value
  | ⟨[.float .f64 b]⟩ => if isNan .f64 b then none else some (.int .u64 b)
  | _ => none
def fromRow : Array Value → Option Value
  | ⟨[.int .u64 n]⟩ => some (.float .f64 n.toNat)
  | _ => none

def floorRow : Array Value → Option Value
  | ⟨[.float .f64 b]⟩ => if isNan .f64 b then none else some (.float .f64 (FloatKind.f64.encode ((FloatKind.f64.decode b).integral .down)))
  | _ => none

/-- What the model has by rows of its own. -/
def rows0 (f : FuncId) (args : Array Value) : Option Value :=
  if f = 52 then bitsRow args else
  if f = 46 then fromRow args else
  if f = 50 then floorRow args else
  none

theorem run_bits (b : Nat) (w : World) : (callFunc 52 #[.float .f64 b]).run Try.prog w = .ok (.value (.int .u64 b)) w := by kernel_rfl
theorem run_from (n : Int) (w : World) : (callFunc 46 #[.int .u64 n]).run Try.prog w = .ok (.value (.float .f64 n.toNat)) w := by kernel_rfl

theorem run_floor (b : Nat) (w : World) (h : isNan .f64 b = false) : (callFunc 50 #[.float .f64 b]).run Try.prog w = .ok (.value (.float .f64 (FloatKind.f64.encode ((FloatKind.f64.decode b).integral .down)))) w := by
  have e : ∀ d, FloatKind.f64.decode b = d → d.isNaN = false → (callFunc 50 #[.float .f64 b]).run Try.prog w = .ok (.value (.float .f64 (FloatKind.f64.encode (d.integral .down)))) w := by
    intro d hd hn
    have h0 : (callFunc 50 #[.float .f64 b]).run Try.prog w = (Sem.run Try.prog (do let v ← Extern.MathFloor.toIntegral "math.archFloor" .down #[.float .f64 b]; pure (Next.value v)) w) := by kernel_rfl
    rw [h0]
    have h1 : Extern.MathFloor.toIntegral "math.archFloor" .down #[.float .f64 b] = (match FloatKind.f64.decode b with
      | .nan s t => (if FloatKind.f64.format.quiet t = t then pure (Value.float .f64 b) else do
        let kept ← choose (.extern "math.Floor,Ceil,Trunc,RoundToEven.signallingNaN kept" 2)
        pure (Value.float .f64 (if kept == 1 then b else FloatKind.f64.encode (.nan s (FloatKind.f64.format.quiet t)))))
      | d => pure (Value.float .f64 (FloatKind.f64.encode (d.integral .down)))) := rfl
    rw [h1, hd]
    cases d with
    | nan s t => cases hn
    | _ => rfl
  exact e _ rfl h

theorem vr_two {m : Mp} {a b : Nat} {v : Value} (h : VR m (.agg #[.float .f64 a, .float .f64 b]) v) : ∃ a' b', v = .agg #[.float .f64 a', .float .f64 b'] ∧ alikeF .f64 a a' ∧ alikeF .f64 b b' := by
  cases h with
  | @agg _ ys h1 h2 =>
    simp at h1
    have g1 := h2 0 (by simp) (by omega)
    have g2 := h2 1 (by simp) (by omega)
    have hy : ys = #[ys[0]'(by omega), ys[1]'(by omega)] := by
      apply Array.ext
      · simp; omega
      · intro i q1 q2
        have : i = 0 ∨ i = 1 := by omega
        rcases this with rfl | rfl <;> simp
    generalize ys[0]'(by omega) = y0 at g1 hy
    generalize ys[1]'(by omega) = y1 at g2 hy
    cases g1 with
    | @float _ _ a' e1 => cases g2 with
      | @float _ _ b' e2 => exact ⟨a', b', by rw [hy], e1, e2⟩

theorem vrs_one {m : Mp} {x : Value} {ys : Array Value} (h : VRs m #[x] ys) : ∃ y, ys = #[y] ∧ VR m x y := by
  have hs := h.1
  simp at hs
  refine ⟨ys[0]'(by omega), ?_, h.2 0 (by simp) (by omega)⟩
  apply Array.ext
  · simp; omega
  · intro i h1 h2
    have : i = 0 := by omega
    subst this
    simp

theorem rows0_ok {f : FuncId} {args : Array Value} {v : Value} (h : rows0 f args = some v) (m : Mp) (args' : Array Value) (hv : VRs m args args') (w : World) : ∃ v', (callFunc f args').run Try.prog w = .ok (.value v') w ∧ VR m v v' := by
  unfold rows0 at h
  split at h
  · rename_i hf
    subst hf
    unfold bitsRow at h
    split at h
    · rename_i b
      obtain ⟨y, rfl, hy⟩ := vrs_one hv
      cases hy with
      | @float _ _ b' hb =>
        split at h
        · cases h
        · rename_i hn
          injection h with h; subst h
          rcases hb with rfl | ⟨h1, _⟩
          · exact ⟨_, run_bits b w, .int _ _⟩
          · exact absurd h1 hn
    · cases h
  split at h
  · rename_i hf
    subst hf
    unfold fromRow at h
    split at h
    · rename_i n
      obtain ⟨y, rfl, hy⟩ := vrs_one hv
      cases hy
      injection h with h; subst h
      exact ⟨_, run_from n w, .float _ (.refl _ _)⟩
    · cases h
  split at h
  · rename_i hf
    subst hf
    unfold floorRow at h
    split at h
    · rename_i b
      obtain ⟨y, rfl, hy⟩ := vrs_one hv
      cases hy with
      | @float _ _ b' hb =>
        split at h
        · cases h
        · rename_i hn
          injection h with h; subst h
          rcases hb with rfl | ⟨h1, _⟩
          · exact ⟨_, run_floor b w (by simpa using hn), .float _ (.refl _ _)⟩
          · exact absurd h1 hn
    · cases h
  cases h

/-- Whether two from-tos are the same, by their ends. -/
def binIv (op : BinOp) (t : TypeId) (x y : Value) : Option Value :=
  match op, x, y with
  | .eql, .agg ⟨[.float .f64 a, .float .f64 b]⟩, .agg ⟨[.float .f64 c, .float .f64 d]⟩ => if t = 39 then some (.bool (Op.floatEq .f64 a c && Op.floatEq .f64 b d)) else none
  | .neq, .bool a, .bool b => if t = 4 then some (.bool (a != b)) else none
  | _, _, _ => none

theorem run_neBool (x y : Operand) (w : World) : ∀ a b : Bool, (do eqGuard .neq 4 x y (.bool a) (.bool b); binOp .neq 4 (.bool a) (.bool b)).run Try.prog w = .ok (.bool (a != b)) w
  | true, true => by kernel_rfl
  | true, false => by kernel_rfl
  | false, true => by kernel_rfl
  | false, false => by kernel_rfl

theorem eq_float (a c : Nat) (w : World) : (Op.equalIn 9999 30 (.float .f64 a) (.float .f64 c)).run Try.prog w = .ok (Op.floatEq .f64 a c) w := by kernel_rfl

theorem run_eqIv (a b c d : Nat) (w : World) : (binOp .eql 39 (.agg #[.float .f64 a, .float .f64 b]) (.agg #[.float .f64 c, .float .f64 d])).run Try.prog w = .ok (.bool (Op.floatEq .f64 a c && Op.floatEq .f64 b d)) w := by
  have hS : Try.prog.underlying 39 = some (.struct (Try.prog.fieldsOf 39)) := by kernel_rfl
  have hp : Try.prog.stoodInHeld 39 = false := by kernel_rfl
  have p1 : ∀ (x y : Nat) (w : World), (part 30 #[.float .f64 x, .float .f64 y] 0).run Try.prog w = .ok (.float .f64 x) w := fun x y w => by kernel_rfl
  have p2 : ∀ (x y : Nat) (w : World), (part 30 #[.float .f64 x, .float .f64 y] 1).run Try.prog w = .ok (.float .f64 y) w := fun x y w => by kernel_rfl
  have hf : ∃ n1 n2 : String, (Try.prog.fieldsOf 39).toList.map (fun f => (f.name, f.type, f.offset)) = [(n1, 30, 0), (n2, 30, 1)] ∧ n1 ≠ "_" ∧ n2 ≠ "_" := ⟨"Lo", "Hi", by kernel_rfl, by decide, by decide⟩
  rw [run_eql_struct, show (10000 : Nat) = 9999 + 1 from rfl, run_equalIn_agg w 9999 39 _ _ hS hp]
  obtain ⟨n1, n2, hl, h1, h2⟩ := hf
  generalize (Try.prog.fieldsOf 39).toList = fs at hl
  have hlen : fs.length = 2 := by have := congrArg List.length hl; simpa using this
  obtain ⟨f1, f2, rfl⟩ : ∃ f1 f2, fs = [f1, f2] := by
    match fs, hlen with
    | [f1, f2], _ => exact ⟨f1, f2, rfl⟩
  simp only [List.map_cons, List.map_nil, List.cons.injEq, Prod.mk.injEq, and_true] at hl
  obtain ⟨⟨a1, a2, a3⟩, b1, b2, b3⟩ := hl
  simp only [Op.eqFields, a1, a2, a3, b1, b2, b3, ne_eq, h1, h2, not_false_eq_true, if_true, Sem.run_bind, p1, p2, Result.andThen_ok, eq_float, Sem.run_ite, Sem.run_pure]
  cases Op.floatEq .f64 a c <;> cases Op.floatEq .f64 b d <;> simp

theorem binIv_ok {op : BinOp} {t : TypeId} {a b v : Value} (h : binIv op t a b = some v) (m : Mp) (a' b' : Value) (ha : VR m a a') (hb : VR m b b') (x y : Operand) (w : World) :
    ∃ v', (do eqGuard op t x y a' b'; binOp op t a' b').run Try.prog w = .ok v' w ∧ VR m v v' := by
  unfold binIv at h
  split at h
  · rename_i a b c d
    split at h
    · rename_i ht
      subst ht
      injection h with h
      subst h
      obtain ⟨a1, b1, rfl, h1, h2⟩ := vr_two ha
      obtain ⟨c1, d1, rfl, h3, h4⟩ := vr_two hb
      refine ⟨_, ?_, .bool _⟩
      have hg : Try.prog.eqGuardType Try.prog.depth 39 = false := by kernel_rfl
      rw [Sem.run_bind, run_eqGuard_agg w .eql _ x y _ _ hg, Result.andThen_ok, run_eqIv]
      have e1 := order_alike (k := .f64) h1 h3
      have e2 := order_alike (k := .f64) h2 h4
      unfold Op.floatEq
      rw [e1, e2]
    · cases h
  · rename_i a b
    split at h
    · rename_i ht
      subst ht
      injection h with h
      subst h
      cases ha
      cases hb
      exact ⟨_, run_neBool x y w _ _, .bool _⟩
    · cases h
  · cases h

def base0 : Orc := ⟨fun _ _ _ => none, rows0, binIv⟩
theorem base0_ok : OrcOK Try.prog base0 := ⟨fun _ _ _ _ _ h => (by cases h), fun f args v h m args' hv w => rows0_ok h m args' hv w, fun _ _ _ _ _ h m a' b' ha hb x y w => binIv_ok h m a' b' ha hb x y w⟩

theorem mixed0 : Try.prog.follows .mixedOrders = true := by kernel_rfl

end Go.Proofs.Ytpmdpbljgidllaa
