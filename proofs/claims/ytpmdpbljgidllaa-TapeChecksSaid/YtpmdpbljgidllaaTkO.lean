/- A tape among the arguments, opened: what stands where in the world. -/
import Derived.Test.YtpmdpbljgidllaaTkW
import Derived.WalkKit
import Derived.ProofKit
import Derived.OpenShut
import Derived.Deep.Slices
namespace Go.Proofs.Ytpmdpbljgidllaa
open Go
open Go.ChangeShapes Go.WideShapes Go.ChangeAt Go.RowKit
set_option linter.unusedVariables false
set_option linter.unusedSimpArgs false
set_option maxRecDepth 100000

noncomputable def fsT (t : TypeId) : Array Field := match Try.prog.underlying t with
  | some (.struct fs) => fs
  | _ => #[]
theorem u_tape : Try.prog.underlying 25 = some (.struct (fsT 25)) := by kernel_rfl
theorem u_op : Try.prog.underlying 32 = some (.struct (fsT 32)) := by kernel_rfl
theorem f_tape : (fsT 25).toList.map (fun f => (f.type, f.offset)) = [(3, 0), (22, 1), (23, 2)] := by kernel_rfl
theorem f_op : (fsT 32).toList.map (fun f => (f.type, f.offset)) = [(3, 0), (3, 1), (3, 2), (30, 3)] := by kernel_rfl
theorem u_ops : Try.prog.underlying 22 = some (.slice 32) := by kernel_rfl
theorem u_is : Try.prog.underlying 23 = some (.slice 3) := by kernel_rfl
theorem u_i : Try.prog.underlying 3 = some (.int .i64) := by kernel_rfl
theorem u_f : Try.prog.underlying 30 = some (.float .f64) := by kernel_rfl
theorem c_tape : Try.prog.cellsOf 25 = 3 := by kernel_rfl
theorem c_op : Try.prog.cellsOf 32 = 4 := by kernel_rfl
theorem c_ops : Try.prog.cellsOf 22 = 1 := by kernel_rfl
theorem c_is : Try.prog.cellsOf 23 = 1 := by kernel_rfl
theorem c_i : Try.prog.cellsOf 3 = 1 := by kernel_rfl
theorem c_f : Try.prog.cellsOf 30 = 1 := by kernel_rfl
section
variable {H : Type} {enc : TypeId × Value → H} {P : Program} {w : World} {base : Nat} {spare : Nat → Bool} {held : Bool} {t : TypeId} {cs : List Value} {fuel : Nat} {x : DataW H × List MemPlace}
theorem trodF {fs : Array Field} {l : List (TypeId × Nat)} (ht : P.underlying t = some (.struct fs)) (hl : fs.toList.map (fun f => (f.type, f.offset)) = l) (h : DataW.trod enc P w base spare held fuel t cs = some x) :
    cs.length = P.cellsOf t ∧ ∃ n, ∀ (i : Nat) (u : TypeId) (o : Nat), l[i]? = some (u, o) → ∃ y, DataW.trod enc P w base spare held n u ((cs.drop o).take (P.cellsOf u)) = some y := by
  obtain ⟨xs, n, _, _, hlen, hsz, hf⟩ := DataW.trod_struct ht h
  refine ⟨hlen, n, fun i u o hi => ?_⟩
  subst hl
  rw [List.getElem?_map] at hi
  obtain ⟨f, h1, h2⟩ := Option.map_eq_some_iff.1 hi
  simp only [Prod.mk.injEq] at h2
  obtain ⟨rfl, rfl⟩ := h2
  have h3 : fs[i]? = some f := by simpa using h1
  have hi2 : i < xs.length := by rw [hsz]; exact (Array.getElem?_eq_some_iff.1 h3).1
  exact ⟨xs[i], by rw [hf i f h3, List.getElem?_eq_getElem hi2]⟩
theorem trodFl {k : FloatKind} (ht : P.underlying t = some (.float k)) (h : DataW.trod enc P w base spare held fuel t cs = some x) : ∃ b, cs = [.float k b] ∧ (Lit.float k b).wf = true := by
  cases fuel with
  | zero => simp [DataW.trod] at h
  | succ n =>
    unfold DataW.trod at h
    rw [ht] at h
    split at h <;> simp_all
end
section
variable {H : Type} {enc : TypeId × Value → H} {W : World} {base : Nat} {sp : Nat → Bool}
theorem trod_i1 {n : Nat} {c : Value} {l : List Value} {y : DataW H × List MemPlace} (hl : l = [c]) (h : DataW.trod enc Try.prog W base sp true n 3 l = some y) : ∃ z, c = .int .i64 z := by
  subst hl
  obtain ⟨z, h1, _⟩ := DataW.trod_int u_i h
  exact ⟨z, by simpa using h1⟩
theorem open_op {fuel : Nat} {cs : List Value} {x : DataW H × List MemPlace} (h : DataW.trod enc Try.prog W base sp true fuel 32 cs = some x) : ∃ K A B c, cs = [.int .i64 K, .int .i64 A, .int .i64 B, .float .f64 c] ∧ c < 18446744073709551616 := by
  obtain ⟨hlen, n, hf⟩ := trodF u_op f_op h
  rw [c_op] at hlen
  match cs, hlen with
  | [c0, c1, c2, c3], _ =>
    obtain ⟨y0, t0⟩ := hf 0 _ _ rfl
    obtain ⟨y1, t1⟩ := hf 1 _ _ rfl
    obtain ⟨y2, t2⟩ := hf 2 _ _ rfl
    obtain ⟨y3, t3⟩ := hf 3 _ _ rfl
    rw [c_i] at t0 t1 t2
    rw [c_f] at t3
    obtain ⟨K, rfl⟩ := trod_i1 (c := c0) rfl t0
    obtain ⟨A, rfl⟩ := trod_i1 (c := c1) rfl t1
    obtain ⟨B, rfl⟩ := trod_i1 (c := c2) rfl t2
    obtain ⟨c, h3, hw⟩ := trodFl u_f t3
    have h4 : c3 = .float .f64 c := by simpa using h3
    subst h4
    exact ⟨K, A, B, c, rfl, of_decide_eq_true hw⟩
theorem flat4 {D : Nat → OpD} : ∀ (n i : Nat) (v : Value), (((List.range n).map D).flatMap opC)[i]? = some v → i / 4 < n ∧ (opC (D (i / 4)))[i % 4]? = some v := by
  have gen : ∀ (l : List OpD) (i : Nat) (v : Value), (l.flatMap opC)[i]? = some v → ∃ o, l[i / 4]? = some o ∧ (opC o)[i % 4]? = some v := by
    intro l
    induction l with
    | nil => intro i v h; simp at h
    | cons o l ih =>
      intro i v h
      rw [List.flatMap_cons] at h
      by_cases hi : i < 4
      · rw [List.getElem?_append_left (by rw [opC_len]; exact hi)] at h
        rw [show i / 4 = 0 by omega, show i % 4 = i by omega]
        exact ⟨o, rfl, h⟩
      · rw [List.getElem?_append_right (by rw [opC_len]; omega), opC_len] at h
        obtain ⟨o', h1, h2⟩ := ih _ _ h
        rw [show i / 4 = (i - 4) / 4 + 1 by omega, show i % 4 = (i - 4) % 4 by omega]
        exact ⟨o', by simpa using h1, h2⟩
  intro n i v h
  obtain ⟨o, h1, h2⟩ := gen _ i v h
  rw [List.getElem?_map] at h1
  obtain ⟨j, h3, rfl⟩ := Option.map_eq_some_iff.1 h1
  have hj := List.getElem?_eq_some_iff.1 h3
  obtain ⟨hlt, e⟩ := hj
  simp at hlt e
  rw [← e] at h2
  exact ⟨hlt, h2⟩
theorem open_tape {v : Value} {d : DataW H} {ps : List MemPlace} (hval : Value.okWide Try.prog W .any base 25 v) (h : DataW.Trod enc Try.prog W 0 (fun _ => true) true 25 v d ps) :
    ∃ (N : Int) (a b : Option Addr) (ca cb : Nat) (ops : List OpD) (out : List Int), v = .agg #[.int .i64 N, .slice a ops.length ca, .slice b out.length cb] ∧ FlatG W a ops.length ca 4 (ops.flatMap opC) ∧ FlatG W b out.length cb 1 (out.flatMap iC) ∧ ∀ o ∈ ops, NaC o.C := by
  obtain ⟨cs, rfl, hsz⟩ := okWide_struct u_tape hval
  obtain ⟨fuel, hf⟩ := h
  obtain ⟨hlen, n, hfs⟩ := trodF u_tape f_tape hf
  rw [c_tape] at hlen
  have hcs : (Value.agg cs).cells.toList = cs.toList := rfl
  obtain ⟨cl⟩ := cs
  have e : (Value.agg ⟨cl⟩).cells.toList = cl := rfl
  rw [e] at hfs hlen
  match cl, hlen with
  | [c0, c1, c2], _ =>
    obtain ⟨y0, t0⟩ := hfs 0 _ _ rfl
    obtain ⟨y1, t1⟩ := hfs 1 _ _ rfl
    obtain ⟨y2, t2⟩ := hfs 2 _ _ rfl
    rw [c_i] at t0
    rw [c_ops] at t1
    rw [c_is] at t2
    obtain ⟨N, rfl⟩ := trod_i1 (c := c0) rfl t0
    have r1 : ∃ (a : Option Addr) (ca : Nat) (ops : List OpD), c1 = .slice a ops.length ca ∧ FlatG W a ops.length ca 4 (ops.flatMap opC) ∧ ∀ o ∈ ops, NaC o.C := by
      rcases Go.Deep.open_slice u_ops t1 with ⟨h1, _⟩ | ⟨a, len, cap, m, n', D, Pl, h1, _, hl, hm, hmm, _, hx⟩
      · have h1 : c1 = .slice none 0 0 := by simpa using h1
        subst h1
        exact ⟨none, 0, [], rfl, .inl ⟨rfl, rfl, rfl, rfl⟩, fun o ho => by cases ho⟩
      · have h1 : c1 = .slice (some a) len cap := by simpa using h1
        subst h1
        have hmc : m = cap := by rw [hmm]; rfl
        subst hmc
        rw [c_op] at hx
        have each : ∀ i : Nat, ∃ o : OpD, i < len → NaC o.C ∧ ∀ (f : Nat) (v : Value), (opC o)[f]? = some v → ∃ v', W.cell? (a.add (i * 4 + f)) = some v' ∧ ∀ m : Mp, VR m v v' := by
          intro i
          by_cases hi : i < len
          · obtain ⟨cs', g1, g2⟩ := hx i (by omega)
            obtain ⟨K, A, B, c, rfl, hc⟩ := open_op g2
            obtain ⟨c', hn, hal⟩ := can_ex hc
            obtain ⟨_, _, hcell⟩ := World.cells?_some g1
            refine ⟨⟨K, A, B, c'⟩, fun _ => ⟨hn, fun f v hv => ?_⟩⟩
            have hf4 : f < 4 := (List.getElem?_eq_some_iff.1 hv).1
            have hc4 := hcell f hf4
            rw [Go.Deep.add_add] at hc4
            match f, hf4, hv with
            | 0, _, hv => exact ⟨_, hc4, fun m => (Option.some.inj hv) ▸ .int _ _⟩
            | 1, _, hv => exact ⟨_, hc4, fun m => (Option.some.inj hv) ▸ .int _ _⟩
            | 2, _, hv => exact ⟨_, hc4, fun m => (Option.some.inj hv) ▸ .int _ _⟩
            | 3, _, hv => exact ⟨_, hc4, fun m => (Option.some.inj hv) ▸ .float _ hal⟩
          · exact ⟨⟨0, 0, 0, 0⟩, fun h => absurd h hi⟩
        obtain ⟨D', hD⟩ := Classical.axiomOfChoice each
        have hlen' : ((List.range len).map D').length = len := by simp
        refine ⟨some a, m, (List.range len).map D', by rw [hlen'], .inr ⟨a, rfl, by rw [hlen']; exact hl, ?_, fun i v hv => ?_⟩, fun o ho => ?_⟩
        · have : ∀ l : List OpD, (l.flatMap opC).length = l.length * 4 := by
            intro l
            induction l with
            | nil => rfl
            | cons a l ih => rw [List.flatMap_cons, List.length_append, ih, opC_len, List.length_cons]; omega
          exact this _
        · obtain ⟨g1, g2⟩ := flat4 len i v hv
          obtain ⟨v', g3, g4⟩ := (hD (i / 4) g1).2 _ _ g2
          rw [show i / 4 * 4 + i % 4 = i by omega] at g3
          exact ⟨v', g3, g4⟩
        · obtain ⟨j, hj, rfl⟩ := List.mem_map.1 ho
          exact (hD j (List.mem_range.1 hj)).1
    have r2 : ∃ (b : Option Addr) (cb : Nat) (out : List Int), c2 = .slice b out.length cb ∧ FlatG W b out.length cb 1 (out.flatMap iC) := by
      rcases open_ints u_is u_i c_i t2 with ⟨h1, _⟩ | ⟨a, len, cap, zs, h1, _, hl, hm, hzl, _, hcell, _⟩
      · have h1 : c2 = .slice none 0 0 := by simpa using h1
        subst h1
        exact ⟨none, 0, [], rfl, .inl ⟨rfl, rfl, rfl, rfl⟩⟩
      · have h1 : c2 = .slice (some a) len cap := by simpa using h1
        subst h1
        have hzc : zs.length = cap := by rw [hzl]; rfl
        have hlen' : (zs.take len).length = len := by rw [List.length_take]; omega
        have e : ∀ l : List Int, l.flatMap iC = l.map (Value.int .i64) := fun l => by
          induction l with
          | nil => rfl
          | cons a l ih => rw [List.flatMap_cons, ih]; rfl
        refine ⟨some a, cap, zs.take len, by rw [hlen'], .inr ⟨a, rfl, by rw [hlen']; exact hl, by rw [iC_len, Nat.mul_one], fun i v hv => ?_⟩⟩
        rw [e, List.getElem?_map] at hv
        obtain ⟨z, h5, rfl⟩ := Option.map_eq_some_iff.1 hv
        have hi : i < len := by
          have := (List.getElem?_eq_some_iff.1 h5).1
          omega
        rw [List.getElem?_take_of_lt hi] at h5
        have hz : zs.getD i 0 = z := by rw [List.getD_eq_getElem?_getD, h5]; rfl
        have := hcell i (by omega)
        rw [hz] at this
        exact ⟨_, this, fun m => .int _ _⟩
    obtain ⟨a, ca, ops, rfl, g1, g2⟩ := r1
    obtain ⟨b, cb, out, rfl, g3⟩ := r2
    exact ⟨N, a, b, ca, cb, ops, out, rfl, g1, g3, g2⟩
end

end Go.Proofs.Ytpmdpbljgidllaa
