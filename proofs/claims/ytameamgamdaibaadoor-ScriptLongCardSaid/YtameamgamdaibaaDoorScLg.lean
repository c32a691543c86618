/- ScriptLong: what Parse tells of a text without lines; the law's loop, a round; and the run about it. -/
import Derived.Test.YtameamgamdaibaaDoorScK
import Derived.Test.YtameamgamdaibaaDoorGenT
import Derived.Test.YtameamgamdaibaaDoorApp
namespace Go.Proofs.YtameamgamdaibaaDoor
open Go
set_option linter.unusedVariables false
set_option linter.unusedSimpArgs false
set_option maxRecDepth 100000

/-! ### Parse of a text that is too long; of one that has no line -/
noncomputable def askPl (g : FuncId) : Nat := if [12, 13].contains g then 1 else if [15, 25].contains g then 2 else 0
def cmPl : BinOp → Value → Value → Bool
  | .gtr, .int _ _, .int _ (.ofNat 20000) => true
  | _, _, _ => false
/-- No problem; a line; the error. -/
def badP (k : Int) : Value := .tuple #[.agg #[.int .i64 0, .slice none 0 0, .slice none 0 0, .slice none 0 0, .slice none 0 0, .int .i64 0, .int .i64 0, .int .i64 0, .float .f64 0, .float .f64 0, .float .f64 0, .int .i64 0, .slice none 0 0], .int .i64 k, .int .i64 1]
def probC : Array Value := #[.int .i64 0, .slice none 0 0, .slice none 0 0, .slice none 0 0, .slice none 0 0, .int .i64 0, .int .i64 0, .int .i64 0, .float .f64 0, .float .f64 0, .float .f64 0, .int .i64 0, .slice none 0 0]
def probB (o : Bool) : Option ABlk := some ⟨probC, 33, 0, o⟩
def lf : UInt8 := 10
theorem longRun (l : List UInt8) : (askT askPl cmPl 8 #[stL l] #[] [yes true] []).map (fun r => (r.1, r.2.2)) =
    some (badP 0, [.cmp .gtr 3 (.int .i64 (l.toArray.size : Nat)) (.int .i64 20000) true], []) := by kernel_rfl
theorem noneRun (l : List UInt8) : (askT askPl cmPl 8 #[stL l] #[] [yes false, ⟨fun n => .slice (some ⟨n, 0, none⟩) 1 1, [some ⟨#[stL l], 9, 1, true⟩]⟩, yes false] [none]).map (fun r => (r.1, r.2.2)) =
    some (badP 1, [.cmp .gtr 3 (.int .i64 (l.toArray.size : Nat)) (.int .i64 20000) false,
      .run 12 #[stL l, s1 lf] #[probB false] (.slice (some ⟨1, 0, none⟩) 1 1) #[probB false, some ⟨#[stL l], 9, 1, true⟩],
      .run 13 #[stL l, s1 lf] #[] (.bool false) #[]], []) := by kernel_rfl
theorem cmp_gtrS (x y : Int) : cmpV Tryd.prog .gtr 3 (.int .i64 x) (.int .i64 y) = some (decide (x > y)) := by kernel_rfl
/-- A walk of SplitAfter: the library's own inner function. -/
theorem splitA_runs (l : List UInt8) (c : UInt8) (hs : l.length < 4294967281) :
    Runs Tryd.prog 12 #[stL l, s1 c] #[probB false] (.slice (some ⟨1, 0, none⟩) (splitC 1 c.toNat l).length (splitC 1 c.toNat l).length) #[probB false, some ⟨(piecesV 1 c.toNat l).toArray, 9, 1, true⟩] := by
  have h := gens1 ⟨l.toArray⟩ c hs #[probB false]
  rw [bs_st] at h
  generalize (splitC 1 c.toNat l).length = n at h ⊢
  generalize (piecesV 1 c.toNat l).toArray = cs at h ⊢
  exact askN_runs (ask := fun g => if g == 22 then 1 else 0) (askC := noC) (d := 1) (s := [⟨fun k => .slice (some ⟨k, 0, none⟩) n n, [some ⟨cs, 9, 1, true⟩]⟩])
      (l := [.run 22 #[stL l, s1 c, .int .i64 1, .int .i64 (-1)] #[probB false] (.slice (some ⟨1, 0, none⟩) n n) #[probB false, some ⟨cs, 9, 1, true⟩]]) (by kernel_rfl) ⟨h, trivial⟩

theorem parse_long (l : List UInt8) (h : 20000 < l.length) (H : AHeap) : Runs Tryd.prog 8 #[stL l] H (badP 0) H := by
  have hr := longRun l
  simp only [Option.map_eq_some_iff] at hr
  obtain ⟨⟨v, H', l1, lo⟩, h1, h2⟩ := hr
  simp only [Prod.mk.injEq] at h2
  obtain ⟨rfl, rfl, rfl⟩ := h2
  refine (askT_runs h1 ⟨(cmp_gtrS _ _).trans ?_, trivial⟩ (fun x hx => by cases hx)).quiet (by rfl) (by rfl) H
  simp only [List.size_toArray, Option.some.injEq, decide_eq_true_eq]
  omega
theorem splitC_none (sv c : Nat) : ∀ l : List UInt8, (∀ x ∈ l, x.toNat ≠ c) → splitC sv c l = [l]
  | [], _ => rfl
  | x :: l, h => by
    have hb : Nat.beq x.toNat c = false := by rw [Bool.eq_false_iff]; intro e; exact h x (by simp) (Nat.eq_of_beq_eq_true e)
    rw [splitC, hb, splitC_none sv c l fun y hy => h y (by simp [hy])]
theorem endsC_none (c : Nat) : ∀ l : List UInt8, (∀ x ∈ l, x.toNat ≠ c) → endsC c l = false
  | [], _ => rfl
  | [x], h => by
    rw [endsC, Bool.eq_false_iff]; intro e; exact h x (by simp) (Nat.eq_of_beq_eq_true e)
  | x :: y :: l, h => by rw [endsC]; exact endsC_none c (y :: l) fun z hz => h z (List.mem_cons_of_mem _ hz)
theorem parse_none (l : List UInt8) (h : l.length ≤ 20000) (hn : ∀ x ∈ l, x.toNat ≠ 10) (H : AHeap) : Runs Tryd.prog 8 #[stL l] H (badP 1) H := by
  have hr := noneRun l
  simp only [Option.map_eq_some_iff] at hr
  obtain ⟨⟨v, H', l1, lo⟩, h1, h2⟩ := hr
  simp only [Prod.mk.injEq] at h2
  obtain ⟨rfl, rfl, rfl⟩ := h2
  refine (askT_runs h1 ⟨(cmp_gtrS _ _).trans ?_, ?_, ?_, trivial⟩ (fun x hx => by cases hx)).quiet (by rfl) (by rfl) H
  · simp only [List.size_toArray, Option.some.injEq, decide_eq_false_iff_not]
    omega
  · have := splitA_runs l lf (by omega)
    have e : splitC 1 lf.toNat l = [l] := splitC_none 1 10 l hn
    unfold piecesV at this
    rw [e] at this
    exact this
  · have := ends1 ⟨l.toArray⟩ lf (show l.length < _ by omega) #[]
    have e : endsC lf.toNat (bsL ⟨l.toArray⟩) = false := endsC_none 10 l hn
    rw [e] at this
    exact this

/-! ### the law -/
noncomputable def askLg (g : FuncId) : Nat := if [6, 7, 8].contains g then 1 else
  if [1000013, 1000015, 1000023, 1000020, 1000026].contains g then 7 else 0
def cmLg : BinOp → Value → Value → Bool
  | .lss, .int _ _, .int _ _ => true
  | .gtr, .int _ _, .int _ (.ofNat 20000) => true
  | _, _, _ => false
noncomputable def bodyLg : Code := bodyG Tryd.prog 5 0
def slV (M : Nat) : Value := .slice (some ⟨0, 0, none⟩) M M
def LLg (M : Nat) (i : Int) : List (Nat × Value) := [(3, .int .i64 M), (4, slV M), (5, .int .i64 i)]
theorem rdLg (M : Nat) (i i2 : Int) (B B2 : Option ABlk) (p : Addr) :
  (rndT askLg cmLg bodyLg (tmA 45 (LLg M i)) #[B] [yes true, vAns (.pointer (some p)), mAnsT undef [B2], isI i2] []).map (fun r => (r.1, slG [3, 4, 5] [0] r.2.1 r.2.2.1, r.2.2.2)) =
    some (.normal, (45, [.int .i64 M, slV M, .int .i64 i2], [some B2]),
      [.cmp .lss 3 (.int .i64 i) (.int .i64 M) true, .ex (indexAddrV Tryd.prog 44 (slV M) (.int .i64 i) = some (.pointer (some p))), .ex (writeVar Tryd.prog #[B] 5 p (.int .u8 120) = some #[B2]), .ex (pureV Tryd.prog (binOp .add 3 (.int .i64 i) (.int .i64 1)) = some (.int .i64 i2))], []) := by kernel_rfl
theorem rdLgEnd (M : Nat) (i : Int) (B : Option ABlk) :
  (rndT askLg cmLg bodyLg (tmA 45 (LLg M i)) #[B] [yes false] []).map (fun r => (r.1, slG [3, 4, 5] [0] r.2.1 r.2.2.1, r.2.2.2)) =
    some (.exit 0, (45, [.int .i64 M, slV M, .int .i64 i], [some B]), [.cmp .lss 3 (.int .i64 i) (.int .i64 M) false], []) := by kernel_rfl
theorem okLg : codeOk q1 bodyLg = true := by kernel_rfl
def RunLg (c : Bool) : Prop := ∀ (a j : Int) (M : Nat) (B0 B : Option ABlk) (s : ByteArray) (i : Int),
  (askT askLg cmLg 5 #[.int .i64 a] #[] [yes true, isI j, isI M, mAnsT (slV M) [B0], vAns (.string s), ⟨fun _ => badP (if c then 0 else 1), []⟩, yes c] [some ⟨.exit 0, tmA 45 (LLg M i), #[B]⟩]).map (fun r => (r.1, r.2.2.1, slL [([3, 4, 5], [0])] r.2.2.2)) =
  some (.bool true, [.run 6 #[] #[] (.bool true) #[], .run 7 #[.int .i64 a, .int .i64 (Int.ofNat 20)] #[] (.int .i64 j) #[],
      .ex (pureV Tryd.prog (binOp .add 3 (.int .i64 19990) (.int .i64 j)) = some (.int .i64 M)), .ex (makeSliceV Tryd.prog #[] 44 (.int .i64 M) (.int .i64 M) = some (slV M, #[B0])),
      .ex (strV Tryd.prog #[B] 44 9 (slV M) = some (.string s)), .run 8 #[.string s] (froze #[B]) (badP (if c then 0 else 1)) (froze #[B]), .cmp .gtr 3 (.int .i64 M) (.int .i64 20000) c],
    [(bodyLg, (45, [.int .i64 M, slV M, .int .i64 0], [some B0]), (.exit 0, tmA 45 (LLg M i), #[B]))])
theorem runLg_t : RunLg true := fun _ _ _ _ _ _ _ => by kernel_rfl
theorem runLg_f : RunLg false := fun _ _ _ _ _ _ _ => by kernel_rfl

end Go.Proofs.YtameamgamdaibaaDoor
