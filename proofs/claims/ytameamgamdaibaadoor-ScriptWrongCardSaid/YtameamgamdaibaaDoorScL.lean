/- The contracts of Go's library, as contracts of this interpreter. -/
import Derived.Test.YtameamgamdaibaaDoorModes
import Derived.Test.YtameamgamdaibaaDoorShelf
namespace Go.Proofs.YtameamgamdaibaaDoor
open Go
set_option linter.unusedVariables false
set_option maxRecDepth 100000

theorem exact_args {m : Mp} {args args' : Array Value} (hx : args.toList.all (exactN 2) = true) (h : VRs m args args') : args' = args := by
  refine (array_eq_of h.1 fun i h1 h2 => ?_).symm
  exact (h.2 i h1 h2).exact 2 _ _ ((List.all_eq_true.1 hx) _ (by simp))

/-- A contract of the library's that leaves memory as it was. -/
theorem runs_lib {f : FuncId} (hent : ∀ args w, (callFunc f args).run Tryd.prog w = .ok (.enter f args) w) {args : Array Value} (hx : args.toList.all (exactN 2) = true) {v : Value}
    (h : ∀ w, Lay w → Calls Tryd.prog f args w fun e w' => ∃ v', e = .returned v' ∧ (∀ m, VR m v v') ∧ RowKit.Below w.heap.size w w') (H : AHeap) : Runs Tryd.prog f args H v H := by
  intro m w args' hr ha
  obtain rfl := exact_args hx ha
  refine ⟨hent _, (h w hr.lay).mono ?_⟩
  rintro e w' ⟨v', rfl, hv, hb⟩
  exact ⟨v', m, rfl, hv m, hr.same hb.size (fun g hg => hb.block g hg), ⟨.refl m, hb.os, hb.tape, hb.output, hb.size, fun g hg _ => hb.block g hg, fun g hg => .inl hg⟩⟩

/-- One that makes a block and returns it. -/
theorem runs_new {f : FuncId} (hent : ∀ args w, (callFunc f args).run Tryd.prog w = .ok (.enter f args) w) {args : Array Value} (hx : args.toList.all (exactN 2) = true) {n : Nat} {cs : Array Value} {t : TypeId} (hn : cs.size = n)
    (hc : cs.toList.all (closN 4) = true)
    (h : ∀ w, Lay w → Calls Tryd.prog f args w fun e w' => e = .returned (.slice (some ⟨w.heap.size, 0, none⟩) n n) ∧ w' = w.alloc (.cells cs t)) (H : AHeap) :
    Runs Tryd.prog f args H (.slice (some ⟨H.size, 0, none⟩) n n) (H.push (some ⟨cs, t, 1, true⟩)) := by
  intro m w args' hr ha
  obtain rfl := exact_args hx ha
  refine ⟨hent _, (h w hr.lay).mono ?_⟩
  rintro e w' ⟨rfl, rfl⟩
  obtain ⟨g1, g2⟩ := hr.alloc cs cs t 1 (Nat.le_refl _) (fun i v hi => ⟨v, hi, .of_clos m 4 v ((List.all_eq_true.1 hc) _ (by
    have := lt_of_get hi
    rw [Array.getElem?_eq_getElem this] at hi
    injection hi with hi
    subst hi
    simp))⟩)
  refine ⟨_, _, rfl, ?_, g1, g2⟩
  refine .slice (by unfold tr; rw [← hr.size, push_new]; simp) (Nat.le_refl n) fun l hl ho hz => ?_
  rw [show (⟨H.size, 0, none⟩ : Addr).block = m.size from hr.size.symm, push_new] at hl
  injection hl with hl
  subst hl
  simp [hn]

theorem below_drewN (w : World) (n : Nat) : RowKit.Below w.heap.size w (w.drewN n) := ⟨rfl, rfl, rfl, Nat.le_refl _, fun _ _ => rfl⟩
theorem below_grow (w : World) (k : Nat) (os : Array Obj) : RowKit.Below w.heap.size w (Sort.grow (w.drewN k) os) :=
  ⟨rfl, rfl, rfl, by simp [Sort.grow, World.drewN], fun g hg => by simp [Sort.grow, World.drewN, Array.getElem?_append, hg]⟩

def bsL (s : ByteArray) : List UInt8 := s.data.toList
def stL (l : List UInt8) : Value := .string ⟨l.toArray⟩

theorem cut_runs (s p : ByteArray) (hs : s.size < 4294967281) (H : AHeap) :
    Runs Tryd.prog 28 #[.string s, .string p] H (.tuple #[stL (Lib.cut (bsL s) (bsL p)).1, stL (Lib.cut (bsL s) (bsL p)).2.1, .bool (Lib.cut (bsL s) (bsL p)).2.2]) H :=
  runs_lib (by intro args w; exact run_callFunc Tryd.func28 rfl (by decide) args w) (by rfl) (fun w hl => by
    obtain ⟨mx, hm⟩ := hl.most
    refine (Tryd.strings_Cut s p mx w hs hm).mono ?_
    rintro e w' ⟨rfl, n, rfl⟩
    exact ⟨_, rfl, fun m => .of_clos m 4 _ (by rfl), below_drewN w n⟩) H
theorem cutp_runs (s p : ByteArray) (H : AHeap) : Runs Tryd.prog 69 #[.string s, .string p] H (.tuple #[stL (Lib.trimPrefix (bsL s) (bsL p)), .bool (Lib.hasPrefix (bsL s) (bsL p))]) H :=
  runs_lib (by intro args w; exact run_callFunc Tryd.func69 rfl (by decide) args w) (by rfl) (fun w hl => by
    refine (Tryd.strings_CutPrefix s p w).mono ?_
    rintro e w' ⟨rfl, rfl⟩
    exact ⟨_, rfl, fun m => .of_clos m 4 _ (by rfl), .refl _ _⟩) H
theorem suf_runs (s p : ByteArray) (hs : s.size ≤ 9223372036854775807) (H : AHeap) : Runs Tryd.prog 13 #[.string s, .string p] H (.bool (Lib.hasSuffix (bsL s) (bsL p))) H :=
  runs_lib (by intro args w; exact run_callFunc Tryd.func13 rfl (by decide) args w) (by rfl) (fun w hl => by
    refine (Tryd.strings_HasSuffix s p w hs).mono ?_
    rintro e w' ⟨rfl, rfl⟩
    exact ⟨_, rfl, fun m => .bool _, .refl _ _⟩) H
theorem trims_runs (s p : ByteArray) (hs : s.size ≤ 9223372036854775807) (H : AHeap) : Runs Tryd.prog 14 #[.string s, .string p] H (stL (Lib.trimSuffix (bsL s) (bsL p))) H :=
  runs_lib (by intro args w; exact run_callFunc Tryd.func14 rfl (by decide) args w) (by rfl) (fun w hl => by
    refine (Tryd.strings_TrimSuffix s p w hs).mono ?_
    rintro e w' ⟨rfl, rfl⟩
    exact ⟨_, rfl, fun m => .string _, .refl _ _⟩) H
theorem itoa_runs (n : Int) (h0 : -9223372036854775808 ≤ n) (h1 : n ≤ 9223372036854775807) (H : AHeap) : Runs Tryd.prog 51 #[.int .i64 n] H (stL (Lib.itoa n)) H :=
  runs_lib (by intro args w; exact run_callFunc Tryd.func51 rfl (by decide) args w) (by rfl) (fun w hl => by
    refine (Tryd.strconv_Itoa n h0 h1 w hl.tab).mono ?_
    rintro e w' ⟨rfl, k, os, rfl⟩
    exact ⟨_, rfl, fun m => .string _, below_grow w k os⟩) H

/-- What Atoi answers: a number, or an error (of which no more is told). -/
def atoiV (s : ByteArray) : Value := match Lib.atoiAll (bsL s) with
  | .ok v => .tuple #[.int .i64 v, .nilIface]
  | .range => .tuple #[.int .i64 (Lib.atoiSat (bsL s)), .iface 114 anyV]
  | _ => .tuple #[.int .i64 0, .iface 114 anyV]
theorem atoi_runs (s : ByteArray) (hs : s.size ≤ 281474976710656) (H : AHeap) : Runs Tryd.prog 50 #[.string s] H (atoiV s) H :=
  runs_lib (by intro args w; exact run_callFunc Tryd.func50 rfl (by decide) args w) (by rfl) (fun w hl => by
    unfold atoiV
    cases h : Lib.atoiAll (bsL s) with
    | ok v =>
      refine (Tryd.strconv_Atoi_ok s (by omega) v h w).mono ?_
      rintro e w' ⟨rfl, hw⟩
      refine ⟨_, rfl, fun m => .of_clos m 4 _ (by rfl), ?_⟩
      rcases hw with rfl | ⟨t, rfl⟩
      · exact .refl _ _
      · exact Lib.bytesWorld_below _ _ _
    | range =>
      obtain ⟨tp, p, hv⟩ := hl.ran
      refine (Tryd.strconv_Atoi_range_var s hs h tp p w hv).mono ?_
      rintro e w' ⟨N, rfl, _, _, hb⟩
      exact ⟨_, rfl, fun m => .tuple' (VRl.arr (.cons (.int _ _) (.cons (.iface _ (.any _)) .nil))), hb⟩
    | _ =>
      obtain ⟨tp, p, hv⟩ := hl.syn
      refine (Any.strconv_Atoi_syntax_var Tryd.laysC172 s hs h tp p w hv).mono ?_
      rintro e w' ⟨N, rfl, _, _, hb⟩
      exact ⟨_, rfl, fun m => .tuple' (VRl.arr (.cons (.int _ _) (.cons (.iface _ (.any _)) .nil))), hb⟩) H

/-- The pieces of a text. -/
def piecesA (s p : ByteArray) : Array Value := ((Lib.splitB p 0 (Lib.countB s p) s).map Value.string).toArray
theorem split_runs (s p : ByteArray) (hs : s.size < 4294967281) (h1 : 1 ≤ p.size) (H : AHeap) :
    Runs Tryd.prog 49 #[.string s, .string p] H (.slice (some ⟨H.size, 0, none⟩) (Lib.countB s p + 1) (Lib.countB s p + 1)) (H.push (some ⟨piecesA s p, 9, 1, true⟩)) :=
  runs_new (by intro args w; exact run_callFunc Tryd.func49 rfl (by decide) args w) (by rfl) (by
    unfold piecesA
    simp [Lib.splitB_all p h1 0 _ s rfl]) (by simp [piecesA, closN]) (fun w hl => by
    obtain ⟨mx, hm⟩ := hl.most
    exact Tryd.strings_Split s p mx w hs hm h1) H

end Go.Proofs.YtameamgamdaibaaDoor
