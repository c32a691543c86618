/- The laws' own Make of fields: the run about its rounds. -/
import Derived.Test.YtpmdpbljgidllaaTpM
namespace Go.Proofs.Ytpmdpbljgidllaa
open Go
set_option linter.unusedVariables false
set_option linter.unusedSimpArgs false
set_option maxRecDepth 100000

/-- The operations that each field begins with. -/
def Omk (N fc : Nat) (O : Nat → OpD) (i : Nat) : OpD := if i < N then ⟨1, Int.ofNat i, 0, 0⟩ else if i = N then ⟨0, 0, 0, fop .quo .f64 fc 4616189618054758400⟩ else O i
def g0K (N fc : Nat) (O : Nat → OpD) (i : Nat) : Option ABlk := if i % 2 = 0 then some ⟨(opC (Omk N fc O (i / 2))).toArray, 32, 4, true⟩ else none
def grK (N : Nat) (f : Nat → Int) : List (Option ABlk) := (List.range N).flatMap fun i => [some ⟨#[.int .i64 (f i)], 3, 1, true⟩, if i + 1 = N then some ⟨((List.range N).flatMap fun i => iC (f i)).toArray, 3, 1, true⟩ else none]
def sMk (N : Nat) (w17 c0 q3 : Int) (fc : Nat) (s u ot : Nat → Int) (mid : List Ans) : List Ans :=
  [isI (Int.ofNat (N - 1))] ++ (List.range N).map (fun _ => yes true) ++ [yes false, isI w17, isI c0, vAns (.float .f64 fc)] ++ mid ++ (List.range N).flatMap (fun i => [yes true, isI q3, isI (s i), isI (u i), isI (ot i)]) ++ [yes false]
noncomputable def lMk (n : Int) (N c : Nat) (w17 c0 q3 : Int) (fc : Nat) (s u ot : Nat → Int) (mid : List Obl) : List Obl :=
  [wiOt n 3 (Int.ofNat (N - 1))] ++ (List.range N).map (fun i => cpO .lss (Int.ofNat i) (Int.ofNat N) true) ++ [cpO .lss (Int.ofNat N) (Int.ofNat N) false, wiOt n 17 w17, arO .sub w17 8 c0, cvO c0 fc] ++ mid ++
  (List.range N).flatMap (fun i => [cpO .lss (Int.ofNat i) (Int.ofNat N) true, arO .quo n 3 q3, arO .add q3 (Int.ofNat i) (s i), wiOt (s i) (min 3 c) (u i), arO .sub (Int.ofNat (c - 1)) (u i) (ot i)]) ++ [cpO .lss (Int.ofNat N) (Int.ofNat N) false]
noncomputable def tmkRun (bz : Option ABlk) (n : Int) (len : Nat) (dv : Bool) (N L : Nat) (fc : Nat) (w17 c0 q3 : Int) (s u ot : Nat → Int) (O : Nat → OpD) (g : Nat → Option ABlk) (j : Nat → Value) : Option (Value × AHeap × List Obl × List LpO) :=
  askT askK cmK 14 #[.int .i64 n, .slice (some ⟨0, 0, none⟩) len len, .bool dv] #[bz] (sMk N w17 c0 q3 fc s u ot [])
    [none, some ⟨.exit 2, tmK n (.slice (some ⟨0, 0, none⟩) len len) dv L j, (hpK bz N L (Omk N fc O) g).toArray⟩, none]
def lpTm (r : Option (Value × AHeap × List Obl × List LpO)) : List Value := match r with
  | some (_, _, _, [z]) => z.2.1
  | _ => []
noncomputable def preK (bz : Option ABlk) (n : Int) (len : Nat) (dv : Bool) (N L : Nat) (fc : Nat) (w17 c0 q3 : Int) (s u ot : Nat → Int) (O : Nat → OpD) : List Value := lpTm (tmkRun bz n len dv N L fc w17 c0 q3 s u ot O (fun _ => none) (fun _ => undef))
def MkPre (N L : Nat) : Prop := ∀ (bz : Option ABlk) (n : Int) (len : Nat) (dv : Bool) (fc : Nat) (w17 c0 q3 : Int) (s u ot : Nat → Int) (O : Nat → OpD),
  (fun tm => (tm.length, [getT tm 0, getT tm 1, getT tm 2, getT tm 6, getT tm 7, getT tm 9])) (preK bz n len dv N L fc w17 c0 q3 s u ot O) = (120, [.int .i64 n, .slice (some ⟨0, 0, none⟩) len len, .bool dv, .pointer (some ⟨1, 0, none⟩), .pointer (some ⟨2, 0, none⟩), .int .i64 (Int.ofNat 0)])
def MkFin (N L : Nat) : Prop := ∀ (bz : Option ABlk) (n : Int) (len : Nat) (dv : Bool) (fc : Nat) (w17 c0 q3 : Int) (s u ot : Nat → Int) (O : Nat → OpD) (g : Nat → Option ABlk) (j : Nat → Value),
  tmkRun bz n len dv N L fc w17 c0 q3 s u ot O g j =
    some (.agg #[.int .i64 N, .slice (some ⟨3 + jcK N L, 0, none⟩) (N + 1 + L) (N + 1 + L), .slice (some ⟨3 + jcK N L + 2 * N, 0, none⟩) N N],
      ([bz, tpB N (3 + jcK N L) (N + 1 + L) (.slice (some ⟨3 + jcK N L + 2 * N, 0, none⟩) N N), tpB N (3 + jcK N L) (N + 1 + L) (.slice (some ⟨3 + jcK N L + 2 * N, 0, none⟩) N N)] ++ (List.range (jcK N L)).map g ++ [opsK (N + 1 + L) (Omk N fc O)] ++ grK N ot).toArray,
      lMk n N (N + 1 + L) w17 c0 q3 fc s u ot [],
      [(bodyK, preK bz n len dv N L fc w17 c0 q3 s u ot O, (hpK bz N 0 (Omk N fc O) (g0K N fc O)).toArray, (.exit 2, tmK n (.slice (some ⟨0, 0, none⟩) len len) dv L j, (hpK bz N L (Omk N fc O) g).toArray))])
def MkNil (N : Nat) : Prop := ∀ (n : Int) (dv : Bool) (fc : Nat) (w17 c0 q3 : Int) (s u ot : Nat → Int) (O : Nat → OpD),
  askN askK cmK 12 14 #[.int .i64 n, .slice none 0 1, .bool dv] #[] (sMk N w17 c0 q3 fc s u ot [yes false]) =
    some (.agg #[.int .i64 N, .slice (some ⟨2 + jcK N 0, 0, none⟩) (N + 1) (N + 1), .slice (some ⟨2 + jcK N 0 + 2 * N, 0, none⟩) N N],
      ([tpB N (2 + jcK N 0) (N + 1) (.slice (some ⟨2 + jcK N 0 + 2 * N, 0, none⟩) N N), tpB N (2 + jcK N 0) (N + 1) (.slice (some ⟨2 + jcK N 0 + 2 * N, 0, none⟩) N N)] ++ (List.range (jcK N 0)).map (g0K N fc O) ++ [opsK (N + 1) (Omk N fc O)] ++ grK N ot).toArray,
      lMk n N (N + 1) w17 c0 q3 fc s u ot [cpO .lss (Int.ofNat 0) (Int.ofNat 0) false])
def RdKEnd (N L : Nat) (s : List Ans) (l : Nat → List Obl) : Prop := ∀ (bz : Option ABlk) (n : Int) (len : Nat) (dv : Bool) (O : Nat → OpD) (g : Nat → Option ABlk) (j : Nat → Value),
  (rndT askK cmK bodyK (tmK n (.slice (some ⟨0, 0, none⟩) len len) dv L j) (hpK bz N L O g).toArray s []).map (fun r => (r.1, ((r.2.1.length, [getT r.2.1 0, getT r.2.1 1, getT r.2.1 2, getT r.2.1 6, getT r.2.1 7, getT r.2.1 9]), r.2.2.1), r.2.2.2)) =
  some (.exit 2, ((120, [.int .i64 n, .slice (some ⟨0, 0, none⟩) len len, .bool dv, .pointer (some ⟨1, 0, none⟩), .pointer (some ⟨2, 0, none⟩), .int .i64 (Int.ofNat L)]), (hpK bz N L O g).toArray), l len, [])
theorem mkNil_1 : MkNil 1 := fun _ _ _ _ _ _ _ _ _ _ => by kernel_rfl
theorem mkPre_1_0 : MkPre 1 0 := fun _ _ _ _ _ _ _ _ _ _ _ _ => by kernel_rfl
theorem mkFin_1_0 : MkFin 1 0 := fun _ _ _ _ _ _ _ _ _ _ _ _ _ _ => by kernel_rfl
theorem rdKEnd_1_0 : RdKEnd 1 0 [yes false] (fun len => [cpO .lss (Int.ofNat 0) len false]) := fun _ _ _ _ _ _ _ => by kernel_rfl
theorem mkPre_1_1 : MkPre 1 1 := fun _ _ _ _ _ _ _ _ _ _ _ _ => by kernel_rfl
theorem mkFin_1_1 : MkFin 1 1 := fun _ _ _ _ _ _ _ _ _ _ _ _ _ _ => by kernel_rfl
theorem rdKEnd_1_1 : RdKEnd 1 1 [yes false] (fun len => [cpO .lss (Int.ofNat 1) len false]) := fun _ _ _ _ _ _ _ => by kernel_rfl
theorem mkPre_1_2 : MkPre 1 2 := fun _ _ _ _ _ _ _ _ _ _ _ _ => by kernel_rfl
theorem mkFin_1_2 : MkFin 1 2 := fun _ _ _ _ _ _ _ _ _ _ _ _ _ _ => by kernel_rfl
theorem rdKEnd_1_2 : RdKEnd 1 2 [yes false] (fun len => [cpO .lss (Int.ofNat 2) len false]) := fun _ _ _ _ _ _ _ => by kernel_rfl
theorem mkPre_1_3 : MkPre 1 3 := fun _ _ _ _ _ _ _ _ _ _ _ _ => by kernel_rfl
theorem mkFin_1_3 : MkFin 1 3 := fun _ _ _ _ _ _ _ _ _ _ _ _ _ _ => by kernel_rfl
theorem rdKEnd_1_3 : RdKEnd 1 3 [yes false] (fun len => [cpO .lss (Int.ofNat 3) len false]) := fun _ _ _ _ _ _ _ => by kernel_rfl
theorem mkPre_1_4 : MkPre 1 4 := fun _ _ _ _ _ _ _ _ _ _ _ _ => by kernel_rfl
theorem mkFin_1_4 : MkFin 1 4 := fun _ _ _ _ _ _ _ _ _ _ _ _ _ _ => by kernel_rfl
theorem rdKEnd_1_4 : RdKEnd 1 4 [yes false] (fun len => [cpO .lss (Int.ofNat 4) len false]) := fun _ _ _ _ _ _ _ => by kernel_rfl
theorem mkPre_1_5 : MkPre 1 5 := fun _ _ _ _ _ _ _ _ _ _ _ _ => by kernel_rfl
theorem mkFin_1_5 : MkFin 1 5 := fun _ _ _ _ _ _ _ _ _ _ _ _ _ _ => by kernel_rfl
theorem rdKEnd_1_5 : RdKEnd 1 5 [yes false] (fun len => [cpO .lss (Int.ofNat 5) len false]) := fun _ _ _ _ _ _ _ => by kernel_rfl
theorem mkPre_1_6 : MkPre 1 6 := fun _ _ _ _ _ _ _ _ _ _ _ _ => by kernel_rfl
theorem mkFin_1_6 : MkFin 1 6 := fun _ _ _ _ _ _ _ _ _ _ _ _ _ _ => by kernel_rfl
theorem rdKEnd_1_6 : RdKEnd 1 6 [yes false] (fun len => [cpO .lss (Int.ofNat 6) len false]) := fun _ _ _ _ _ _ _ => by kernel_rfl
theorem mkPre_1_7 : MkPre 1 7 := fun _ _ _ _ _ _ _ _ _ _ _ _ => by kernel_rfl
theorem mkFin_1_7 : MkFin 1 7 := fun _ _ _ _ _ _ _ _ _ _ _ _ _ _ => by kernel_rfl
theorem rdKEnd_1_7 : RdKEnd 1 7 [yes false] (fun len => [cpO .lss (Int.ofNat 7) len false]) := fun _ _ _ _ _ _ _ => by kernel_rfl
theorem mkPre_1_8 : MkPre 1 8 := fun _ _ _ _ _ _ _ _ _ _ _ _ => by kernel_rfl
theorem mkFin_1_8 : MkFin 1 8 := fun _ _ _ _ _ _ _ _ _ _ _ _ _ _ => by kernel_rfl
theorem rdKEnd_1_8 : RdKEnd 1 8 [yes false] (fun len => [cpO .lss (Int.ofNat 8) len false]) := fun _ _ _ _ _ _ _ => by kernel_rfl
theorem rdKOver_1 : RdKEnd 1 8 [yes true, yes false] (fun len => [cpO .lss 8 len true, cpO .lss 8 8 false]) := fun _ _ _ _ _ _ _ => by kernel_rfl
theorem mkNil_2 : MkNil 2 := fun _ _ _ _ _ _ _ _ _ _ => by kernel_rfl
theorem mkPre_2_0 : MkPre 2 0 := fun _ _ _ _ _ _ _ _ _ _ _ _ => by kernel_rfl
theorem mkFin_2_0 : MkFin 2 0 := fun _ _ _ _ _ _ _ _ _ _ _ _ _ _ => by kernel_rfl
theorem rdKEnd_2_0 : RdKEnd 2 0 [yes false] (fun len => [cpO .lss (Int.ofNat 0) len false]) := fun _ _ _ _ _ _ _ => by kernel_rfl
theorem mkPre_2_1 : MkPre 2 1 := fun _ _ _ _ _ _ _ _ _ _ _ _ => by kernel_rfl
theorem mkFin_2_1 : MkFin 2 1 := fun _ _ _ _ _ _ _ _ _ _ _ _ _ _ => by kernel_rfl
theorem rdKEnd_2_1 : RdKEnd 2 1 [yes false] (fun len => [cpO .lss (Int.ofNat 1) len false]) := fun _ _ _ _ _ _ _ => by kernel_rfl
theorem mkPre_2_2 : MkPre 2 2 := fun _ _ _ _ _ _ _ _ _ _ _ _ => by kernel_rfl
theorem mkFin_2_2 : MkFin 2 2 := fun _ _ _ _ _ _ _ _ _ _ _ _ _ _ => by kernel_rfl
theorem rdKEnd_2_2 : RdKEnd 2 2 [yes false] (fun len => [cpO .lss (Int.ofNat 2) len false]) := fun _ _ _ _ _ _ _ => by kernel_rfl
theorem mkPre_2_3 : MkPre 2 3 := fun _ _ _ _ _ _ _ _ _ _ _ _ => by kernel_rfl
theorem mkFin_2_3 : MkFin 2 3 := fun _ _ _ _ _ _ _ _ _ _ _ _ _ _ => by kernel_rfl
theorem rdKEnd_2_3 : RdKEnd 2 3 [yes false] (fun len => [cpO .lss (Int.ofNat 3) len false]) := fun _ _ _ _ _ _ _ => by kernel_rfl
theorem mkPre_2_4 : MkPre 2 4 := fun _ _ _ _ _ _ _ _ _ _ _ _ => by kernel_rfl
theorem mkFin_2_4 : MkFin 2 4 := fun _ _ _ _ _ _ _ _ _ _ _ _ _ _ => by kernel_rfl
theorem rdKEnd_2_4 : RdKEnd 2 4 [yes false] (fun len => [cpO .lss (Int.ofNat 4) len false]) := fun _ _ _ _ _ _ _ => by kernel_rfl
theorem mkPre_2_5 : MkPre 2 5 := fun _ _ _ _ _ _ _ _ _ _ _ _ => by kernel_rfl
theorem mkFin_2_5 : MkFin 2 5 := fun _ _ _ _ _ _ _ _ _ _ _ _ _ _ => by kernel_rfl
theorem rdKEnd_2_5 : RdKEnd 2 5 [yes false] (fun len => [cpO .lss (Int.ofNat 5) len false]) := fun _ _ _ _ _ _ _ => by kernel_rfl
theorem mkPre_2_6 : MkPre 2 6 := fun _ _ _ _ _ _ _ _ _ _ _ _ => by kernel_rfl
theorem mkFin_2_6 : MkFin 2 6 := fun _ _ _ _ _ _ _ _ _ _ _ _ _ _ => by kernel_rfl
theorem rdKEnd_2_6 : RdKEnd 2 6 [yes false] (fun len => [cpO .lss (Int.ofNat 6) len false]) := fun _ _ _ _ _ _ _ => by kernel_rfl
theorem mkPre_2_7 : MkPre 2 7 := fun _ _ _ _ _ _ _ _ _ _ _ _ => by kernel_rfl
theorem mkFin_2_7 : MkFin 2 7 := fun _ _ _ _ _ _ _ _ _ _ _ _ _ _ => by kernel_rfl
theorem rdKEnd_2_7 : RdKEnd 2 7 [yes false] (fun len => [cpO .lss (Int.ofNat 7) len false]) := fun _ _ _ _ _ _ _ => by kernel_rfl
theorem mkPre_2_8 : MkPre 2 8 := fun _ _ _ _ _ _ _ _ _ _ _ _ => by kernel_rfl
theorem mkFin_2_8 : MkFin 2 8 := fun _ _ _ _ _ _ _ _ _ _ _ _ _ _ => by kernel_rfl
theorem rdKEnd_2_8 : RdKEnd 2 8 [yes false] (fun len => [cpO .lss (Int.ofNat 8) len false]) := fun _ _ _ _ _ _ _ => by kernel_rfl
theorem rdKOver_2 : RdKEnd 2 8 [yes true, yes false] (fun len => [cpO .lss 8 len true, cpO .lss 8 8 false]) := fun _ _ _ _ _ _ _ => by kernel_rfl
theorem mkNil_3 : MkNil 3 := fun _ _ _ _ _ _ _ _ _ _ => by kernel_rfl
theorem mkPre_3_0 : MkPre 3 0 := fun _ _ _ _ _ _ _ _ _ _ _ _ => by kernel_rfl
theorem mkFin_3_0 : MkFin 3 0 := fun _ _ _ _ _ _ _ _ _ _ _ _ _ _ => by kernel_rfl
theorem rdKEnd_3_0 : RdKEnd 3 0 [yes false] (fun len => [cpO .lss (Int.ofNat 0) len false]) := fun _ _ _ _ _ _ _ => by kernel_rfl
theorem mkPre_3_1 : MkPre 3 1 := fun _ _ _ _ _ _ _ _ _ _ _ _ => by kernel_rfl
theorem mkFin_3_1 : MkFin 3 1 := fun _ _ _ _ _ _ _ _ _ _ _ _ _ _ => by kernel_rfl
theorem rdKEnd_3_1 : RdKEnd 3 1 [yes false] (fun len => [cpO .lss (Int.ofNat 1) len false]) := fun _ _ _ _ _ _ _ => by kernel_rfl
theorem mkPre_3_2 : MkPre 3 2 := fun _ _ _ _ _ _ _ _ _ _ _ _ => by kernel_rfl
theorem mkFin_3_2 : MkFin 3 2 := fun _ _ _ _ _ _ _ _ _ _ _ _ _ _ => by kernel_rfl
theorem rdKEnd_3_2 : RdKEnd 3 2 [yes false] (fun len => [cpO .lss (Int.ofNat 2) len false]) := fun _ _ _ _ _ _ _ => by kernel_rfl
theorem mkPre_3_3 : MkPre 3 3 := fun _ _ _ _ _ _ _ _ _ _ _ _ => by kernel_rfl
theorem mkFin_3_3 : MkFin 3 3 := fun _ _ _ _ _ _ _ _ _ _ _ _ _ _ => by kernel_rfl
theorem rdKEnd_3_3 : RdKEnd 3 3 [yes false] (fun len => [cpO .lss (Int.ofNat 3) len false]) := fun _ _ _ _ _ _ _ => by kernel_rfl
theorem mkPre_3_4 : MkPre 3 4 := fun _ _ _ _ _ _ _ _ _ _ _ _ => by kernel_rfl
theorem mkFin_3_4 : MkFin 3 4 := fun _ _ _ _ _ _ _ _ _ _ _ _ _ _ => by kernel_rfl
theorem rdKEnd_3_4 : RdKEnd 3 4 [yes false] (fun len => [cpO .lss (Int.ofNat 4) len false]) := fun _ _ _ _ _ _ _ => by kernel_rfl
theorem mkPre_3_5 : MkPre 3 5 := fun _ _ _ _ _ _ _ _ _ _ _ _ => by kernel_rfl
theorem mkFin_3_5 : MkFin 3 5 := fun _ _ _ _ _ _ _ _ _ _ _ _ _ _ => by kernel_rfl
theorem rdKEnd_3_5 : RdKEnd 3 5 [yes false] (fun len => [cpO .lss (Int.ofNat 5) len false]) := fun _ _ _ _ _ _ _ => by kernel_rfl
theorem mkPre_3_6 : MkPre 3 6 := fun _ _ _ _ _ _ _ _ _ _ _ _ => by kernel_rfl
theorem mkFin_3_6 : MkFin 3 6 := fun _ _ _ _ _ _ _ _ _ _ _ _ _ _ => by kernel_rfl
theorem rdKEnd_3_6 : RdKEnd 3 6 [yes false] (fun len => [cpO .lss (Int.ofNat 6) len false]) := fun _ _ _ _ _ _ _ => by kernel_rfl
theorem mkPre_3_7 : MkPre 3 7 := fun _ _ _ _ _ _ _ _ _ _ _ _ => by kernel_rfl
theorem mkFin_3_7 : MkFin 3 7 := fun _ _ _ _ _ _ _ _ _ _ _ _ _ _ => by kernel_rfl
theorem rdKEnd_3_7 : RdKEnd 3 7 [yes false] (fun len => [cpO .lss (Int.ofNat 7) len false]) := fun _ _ _ _ _ _ _ => by kernel_rfl
theorem mkPre_3_8 : MkPre 3 8 := fun _ _ _ _ _ _ _ _ _ _ _ _ => by kernel_rfl
theorem mkFin_3_8 : MkFin 3 8 := fun _ _ _ _ _ _ _ _ _ _ _ _ _ _ => by kernel_rfl
theorem rdKEnd_3_8 : RdKEnd 3 8 [yes false] (fun len => [cpO .lss (Int.ofNat 8) len false]) := fun _ _ _ _ _ _ _ => by kernel_rfl
theorem rdKOver_3 : RdKEnd 3 8 [yes true, yes false] (fun len => [cpO .lss 8 len true, cpO .lss 8 8 false]) := fun _ _ _ _ _ _ _ => by kernel_rfl
theorem mkPreA_1 : ∀ i, i < 9 → MkPre 1 i
  | 0, _ => mkPre_1_0
  | 1, _ => mkPre_1_1
  | 2, _ => mkPre_1_2
  | 3, _ => mkPre_1_3
  | 4, _ => mkPre_1_4
  | 5, _ => mkPre_1_5
  | 6, _ => mkPre_1_6
  | 7, _ => mkPre_1_7
  | 8, _ => mkPre_1_8
  | i + 9, h => absurd h (by omega)
theorem mkPreA_2 : ∀ i, i < 9 → MkPre 2 i
  | 0, _ => mkPre_2_0
  | 1, _ => mkPre_2_1
  | 2, _ => mkPre_2_2
  | 3, _ => mkPre_2_3
  | 4, _ => mkPre_2_4
  | 5, _ => mkPre_2_5
  | 6, _ => mkPre_2_6
  | 7, _ => mkPre_2_7
  | 8, _ => mkPre_2_8
  | i + 9, h => absurd h (by omega)
theorem mkPreA_3 : ∀ i, i < 9 → MkPre 3 i
  | 0, _ => mkPre_3_0
  | 1, _ => mkPre_3_1
  | 2, _ => mkPre_3_2
  | 3, _ => mkPre_3_3
  | 4, _ => mkPre_3_4
  | 5, _ => mkPre_3_5
  | 6, _ => mkPre_3_6
  | 7, _ => mkPre_3_7
  | 8, _ => mkPre_3_8
  | i + 9, h => absurd h (by omega)
theorem mkPre (N i : Nat) (h1 : 1 ≤ N) (h2 : N ≤ 3) (h : i < 9) : MkPre N i := by
  have : N = 1 ∨ N = 2 ∨ N = 3 := by omega
  rcases this with rfl | rfl | rfl
  · exact mkPreA_1 i h
  · exact mkPreA_2 i h
  · exact mkPreA_3 i h
theorem mkFinA_1 : ∀ i, i < 9 → MkFin 1 i
  | 0, _ => mkFin_1_0
  | 1, _ => mkFin_1_1
  | 2, _ => mkFin_1_2
  | 3, _ => mkFin_1_3
  | 4, _ => mkFin_1_4
  | 5, _ => mkFin_1_5
  | 6, _ => mkFin_1_6
  | 7, _ => mkFin_1_7
  | 8, _ => mkFin_1_8
  | i + 9, h => absurd h (by omega)
theorem mkFinA_2 : ∀ i, i < 9 → MkFin 2 i
  | 0, _ => mkFin_2_0
  | 1, _ => mkFin_2_1
  | 2, _ => mkFin_2_2
  | 3, _ => mkFin_2_3
  | 4, _ => mkFin_2_4
  | 5, _ => mkFin_2_5
  | 6, _ => mkFin_2_6
  | 7, _ => mkFin_2_7
  | 8, _ => mkFin_2_8
  | i + 9, h => absurd h (by omega)
theorem mkFinA_3 : ∀ i, i < 9 → MkFin 3 i
  | 0, _ => mkFin_3_0
  | 1, _ => mkFin_3_1
  | 2, _ => mkFin_3_2
  | 3, _ => mkFin_3_3
  | 4, _ => mkFin_3_4
  | 5, _ => mkFin_3_5
  | 6, _ => mkFin_3_6
  | 7, _ => mkFin_3_7
  | 8, _ => mkFin_3_8
  | i + 9, h => absurd h (by omega)
theorem mkFin (N i : Nat) (h1 : 1 ≤ N) (h2 : N ≤ 3) (h : i < 9) : MkFin N i := by
  have : N = 1 ∨ N = 2 ∨ N = 3 := by omega
  rcases this with rfl | rfl | rfl
  · exact mkFinA_1 i h
  · exact mkFinA_2 i h
  · exact mkFinA_3 i h
theorem rdKEndA_1 : ∀ i, i < 9 → RdKEnd 1 i [yes false] (fun len => [cpO .lss (Int.ofNat i) len false])
  | 0, _ => rdKEnd_1_0
  | 1, _ => rdKEnd_1_1
  | 2, _ => rdKEnd_1_2
  | 3, _ => rdKEnd_1_3
  | 4, _ => rdKEnd_1_4
  | 5, _ => rdKEnd_1_5
  | 6, _ => rdKEnd_1_6
  | 7, _ => rdKEnd_1_7
  | 8, _ => rdKEnd_1_8
  | i + 9, h => absurd h (by omega)
theorem rdKEndA_2 : ∀ i, i < 9 → RdKEnd 2 i [yes false] (fun len => [cpO .lss (Int.ofNat i) len false])
  | 0, _ => rdKEnd_2_0
  | 1, _ => rdKEnd_2_1
  | 2, _ => rdKEnd_2_2
  | 3, _ => rdKEnd_2_3
  | 4, _ => rdKEnd_2_4
  | 5, _ => rdKEnd_2_5
  | 6, _ => rdKEnd_2_6
  | 7, _ => rdKEnd_2_7
  | 8, _ => rdKEnd_2_8
  | i + 9, h => absurd h (by omega)
theorem rdKEndA_3 : ∀ i, i < 9 → RdKEnd 3 i [yes false] (fun len => [cpO .lss (Int.ofNat i) len false])
  | 0, _ => rdKEnd_3_0
  | 1, _ => rdKEnd_3_1
  | 2, _ => rdKEnd_3_2
  | 3, _ => rdKEnd_3_3
  | 4, _ => rdKEnd_3_4
  | 5, _ => rdKEnd_3_5
  | 6, _ => rdKEnd_3_6
  | 7, _ => rdKEnd_3_7
  | 8, _ => rdKEnd_3_8
  | i + 9, h => absurd h (by omega)
theorem rdKEnd (N i : Nat) (h1 : 1 ≤ N) (h2 : N ≤ 3) (h : i < 9) : RdKEnd N i [yes false] (fun len => [cpO .lss (Int.ofNat i) len false]) := by
  have : N = 1 ∨ N = 2 ∨ N = 3 := by omega
  rcases this with rfl | rfl | rfl
  · exact rdKEndA_1 i h
  · exact rdKEndA_2 i h
  · exact rdKEndA_3 i h
theorem mkNil (N : Nat) (h1 : 1 ≤ N) (h2 : N ≤ 3) : MkNil N := by
  have : N = 1 ∨ N = 2 ∨ N = 3 := by omega
  rcases this with rfl | rfl | rfl
  · exact mkNil_1
  · exact mkNil_2
  · exact mkNil_3
theorem rdKOver (N : Nat) (h1 : 1 ≤ N) (h2 : N ≤ 3) : RdKEnd N 8 [yes true, yes false] (fun len => [cpO .lss 8 len true, cpO .lss 8 8 false]) := by
  have : N = 1 ∨ N = 2 ∨ N = 3 := by omega
  rcases this with rfl | rfl | rfl
  · exact rdKOver_1
  · exact rdKOver_2
  · exact rdKOver_3
theorem rdKA_1_fff : ∀ i, i < 8 → RdK 1 i false false false
  | 0, _ => rdK_1_0_fff
  | 1, _ => rdK_1_1_fff
  | 2, _ => rdK_1_2_fff
  | 3, _ => rdK_1_3_fff
  | 4, _ => rdK_1_4_fff
  | 5, _ => rdK_1_5_fff
  | 6, _ => rdK_1_6_fff
  | 7, _ => rdK_1_7_fff
  | i + 8, h => absurd h (by omega)
theorem rdKA_1_fft : ∀ i, i < 8 → RdK 1 i false false true
  | 0, _ => rdK_1_0_fft
  | 1, _ => rdK_1_1_fft
  | 2, _ => rdK_1_2_fft
  | 3, _ => rdK_1_3_fft
  | 4, _ => rdK_1_4_fft
  | 5, _ => rdK_1_5_fft
  | 6, _ => rdK_1_6_fft
  | 7, _ => rdK_1_7_fft
  | i + 8, h => absurd h (by omega)
theorem rdKA_1_tff : ∀ i, i < 8 → RdK 1 i true false false
  | 0, _ => rdK_1_0_tff
  | 1, _ => rdK_1_1_tff
  | 2, _ => rdK_1_2_tff
  | 3, _ => rdK_1_3_tff
  | 4, _ => rdK_1_4_tff
  | 5, _ => rdK_1_5_tff
  | 6, _ => rdK_1_6_tff
  | 7, _ => rdK_1_7_tff
  | i + 8, h => absurd h (by omega)
theorem rdKA_1_tft : ∀ i, i < 8 → RdK 1 i true false true
  | 0, _ => rdK_1_0_tft
  | 1, _ => rdK_1_1_tft
  | 2, _ => rdK_1_2_tft
  | 3, _ => rdK_1_3_tft
  | 4, _ => rdK_1_4_tft
  | 5, _ => rdK_1_5_tft
  | 6, _ => rdK_1_6_tft
  | 7, _ => rdK_1_7_tft
  | i + 8, h => absurd h (by omega)
theorem rdKA_1_ttf : ∀ i, i < 8 → RdK 1 i true true false
  | 0, _ => rdK_1_0_ttf
  | 1, _ => rdK_1_1_ttf
  | 2, _ => rdK_1_2_ttf
  | 3, _ => rdK_1_3_ttf
  | 4, _ => rdK_1_4_ttf
  | 5, _ => rdK_1_5_ttf
  | 6, _ => rdK_1_6_ttf
  | 7, _ => rdK_1_7_ttf
  | i + 8, h => absurd h (by omega)
theorem rdKA_1_ttt : ∀ i, i < 8 → RdK 1 i true true true
  | 0, _ => rdK_1_0_ttt
  | 1, _ => rdK_1_1_ttt
  | 2, _ => rdK_1_2_ttt
  | 3, _ => rdK_1_3_ttt
  | 4, _ => rdK_1_4_ttt
  | 5, _ => rdK_1_5_ttt
  | 6, _ => rdK_1_6_ttt
  | 7, _ => rdK_1_7_ttt
  | i + 8, h => absurd h (by omega)
theorem rdKA_2_fff : ∀ i, i < 8 → RdK 2 i false false false
  | 0, _ => rdK_2_0_fff
  | 1, _ => rdK_2_1_fff
  | 2, _ => rdK_2_2_fff
  | 3, _ => rdK_2_3_fff
  | 4, _ => rdK_2_4_fff
  | 5, _ => rdK_2_5_fff
  | 6, _ => rdK_2_6_fff
  | 7, _ => rdK_2_7_fff
  | i + 8, h => absurd h (by omega)
theorem rdKA_2_fft : ∀ i, i < 8 → RdK 2 i false false true
  | 0, _ => rdK_2_0_fft
  | 1, _ => rdK_2_1_fft
  | 2, _ => rdK_2_2_fft
  | 3, _ => rdK_2_3_fft
  | 4, _ => rdK_2_4_fft
  | 5, _ => rdK_2_5_fft
  | 6, _ => rdK_2_6_fft
  | 7, _ => rdK_2_7_fft
  | i + 8, h => absurd h (by omega)
theorem rdKA_2_tff : ∀ i, i < 8 → RdK 2 i true false false
  | 0, _ => rdK_2_0_tff
  | 1, _ => rdK_2_1_tff
  | 2, _ => rdK_2_2_tff
  | 3, _ => rdK_2_3_tff
  | 4, _ => rdK_2_4_tff
  | 5, _ => rdK_2_5_tff
  | 6, _ => rdK_2_6_tff
  | 7, _ => rdK_2_7_tff
  | i + 8, h => absurd h (by omega)
theorem rdKA_2_tft : ∀ i, i < 8 → RdK 2 i true false true
  | 0, _ => rdK_2_0_tft
  | 1, _ => rdK_2_1_tft
  | 2, _ => rdK_2_2_tft
  | 3, _ => rdK_2_3_tft
  | 4, _ => rdK_2_4_tft
  | 5, _ => rdK_2_5_tft
  | 6, _ => rdK_2_6_tft
  | 7, _ => rdK_2_7_tft
  | i + 8, h => absurd h (by omega)
theorem rdKA_2_ttf : ∀ i, i < 8 → RdK 2 i true true false
  | 0, _ => rdK_2_0_ttf
  | 1, _ => rdK_2_1_ttf
  | 2, _ => rdK_2_2_ttf
  | 3, _ => rdK_2_3_ttf
  | 4, _ => rdK_2_4_ttf
  | 5, _ => rdK_2_5_ttf
  | 6, _ => rdK_2_6_ttf
  | 7, _ => rdK_2_7_ttf
  | i + 8, h => absurd h (by omega)
theorem rdKA_2_ttt : ∀ i, i < 8 → RdK 2 i true true true
  | 0, _ => rdK_2_0_ttt
  | 1, _ => rdK_2_1_ttt
  | 2, _ => rdK_2_2_ttt
  | 3, _ => rdK_2_3_ttt
  | 4, _ => rdK_2_4_ttt
  | 5, _ => rdK_2_5_ttt
  | 6, _ => rdK_2_6_ttt
  | 7, _ => rdK_2_7_ttt
  | i + 8, h => absurd h (by omega)
theorem rdKA_3_fff : ∀ i, i < 8 → RdK 3 i false false false
  | 0, _ => rdK_3_0_fff
  | 1, _ => rdK_3_1_fff
  | 2, _ => rdK_3_2_fff
  | 3, _ => rdK_3_3_fff
  | 4, _ => rdK_3_4_fff
  | 5, _ => rdK_3_5_fff
  | 6, _ => rdK_3_6_fff
  | 7, _ => rdK_3_7_fff
  | i + 8, h => absurd h (by omega)
theorem rdKA_3_fft : ∀ i, i < 8 → RdK 3 i false false true
  | 0, _ => rdK_3_0_fft
  | 1, _ => rdK_3_1_fft
  | 2, _ => rdK_3_2_fft
  | 3, _ => rdK_3_3_fft
  | 4, _ => rdK_3_4_fft
  | 5, _ => rdK_3_5_fft
  | 6, _ => rdK_3_6_fft
  | 7, _ => rdK_3_7_fft
  | i + 8, h => absurd h (by omega)
theorem rdKA_3_tff : ∀ i, i < 8 → RdK 3 i true false false
  | 0, _ => rdK_3_0_tff
  | 1, _ => rdK_3_1_tff
  | 2, _ => rdK_3_2_tff
  | 3, _ => rdK_3_3_tff
  | 4, _ => rdK_3_4_tff
  | 5, _ => rdK_3_5_tff
  | 6, _ => rdK_3_6_tff
  | 7, _ => rdK_3_7_tff
  | i + 8, h => absurd h (by omega)
theorem rdKA_3_tft : ∀ i, i < 8 → RdK 3 i true false true
  | 0, _ => rdK_3_0_tft
  | 1, _ => rdK_3_1_tft
  | 2, _ => rdK_3_2_tft
  | 3, _ => rdK_3_3_tft
  | 4, _ => rdK_3_4_tft
  | 5, _ => rdK_3_5_tft
  | 6, _ => rdK_3_6_tft
  | 7, _ => rdK_3_7_tft
  | i + 8, h => absurd h (by omega)
theorem rdKA_3_ttf : ∀ i, i < 8 → RdK 3 i true true false
  | 0, _ => rdK_3_0_ttf
  | 1, _ => rdK_3_1_ttf
  | 2, _ => rdK_3_2_ttf
  | 3, _ => rdK_3_3_ttf
  | 4, _ => rdK_3_4_ttf
  | 5, _ => rdK_3_5_ttf
  | 6, _ => rdK_3_6_ttf
  | 7, _ => rdK_3_7_ttf
  | i + 8, h => absurd h (by omega)
theorem rdKA_3_ttt : ∀ i, i < 8 → RdK 3 i true true true
  | 0, _ => rdK_3_0_ttt
  | 1, _ => rdK_3_1_ttt
  | 2, _ => rdK_3_2_ttt
  | 3, _ => rdK_3_3_ttt
  | 4, _ => rdK_3_4_ttt
  | 5, _ => rdK_3_5_ttt
  | 6, _ => rdK_3_6_ttt
  | 7, _ => rdK_3_7_ttt
  | i + 8, h => absurd h (by omega)
theorem rdK (N i : Nat) (h1 : 1 ≤ N) (h2 : N ≤ 3) (h : i < 8) (dv e7 e11 : Bool) (he : dv = false → e7 = false) : RdK N i dv e7 e11 := by
  have : N = 1 ∨ N = 2 ∨ N = 3 := by omega
  rcases this with rfl | rfl | rfl <;> cases dv <;> cases e7 <;> cases e11
  · exact rdKA_1_fff i h
  · exact rdKA_1_fft i h
  · exact absurd (he rfl) (by simp)
  · exact absurd (he rfl) (by simp)
  · exact rdKA_1_tff i h
  · exact rdKA_1_tft i h
  · exact rdKA_1_ttf i h
  · exact rdKA_1_ttt i h
  · exact rdKA_2_fff i h
  · exact rdKA_2_fft i h
  · exact absurd (he rfl) (by simp)
  · exact absurd (he rfl) (by simp)
  · exact rdKA_2_tff i h
  · exact rdKA_2_tft i h
  · exact rdKA_2_ttf i h
  · exact rdKA_2_ttt i h
  · exact rdKA_3_fff i h
  · exact rdKA_3_fft i h
  · exact absurd (he rfl) (by simp)
  · exact absurd (he rfl) (by simp)
  · exact rdKA_3_tff i h
  · exact rdKA_3_tft i h
  · exact rdKA_3_ttf i h
  · exact rdKA_3_ttt i h

end Go.Proofs.Ytpmdpbljgidllaa
