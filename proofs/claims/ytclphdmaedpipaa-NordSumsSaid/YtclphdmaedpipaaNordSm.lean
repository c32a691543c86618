/- The law NordSums: what its run is. -/
import Derived.Test.YtclphdmaedpipaaNordScaleL
namespace Go.Proofs.Ytclphdmaedpipaa
open Go
set_option linter.unusedVariables false
set_option linter.unusedSimpArgs false
set_option maxRecDepth 100000

noncomputable def askSm (g : FuncId) : Nat := if [13, 15, 14, 16, 18].contains g then 1 else if [106, 107].contains (g - 1000000) && Nat.ble 1000000 g then 7 else 0
def pB (q k e : Nat) (P : Nat → Nat → Nat) : List (Option ABlk) := outW true q k (e + 1) :: ((List.range (q + 1)).map fun j => rowW true k (P j))
def aB (k : Nat) (A : Nat → Nat) : List (Option ABlk) := [rowW true k A]
def addX (X Y : Nat → Nat → Nat) (j i : Nat) : Nat := fop .add .f64 (X j i) (Y j i)
noncomputable def prP (H : AHeap) (L : List (Option ABlk)) (q k e p : Nat) (P : Nat → Nat → Nat) : Obl := .run 16 #[zV2 e q k] (froze (G H L)) (pV p q) (froze (G H L) ++ (pB q k p P).toArray)
noncomputable def atP (H : AHeap) (L : List (Option ABlk)) (q k e p : Nat) (A : Nat → Nat) (t : Nat) : Obl := .run 18 #[zV2 e q k, fW t] (froze (G H L)) (.slice (some ⟨p, 0, none⟩) k k) (froze (G H L) ++ (aB k A).toArray)
noncomputable def suI (w b : Int) : Obl := .ex (pureV Try.prog (binOp .sub 3 (.int .i64 w) (.int .i64 4)) = some (.int .i64 b))
noncomputable def cvI (c : Int) (f : Nat) : Obl := .ex (convV Try.prog 3 28 (.int .i64 c) = some (.float .f64 f))
def neG (q k : Nat) (P1 P2 P3 : Nat → Nat → Nat) (A1 A2 A3 : Nat → Nat) : List Obl := (List.range (q + 1)).flatMap fun j => (List.range k).flatMap fun i => [cObl (P3 j i) (fop .add .f64 (P1 j i) (P2 j i)), cObl (A3 i) (fop .add .f64 (A1 i) (A2 i))]
def SmRun (q k : Nat) : Prop := ∀ (o o2 : Option ABlk) (order n s : Int) (va vb : Value) (X Y Z P1 P2 P3 : Nat → Nat → Nat) (A1 A2 A3 : Nat → Nat) (w b : Int) (t : Nat),
  (askN askSm neqC 12 4 #[.int .i64 order, .int .i64 n, va, vb, .int .i64 s] #[o, o2]
    ([yes true, isI (Int.ofNat (q - 1)), ⟨fun _ => zV2 2 q k, rowsX q k 2 X⟩, ⟨fun _ => zV2 (2 + (q + 2)) q k, rowsX q k (2 + (q + 2)) Y⟩, ⟨fun _ => zV2 (2 + 2 * (q + 2)) q k, rowsX q k (2 + 2 * (q + 2)) Z⟩,
      ⟨fun n => pV n q, pB q k (2 + 3 * (q + 2)) P1⟩, ⟨fun n => pV n q, pB q k (2 + 4 * (q + 2)) P2⟩, ⟨fun n => pV n q, pB q k (2 + 5 * (q + 2)) P3⟩, isI w, isI b, ⟨fun _ => fW t, []⟩,
      ⟨fun n => .slice (some ⟨n, 0, none⟩) k k, aB k A1⟩, ⟨fun n => .slice (some ⟨n, 0, none⟩) k k, aB k A2⟩, ⟨fun n => .slice (some ⟨n, 0, none⟩) k k, aB k A3⟩] ++ noes (2 * ((q + 1) * k)))).map (fun r => (r.1, r.2.2)) =
  some (.bool true, [kObl, wObl order 5 (Int.ofNat (q - 1)), mkO q k 2 n va #[o, o2] X, mkO q k (2 + (q + 2)) n vb (G #[o, o2] (rowsX q k 2 X)) Y, mkO q k (2 + 2 * (q + 2)) n va (G #[o, o2] (rowsX q k 2 X ++ rowsX q k (2 + (q + 2)) Y)) Z,
    prP #[o, o2] (rowsX q k 2 X ++ rowsX q k (2 + (q + 2)) Y ++ rowsX q k (2 + 2 * (q + 2)) (addX X Y)) q k 2 (2 + 3 * (q + 2)) P1,
    prP #[o, o2] (rowsX q k 2 X ++ rowsX q k (2 + (q + 2)) Y ++ rowsX q k (2 + 2 * (q + 2)) (addX X Y) ++ pB q k (2 + 3 * (q + 2)) P1) q k (2 + (q + 2)) (2 + 4 * (q + 2)) P2,
    prP #[o, o2] (rowsX q k 2 X ++ rowsX q k (2 + (q + 2)) Y ++ rowsX q k (2 + 2 * (q + 2)) (addX X Y) ++ pB q k (2 + 3 * (q + 2)) P1 ++ pB q k (2 + 4 * (q + 2)) P2) q k (2 + 2 * (q + 2)) (2 + 5 * (q + 2)) P3,
    wObl s 9 w, suI w b, cvI b t,
    atP #[o, o2] (rowsX q k 2 X ++ rowsX q k (2 + (q + 2)) Y ++ rowsX q k (2 + 2 * (q + 2)) (addX X Y) ++ pB q k (2 + 3 * (q + 2)) P1 ++ pB q k (2 + 4 * (q + 2)) P2 ++ pB q k (2 + 5 * (q + 2)) P3) q k 2 (2 + 6 * (q + 2)) A1 t,
    atP #[o, o2] (rowsX q k 2 X ++ rowsX q k (2 + (q + 2)) Y ++ rowsX q k (2 + 2 * (q + 2)) (addX X Y) ++ pB q k (2 + 3 * (q + 2)) P1 ++ pB q k (2 + 4 * (q + 2)) P2 ++ pB q k (2 + 5 * (q + 2)) P3 ++ aB k A1) q k (2 + (q + 2)) (2 + 6 * (q + 2) + 1) A2 t,
    atP #[o, o2] (rowsX q k 2 X ++ rowsX q k (2 + (q + 2)) Y ++ rowsX q k (2 + 2 * (q + 2)) (addX X Y) ++ pB q k (2 + 3 * (q + 2)) P1 ++ pB q k (2 + 4 * (q + 2)) P2 ++ pB q k (2 + 5 * (q + 2)) P3 ++ aB k A1 ++ aB k A2) q k (2 + 2 * (q + 2)) (2 + 6 * (q + 2) + 2) A3 t] ++ neG q k P1 P2 P3 A1 A2 A3)

end Go.Proofs.Ytclphdmaedpipaa
