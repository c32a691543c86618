/- The law NordSums: its walk, Predict and At asked. -/
import Derived.Test.YtclphdmaedpipaaNordLeaf
namespace Go.Proofs.Ytclphdmaedpipaa
open Go
set_option linter.unusedVariables false
set_option linter.unusedSimpArgs false
set_option maxRecDepth 100000

noncomputable def askP (f : FuncId) : Nat := if f == 16 || f == 18 then 1 else askL f
def xA (k : Nat) (ra : List Int) (j i : Nat) : Nat := flN (ra.getD (j * k + i) 0)
def xC (k : Nat) (ra rb : List Int) (j i : Nat) : Nat := fop .add .f64 (xA k ra j i) (xA k rb j i)
def rowsX (q k e : Nat) (X : Nat → Nat → Nat) : List (Option ABlk) := ((List.range (q + 1)).map fun j => rowW true k (X j)) ++ [outW true q k e]
def G (H : AHeap) (L : List (Option ABlk)) : AHeap := (H.toList ++ L).toArray
def ll (q k e : Nat) (ra rb : List Int) : List (Option ABlk) := rowsX q k e (xA k ra) ++ rowsX q k (e + (q + 2)) (xA k rb) ++ rowsX q k (e + (q + 2) + (q + 2)) (xC k ra rb)
def mAns3 (e q k : Nat) (ra : List Int) : Ans := ⟨fun _ => zV2 e q k, rowsX q k e (xA k ra)⟩
def gObl3 (q k e : Nat) (n : Int) (v : Value) (H : AHeap) (ra : List Int) : Obl :=
  .run 14 #[.int .i64 (Int.ofNat q), .int .i64 n, v] (froze H) (zV2 e q k) (froze H ++ (rowsX q k e (xA k ra)).toArray)
def pAns (q k : Nat) (X : Nat → Nat → Nat) : Ans := ⟨fun n => pV n q, [none]⟩
def prO (H : AHeap) (L : List (Option ABlk)) (q k e p : Nat) (X : Nat → Nat → Nat) : Obl := .run 16 #[zV2 e q k] (froze (G H L)) (pV p q) (froze (G H L) ++ (pBs q k p X).toArray)
def atO (H : AHeap) (L : List (Option ABlk)) (q k e p : Nat) (X : Nat → Nat → Nat) (t : Nat) : Obl := .run 18 #[zV2 e q k, fW t] (froze (G H L)) (.slice (some ⟨p, 0, none⟩) k k) (froze (G H L) ++ (aBs q k X t).toArray)
def logS3 (e q k : Nat) (order n s : Int) (va vb : Value) (H : AHeap) (ra rb : List Int) : List Obl :=
  let m := q + 2
  let p := e + m + m + m
  let L := ll q k e ra rb
  let P1 := pBs q k p (xA k ra)
  let P2 := pBs q k (p + m) (xA k rb)
  let P3 := pBs q k (p + m + m) (xC k ra rb)
  let a := p + m + m + m
  let t := pX s
  kObl :: wObl order 5 (Int.ofNat (q - 1)) :: gObl3 q k e n va H ra :: gObl3 q k (e + m) n vb (G H (rowsX q k e (xA k ra))) rb :: gObl3 q k (e + m + m) n va (G H (rowsX q k e (xA k ra) ++ rowsX q k (e + m) (xA k rb))) ra ::
    prO H L q k e p (xA k ra) :: prO H (L ++ P1) q k (e + m) (p + m) (xA k rb) :: prO H (L ++ P1 ++ P2) q k (e + m + m) (p + m + m) (xC k ra rb) :: wObl s 9 (s % 9) ::
    atO H (L ++ P1 ++ P2 ++ P3) q k e a (xA k ra) t :: atO H (L ++ P1 ++ P2 ++ P3 ++ aBs q k (xA k ra) t) q k (e + m) (a + 1) (xA k rb) t :: atO H (L ++ P1 ++ P2 ++ P3 ++ aBs q k (xA k ra) t ++ aBs q k (xA k rb) t) q k (e + m + m) (a + 1 + 1) (xC k ra rb) t ::
    sumObls q k t ra rb (placesP q k)
noncomputable def sumsRun3 (e q k : Nat) (order n s : Int) (va vb : Value) (H : AHeap) (ra rb : List Int) : Option (Value × List Obl) :=
  (askN askP neqC 12 4 #[.int .i64 order, .int .i64 n, va, vb, .int .i64 s] H
    (yes true :: isI (Int.ofNat (q - 1)) :: mAns3 e q k ra :: mAns3 (e + (q + 2)) q k rb :: mAns3 (e + (q + 2) + (q + 2)) q k ra ::
     ⟨fun n => pV n q, pBs q k (e + (q + 2) + (q + 2) + (q + 2)) (xA k ra)⟩ :: ⟨fun n => pV n q, pBs q k (e + (q + 2) + (q + 2) + (q + 2) + (q + 2)) (xA k rb)⟩ :: ⟨fun n => pV n q, pBs q k (e + (q + 2) + (q + 2) + (q + 2) + (q + 2) + (q + 2)) (xC k ra rb)⟩ :: isI (s % 9) ::
     ⟨fun n => .slice (some ⟨n, 0, none⟩) k k, aBs q k (xA k ra) (pX s)⟩ :: ⟨fun n => .slice (some ⟨n, 0, none⟩) k k, aBs q k (xA k rb) (pX s)⟩ :: ⟨fun n => .slice (some ⟨n, 0, none⟩) k k, aBs q k (xC k ra rb) (pX s)⟩ :: noes (2 * ((q + 1) * k)))).map (fun r => (r.1, r.2.2))
/-- The numbers of the third are those of the first: it is made of the same. -/
def SumsRun3 (q k : Nat) (H : AHeap) : Prop := ∀ (order n s : Int) (va vb : Value) (f g : Nat → Int),
  sumsRun3 H.size q k order n s va vb H (tab ((q + 1) * k) f) (tab ((q + 1) * k) g) = some (.bool true, logS3 H.size q k order n s va vb H (tab ((q + 1) * k) f) (tab ((q + 1) * k) g))

end Go.Proofs.Ytclphdmaedpipaa
