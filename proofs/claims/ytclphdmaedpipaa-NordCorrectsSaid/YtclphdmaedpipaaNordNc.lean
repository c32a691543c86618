/- The law NordCorrects: what its run is. -/
import Derived.Test.YtclphdmaedpipaaNordScaleL
namespace Go.Proofs.Ytclphdmaedpipaa
open Go
set_option linter.unusedVariables false
set_option linter.unusedSimpArgs false
set_option maxRecDepth 100000

noncomputable def askNc (g : FuncId) : Nat := if [13, 15, 14, 18, 23].contains g then 1 else if [68, 76, 77, 79, 80, 82].contains (g - 1000000) && Nat.ble 1000000 g then 7 else 0
def gtC : BinOp → Value → Value → Bool
  | .gtr, .float _ _, _ => true
  | _, _, _ => false
/-- Bdf's numbers, as words; and how many of all the denominators' product they are. -/
def lQ (q j : Nat) : Nat := match q with
  | 1 => ([4607182418800017408, 4607182418800017408] : List Nat).getD j 0
  | 2 => ([4604180019048437077, 4607182418800017408, 4599676419421066581] : List Nat).getD j 0
  | 3 => ([4603088237320589684, 4607182418800017408, 4603088237320589684, 4591215111030249286] : List Nat).getD j 0
  | 4 => ([4602318531202457272, 4607182418800017408, 4604480259023595110, 4596373779694328218, 4581421828931458171] : List Nat).getD j 0
  | _ => 0
def mU (q j : Nat) : Int := match q with
  | 1 => ([1, 1] : List Int).getD j 0
  | 2 => ([6, 9, 3] : List Int).getD j 0
  | 3 => ([726, 1331, 726, 121] : List Int).getD j 0
  | 4 => ([30000, 62500, 43750, 12500, 1250] : List Int).getD j 0
  | _ => 0
def dN (q : Nat) : Int := match q with
  | 1 => 1
  | 2 => 9
  | 3 => 1331
  | 4 => 62500
  | _ => 0
noncomputable def cfR (f : FuncId) (n q : Nat) : Option (Value × AHeap) := (askN noF noC 12 f #[.int .i64 1, .int .i64 (Int.ofNat q)] (List.replicate n none).toArray []).map fun r => (r.1, r.2.1)
noncomputable def cfX (f : FuncId) (n q : Nat) : List (Option ABlk) := match cfR f n q with
  | some r => r.2.toList.drop n
  | none => []
/-- What coef makes: its exact numbers, the row, its numbers. -/
noncomputable def cfA (q : Nat) : List (Option ABlk) := cfX 20 (q + 4) q
noncomputable def cfT (q : Nat) : Option ABlk := match cfR 20 (q + 4) q with
  | some (Value.tuple vs, _) => match (vs[0]? : Option Value) with
    | some (Value.agg cs) => some ⟨cs, 36, 0, true⟩
    | _ => none
  | _ => none
noncomputable def cfN (q : Nat) : Nat := q + 4 + (cfA q).length + 1
noncomputable def cfB (q : Nat) : List (Option ABlk) := cfX 21 (cfN q) q
noncomputable def cfP (q : Nat) : Nat := cfN q + (cfB q).length
noncomputable def preN (q k : Nat) (X : Nat → Nat → Nat) : List (Option ABlk) := rowsX q k 2 X ++ (cfA q ++ cfT q :: cfB q)
structure NcV where
  w : Nat → Int
  b : Nat → Int
  n : Nat → Int
  f : Nat → Nat
  p : Nat → Addr
  g : Nat
  A : Nat → Nat → Nat
  B : Nat → Nat → Nat
  U : Nat → Nat → Nat
def NcV.d (V : NcV) (m i : Nat) : Nat := bif Nat.blt i m then fop .mul .f64 (V.f i) V.g else 0
def cX (q m : Nat) (V : NcV) (X : Nat → Nat → Nat) (j i : Nat) : Nat := fop .add .f64 (X j i) (fop .mul .f64 (lQ q j) (V.d m i))
def corB (q k p : Nat) (C : Nat → Nat → Nat) : List (Option ABlk) :=
  [some ⟨#[.slice (some ⟨p - 1, 0, none⟩) (q + 1) (q + 1)], 30, 0, true⟩, some ⟨#[.slice (some ⟨p, 0, none⟩) k k], 30, 0, true⟩, outW true q k (p + 4)] ++ (List.range (q + 1)).map fun j => rowW true k (C j)
def aB (k : Nat) (A : Nat → Nat) : List (Option ABlk) := [rowW true k A]
noncomputable def ncL (q k m : Nat) (V : NcV) (X : Nat → Nat → Nat) : List (Option ABlk) := preN q k X ++ (rowW true k (V.d m) :: corB q k (cfP q) (cX q m V X))
def abB (k : Nat) (V : NcV) (j : Nat) : List (Option ABlk) := (List.range j).flatMap fun t => [rowW true k (V.A t), rowW true k (V.B t)]
def tJ (j : Nat) : Nat := fop .sub .f64 0 (F (Int.ofNat (j + 1)))
noncomputable def atG (H : AHeap) (L : List (Option ABlk)) (q k e p : Nat) (A : Nat → Nat) (t : Nat) : Obl := .run 18 #[.slice (some ⟨e, 0, none⟩) (q + 1) (q + 1), fW t] (froze (G H L)) (.slice (some ⟨p, 0, none⟩) k k) (froze (G H L) ++ (aB k A).toArray)
noncomputable def suI (w b : Int) : Obl := .ex (pureV Try.prog (binOp .sub 3 (.int .i64 w) (.int .i64 4)) = some (.int .i64 b))
noncomputable def cvI (c : Int) (f : Nat) : Obl := .ex (convV Try.prog 3 28 (.int .i64 c) = some (.float .f64 f))
noncomputable def lsI (i len : Nat) (c : Bool) : Obl := .ex (pureV Try.prog (binOp .lss 3 (.int .i64 (Int.ofNat i)) (.int .i64 (Int.ofNat len))) = some (.bool c))
noncomputable def ncD (o o2 : Option ABlk) (q k : Nat) (vb : Value) (len : Nat) (V : NcV) (X : Nat → Nat → Nat) (i : Nat) : List Obl :=
  [lsI i len true, .ex (indexAddrV Try.prog 22 vb (.int .i64 (Int.ofNat i)) = some (.pointer (some (V.p i)))), .ex (readVar Try.prog (G #[o, o2] (preN q k X ++ [rowW true k (V.d i)])) 3 (V.p i) = some (.int .i64 (V.n i))), wObl (V.n i) 9 (V.w i), suI (V.w i) (V.b i), cvI (V.b i) (V.f i), cvI (dN q) V.g]
def ncDA (V : NcV) (i : Nat) : List Ans := [yes true, ⟨fun _ => .pointer (some (V.p i)), []⟩, isI (V.n i), isI (V.w i), isI (V.b i), ⟨fun _ => fW (V.f i), []⟩, ⟨fun _ => fW V.g, []⟩]
noncomputable def ncJ (o o2 : Option ABlk) (q k m : Nat) (V : NcV) (X : Nat → Nat → Nat) (j : Nat) : List Obl :=
  [atG #[o, o2] (ncL q k m V X ++ abB k V j) q k (cfP q + 3) (cfP q + 4 + (q + 1) + 2 * j) (V.A j) (tJ j), atG #[o, o2] (ncL q k m V X ++ abB k V j ++ aB k (V.A j)) q k (2 + (q + 1)) (cfP q + 4 + (q + 1) + 2 * j + 1) (V.B j) (tJ j)] ++
    (List.range k).flatMap fun i => [.run 23 #[fW (fop .sub .f64 (V.A j i) (V.B j i))] #[] (fW (V.U j i)) #[], .cmp .gtr 28 (fW (V.U j i)) (fW 4562254508917369340) false]
def ncJA (k : Nat) (V : NcV) (j : Nat) : List Ans := [⟨fun n => .slice (some ⟨n, 0, none⟩) k k, aB k (V.A j)⟩, ⟨fun n => .slice (some ⟨n, 0, none⟩) k k, aB k (V.B j)⟩] ++ (List.range k).flatMap fun i => [⟨fun _ => fW (V.U j i), []⟩, yes false]
def NcRun (q k m : Nat) : Prop := ∀ (o o2 : Option ABlk) (order n : Int) (va : Value) (a : Option Addr) (len cap : Nat) (X : Nat → Nat → Nat) (V : NcV),
  (askN askNc gtC 12 6 #[.int .i64 order, .int .i64 n, va, .slice a len cap] #[o, o2]
    ([yes true, isI (Int.ofNat (q - 1)), ⟨fun _ => zV2 2 q k, rowsX q k 2 X⟩] ++ (List.range m).flatMap (ncDA V) ++ (bif Nat.blt m k then [yes false] else []) ++ (List.range q).flatMap (ncJA k V))).map (fun r => (r.1, r.2.2)) =
  some (.bool true, [kObl, wObl order 4 (Int.ofNat (q - 1)), mkO q k 2 n va #[o, o2] X] ++ (List.range m).flatMap (ncD o o2 q k (.slice a len cap) len V X) ++ (bif Nat.blt m k then [lsI m len false] else []) ++ (List.range q).flatMap (ncJ o o2 q k m V X))

end Go.Proofs.Ytclphdmaedpipaa
