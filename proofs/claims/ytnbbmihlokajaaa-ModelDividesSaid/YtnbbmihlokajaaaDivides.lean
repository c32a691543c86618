/- The law ModelDivides: its questions. -/
import Derived.Test.YtnbbmihlokajaaaModelDiv
namespace Go.Proofs.Ytnbbmihlokajaaa
open Go
set_option linter.unusedVariables false
set_option linter.unusedSimpArgs false
set_option maxRecDepth 100000

noncomputable def askDi (f : FuncId) : Nat := if [15, 23, 22, 24, 17, 29, 27, 37, 18, 30, 20].contains f then 1 else 2
noncomputable def diL (H : AHeap) (va vb : Value) (n d0 : Int) (uc ul fc fd : List Value) (A B C D : Nat → P2) (X : P2) (x k : Nat) : List Obl :=
  let H1 := nx H (slA 3 uc)
  let H2 := pushL H1 [some ⟨(iV (iw5 (20 + d0)) :: ul).toArray, 3, 1, true⟩]
  let H3 := nx H2 (slA 24 fc)
  let H4 := nx H3 (isV' (mW A))
  let H5 := nx H4 (slA 24 fd)
  let H6 := nx H5 (isV' (mW B))
  let H7 := pushL H6 [blkW (mW A), blkW (mW B), sBlk]
  let H8 := nx H7 (isV' (fV x))
  let H9 := nx H8 (yes true)
  [kn5O, mk2 H 23 #[va, .int .i64 5] (slA 3 uc), mk2 H1 23 #[vb, .int .i64 4] (slA 3 (iV d0 :: ul)), mk2 H2 22 #[outV H.size uc] (slA 24 fc), mk2 H3 24 #[outV H2.size fc] (isV' (mW A)),
   mk2 H4 22 #[outV H1.size (iV (iw5 (20 + d0)) :: ul)] (slA 24 fd), mk2 H5 24 #[outV H4.size fd] (isV' (mW B)), wi5O n 5 (Int.ofNat k),
   opM 27 A B C, opM 37 C B D, mk2 H7 29 #[outV H.size uc, .float .f64 (sW k)] (isV' (fV x)), hoM H8 D (sW k) x, mk2 H9 29 #[outV H.size uc, .float .f64 (sW k)] (isV' (fV x)),
   opM 27 A B C, opM 37 C B D, rgM D X, inR x X true]
def diS (d0 : Int) (uc ul fc fd : List Value) (A B C D : Nat → P2) (X : P2) (x k : Nat) : List Ans :=
  [yes true, slA 3 uc, slA 3 (iV d0 :: ul), slA 24 fc, isV' (mW A), slA 24 fd, isV' (mW B), isI (Int.ofNat k), isV' (mW C), isV' (mW D), isV' (fV x), yes true, isV' (fV x), isV' (mW C), isV' (mW D), isV' (vI X), yes true]
def DiRun (H : AHeap) (k : Nat) (uc fc : List Value) : Prop := ∀ (va vb : Value) (n d0 : Int) (ul : List Value) (f0 : Value) (fl : List Value) (A B C D : Nat → P2) (X : P2) (x : Nat),
  (askN askDi noC 12 10 #[va, vb, .int .i64 n] H (diS d0 uc ul fc (f0 :: fl) A B C D X x k)).map (fun r => (r.1, r.2.2)) = some (.bool true, diL H va vb n d0 uc ul fc (f0 :: fl) A B C D X x k)
def DiNil (H : AHeap) (uc : List Value) : Prop := ∀ (va vb : Value) (n : Int), (askN askDi noC 12 10 #[va, vb, .int .i64 n] H [yes true, slA 3 uc, slA 3 []]).map (fun r => (r.1, r.2.2)) =
  some (.bool true, [kn5O, mk2 H 23 #[va, .int .i64 5] (slA 3 uc), mk2 (nx H (slA 3 uc)) 23 #[vb, .int .i64 4] (slA 3 [])])
structure DiRuns (H : AHeap) : Prop where
  a : ∀ k : Nat, k < 5 → ∀ (c0 f0 : Value) (c f : List Value), DiRun H k (c0 :: c) (f0 :: f)
  b : ∀ k : Nat, k < 5 → DiRun H k [] []
  n : ∀ (c0 : Value) (c : List Value), DiNil H (c0 :: c)
  m : DiNil H []

end Go.Proofs.Ytnbbmihlokajaaa
