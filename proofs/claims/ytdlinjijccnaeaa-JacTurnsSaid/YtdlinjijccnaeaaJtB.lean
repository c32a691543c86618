/- The law JacTurns: what its run is. -/
import Derived.Test.YtdlinjijccnaeaaJacNormL
import Derived.Test.YtdlinjijccnaeaaJtA
namespace Go.Proofs.Ytdlinjijccnaeaa
open Go
set_option linter.unusedVariables false
set_option linter.unusedSimpArgs false
set_option maxRecDepth 100000

noncomputable def askJt (g : FuncId) : Nat := if [12, 13, 23, 14, 24, 19].contains g then 1 else
  if [62, 63, 73, 75, 110, 111, 116, 117].contains (g - 1000000) && Nat.ble 1000000 g then 7 else 0
/-- The number of a cell. -/
def jtZ (zs : List Int) (n i c : Nat) : Int := match getO zs (i * n + c) with
  | some z => z
  | none => Int.ofNat (i + 2 * c)
structure JtV where
  a : Nat → Nat → Int
  b : Nat → Nat → Int
  y : Nat → Nat → Int
  d : Nat → Nat → Int
  lo : Nat → Nat → Nat
  fd : Nat → Nat → Nat
  s : Nat → Int
  pa : Nat → Addr
  rv : Nat → Value
  pb : Nat → Nat → Addr
  Y : Nat → Nat → P2
def JtV.X (V : JtV) (i c : Nat) : P2 := (V.lo i c, fop .add .f64 (V.lo i c) (V.fd i c))
def grid {α : Type} (n : Nat) (f : Nat → Nat → List α) : List α := (List.range n).flatMap fun i => (List.range n).flatMap fun c => f i c
def jtA (lg : Bool) (V : JtV) (i c : Nat) : List Ans := (bif lg then [yes true] else []) ++ [isI (V.a i c), isI (V.b i c), vAns (.float .f64 (V.lo i c)), isI (V.y i c), isI (V.d i c), vAns (.float .f64 (V.fd i c))]
noncomputable def iiO (op : BinOp) (x y z : Int) : Obl := .ex (pureV Try.prog (binOp op 3 (.int .i64 x) (.int .i64 y)) = some (.int .i64 z))
noncomputable def jtO (lg : Bool) (len n : Nat) (z : Nat → Nat → Int) (V : JtV) (i c : Nat) : List Obl := (bif lg then [cmpI .lss (Int.ofNat (i * n + c)) (Int.ofNat len) true] else []) ++
  [wi4O (z i c) 21 (V.a i c), iiO .sub (V.a i c) 10 (V.b i c), cvO (V.b i c) (V.lo i c), iiO .quo (z i c) 21 (V.y i c), wi4O (V.y i c) 3 (V.d i c), cvO (V.d i c) (V.fd i c)]
def ktA (V : JtV) (i c : Nat) : List Ans := [isI (V.s i), pAnsT (V.pa i), vAns (V.rv i), isI (V.s c), pAnsT (V.pb i c), vAns (vI (V.Y i c))]
noncomputable def swO (i : Nat) (p q s : Int) : Obl := .run 23 #[.int .i64 (Int.ofNat i), .int .i64 p, .int .i64 q] #[] (.int .i64 s) #[]
def ivC (X : P2) : List Value := [fW X.1, fW X.2]
def ivB (l : List P2) : Option ABlk := some ⟨(l.flatMap ivC).toArray, 29, 2, true⟩
/-- The blocks of a row of m, as they are made one by one. -/
def rowK (m : Nat) (X : Nat → P2) : List (Option ABlk) := (List.range m).flatMap fun c => [ivB [X c], bif Nat.beq (c + 1) m then ivB ((List.range m).map X) else none]
def rwP (b n r : Nat) : Nat := b + 2 * n * r + 2 * n - 1
/-- The table, when row i has c of its cells; the rows' blocks begin at b. -/
def tabK (b n i c : Nat) : Option ABlk := some ⟨((List.range n).map fun r => bif Nat.blt r i then Value.slice (some ⟨rwP b n r, 0, none⟩) n n else bif Nat.beq r i && Nat.blt 0 c then Value.slice (some ⟨b + 2 * n * i + 2 * c - 1, 0, none⟩) c c else Value.slice none 0 0).toArray, 26, 1, true⟩
def allK (n : Nat) (X : Nat → Nat → P2) : List (Option ABlk) := (List.range n).flatMap fun i => rowK n (X i)
/-- The memory, when the second table's row i has c of its cells. -/
def jtH (zs : List Int) (n : Nat) (V : JtV) (i c : Nat) : List (Option ABlk) :=
  (heap0 zs).toList ++ [tabK ((heap0 zs).size + 1) n n 0] ++ allK n V.X ++ [tabK ((heap0 zs).size + 2 + 2 * n * n) n i c] ++ (List.range i).flatMap (fun r => rowK n (V.Y r)) ++ rowK c (V.Y i)
def jtT (zs : List Int) (n : Nat) : Value := .slice (some ⟨(heap0 zs).size, 0, none⟩) n n
def jtU (zs : List Int) (n : Nat) : Value := .slice (some ⟨(heap0 zs).size + 1 + 2 * n * n, 0, none⟩) n n
noncomputable def ktO (zs : List Int) (n : Nat) (V : JtV) (p q : Int) (i c : Nat) : List Obl :=
  [swO i p q (V.s i), .ex (indexAddrV Try.prog 25 (jtT zs n) (.int .i64 (V.s i)) = some (.pointer (some (V.pa i)))), .ex (readVar Try.prog (jtH zs n V i c).toArray 26 (V.pa i) = some (V.rv i)),
   swO c p q (V.s c), .ex (indexAddrV Try.prog 26 (V.rv i) (.int .i64 (V.s c)) = some (.pointer (some (V.pb i c)))), .ex (readVar Try.prog (jtH zs n V i c).toArray 29 (V.pb i c) = some (vI (V.Y i c)))]
noncomputable def jtRun (k : Nat) (zs : List Int) (size u v : Int) (s : List Ans) : Option (Value × List Obl) :=
  (askN askJt (jnC k) 12 7 #[arg0 zs, .int .i64 size, .int .i64 u, .int .i64 v] (heap0 zs) s).map (fun r => (r.1, r.2.2))
def jtS (lg : Bool) (n : Nat) (V : JtV) (p q : Int) (x x' : Nat) : List Ans :=
  [yes true, isI (Int.ofNat (n - 2))] ++ grid n (jtA lg V) ++ [isI p, isI q] ++ grid n (ktA V) ++ [isG x, isG x', yes true, yes true, isG x, isG x, yes true]
noncomputable def jtL (lg : Bool) (zs : List Int) (n : Nat) (V : JtV) (size u v p q : Int) (x x' : Nat) : List Obl :=
  [qtO 12 #[] (.bool true), wi4O size 3 (Int.ofNat (n - 2))] ++ grid n (jtO lg zs.length n (jtZ zs n) V) ++ [wi4O u (Int.ofNat n) p, wi4O v (Int.ofNat n) q] ++ grid n (ktO zs n V p q) ++
  [rnO 14 #[jtT zs n] (jtH zs n V n 0) (fW x) [], rnO 14 #[jtU zs n] (jtH zs n V n 0) (fW x') [], cmpF .lss (fop .sub .f64 x x') 4472406533629990549 true, cmpF .gtr (fop .sub .f64 x x') 13695778570484766357 true,
   rnO 14 #[jtT zs n] (jtH zs n V n 0) (fW x) [], rnO 24 #[jtT zs n] (jtH zs n V n 0) (fW x) [], qtO 19 #[fW x, fW x] (.bool true)]
def JtAt (n : Nat) (zs : List Int) : Prop := ∀ (size u v p q : Int) (V : JtV) (x x' : Nat), ∃ (k : Nat) (lg : Bool), (lg = true → n * n ≤ zs.length) ∧ jtRun k zs size u v (jtS lg n V p q x x') = some (.bool true, jtL lg zs n V size u v p q x x')
theorem jt_short {n : Nat} {zs : List Int} (h : ∀ (size u v p q : Int) (V : JtV) (x x' : Nat), jtRun 1000000 zs size u v (jtS false n V p q x x') = some (.bool true, jtL false zs n V size u v p q x x')) : JtAt n zs := fun size u v p q V x x' => ⟨_, false, (fun h => by cases h), h size u v p q V x x'⟩
theorem jt_long {n : Nat} {zs : List Int} (k : Nat) (hl : n * n ≤ zs.length) (h : ∀ (size u v p q : Int) (V : JtV) (x x' : Nat), jtRun k zs size u v (jtS true n V p q x x') = some (.bool true, jtL true zs n V size u v p q x x')) : JtAt n zs := fun size u v p q V x x' => ⟨k, true, fun _ => hl, h size u v p q V x x'⟩

end Go.Proofs.Ytdlinjijccnaeaa
