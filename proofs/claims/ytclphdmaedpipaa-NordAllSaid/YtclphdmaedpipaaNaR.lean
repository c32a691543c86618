/- The law NordAll: what its run is. -/
import Derived.Test.YtclphdmaedpipaaNaB
import Derived.Test.YtclphdmaedpipaaTpK
namespace Go.Proofs.Ytclphdmaedpipaa
open Go
set_option linter.unusedVariables false
set_option linter.unusedSimpArgs false
set_option maxRecDepth 100000

noncomputable def askNa (g : FuncId) : Nat := if [13, 15, 14, 27, 28, 45, 47, 30, 31, 50, 16, 22, 24, 18, 19, 32, 33, 34].contains g then 1 else
  if [25, 17, 29, 36, 35].contains g then 2 else if [86, 87].contains (g - 1000000) && Nat.ble 1000000 g then 7 else 0
def eqC : BinOp → Value → Value → Bool
  | .eql, .int _ _, _ => true
  | _, _, _ => false
noncomputable def ofR (n q : Nat) : Option (Value × AHeap) := (askN noF noC 12 21 #[.int .i64 0, .int .i64 (Int.ofNat q)] (List.replicate n none).toArray []).map fun r => (r.1, r.2.1)
/-- What coef makes for Adams' numbers; and these. -/
noncomputable def ofB (q : Nat) : List (Option ABlk) := match ofR (q + 4) q with
  | some r => r.2.toList.drop (q + 4)
  | none => []
def onB (q : Nat) : Nat := 7 * q + 10
noncomputable def lA (q j : Nat) : Nat := match (ofB q)[onB q - 1]? with
  | some (some B) => match (B.cells[j]? : Option Value) with
    | some (.float _ x) => x
    | _ => 0
  | _ => 0
/-- A seventh. -/
def x7 (X : Nat → Nat → Nat) (j i : Nat) : Nat := fop .quo .f64 (X j i) 4619567317775286272
structure NaV where
  X : Nat → Nat → Nat
  Y : Nat → Nat → Nat
  fd : Nat → Nat
  fx : Nat → Nat
  fy : Nat → Nat
  M : Nat
  co : Array Value
  cu : Array Value
  u : Int
  v : Int
  u2 : Int
  h : Int
  hf : Nat
  g : Nat
def fB (k : Nat) (f : Nat → Nat) : Option ABlk := rowW true k f
def rwN (k : Nat) (f : Nat → Nat) : Ans := ⟨fun n => slV n k, [fB k f]⟩
noncomputable def rnG (f : FuncId) (args : Array Value) (H : AHeap) (L : List (Option ABlk)) (v : Value) (bs : List (Option ABlk)) : Obl := .run f args (froze (G H L)) v (froze (G H L) ++ bs.toArray)
/-! the memory, step by step -/
noncomputable def lN0 (q k : Nat) (V : NaV) : List (Option ABlk) := rowsX q k 2 (x7 V.X) ++ ofB q
def mN (q : Nat) : Nat := 8 * q + 14
noncomputable def lN1 (q k : Nat) (V : NaV) : List (Option ABlk) := lN0 q k V ++ [fB k V.fd]
noncomputable def lN2 (q k : Nat) (V : NaV) : List (Option ABlk) := lN1 q k V ++ [opB V.co, iB V.cu, tcB (mN q + 1) k V.M]
noncomputable def lN3 (q k : Nat) (V : NaV) : List (Option ABlk) := lN2 q k V ++ [fB k V.fx]
def pN (q : Nat) : Nat := 8 * q + 19
noncomputable def lN4 (q k : Nat) (V : NaV) : List (Option ABlk) := lN3 q k V ++ pBs q k (pN q) (x7 V.X)
noncomputable def lN5 (q k : Nat) (V : NaV) : List (Option ABlk) := lN4 q k V ++ dcB q k (pN q + (q + 2)) (predW q (x7 V.X))
def p5 (q : Nat) : Nat := pN q + (q + 2) + 4 * (q + 1)
noncomputable def cYn (q : Nat) (V : NaV) : Nat → Nat → Nat := corY (x7 V.X) (lA q) V.fd
noncomputable def lN6 (q k : Nat) (V : NaV) : List (Option ABlk) := lN5 q k V ++ ncG q k (mN q - 1) (mN q) (p5 q) (cYn q V)
noncomputable def lN7 (q k : Nat) (V : NaV) : List (Option ABlk) := lN6 q k V ++ dcB q k (p5 q + (q + 4)) (cYn q V)
def p7 (q : Nat) : Nat := p5 q + (q + 4) + 4 * (q + 1)
def sN (V : NaV) : Int := IntKind.i64.wrap (V.v - 40)
noncomputable def lN8 (q k : Nat) (V : NaV) : List (Option ABlk) := lN7 q k V ++ rsB q k (p7 q) V.Y (sN V)
noncomputable def lN9 (q k : Nat) (V : NaV) : List (Option ABlk) := lN8 q k V ++ dcB q k (p7 q + (q + 3)) V.Y
def p9 (q : Nat) : Nat := p7 q + (q + 3) + 4 * (q + 1)
noncomputable def lNa (q k s : Nat) (V : NaV) : List (Option ABlk) := lN9 q k V ++ aBs q k (x7 V.X) s
noncomputable def lNb (q k s : Nat) (V : NaV) : List (Option ABlk) := lNa q k s V ++ daB q k (x7 V.X) s
def pB' (q k : Nat) : Nat := p9 q + 1 + 2 * k
def slZ (o q : Nat) : Value := .slice (some ⟨o, 0, none⟩) (q + 1) (q + 1)
def naArgs (order n kk step : Int) (s : Nat) (va vb : Value) (dv : Bool) : Array Value := #[.int .i64 order, .int .i64 n, va, .int .i64 kk, .float .f64 s, vb, .int .i64 step, .bool dv]
noncomputable def naAns (q k s : Nat) (V : NaV) (ex : List Ans) : List Ans :=
  [yes true, isI (Int.ofNat (q - 1)), ⟨fun _ => zV2 2 q k, rowsX q k 2 V.X⟩, rwN k V.fd, tpA k V.M V.co V.cu, rwN k V.fx, isI V.u, ⟨fun _ => .int .u64 V.u2, []⟩, isI V.h,
    ⟨fun n => pV n q, pBs q k (pN q) (x7 V.X)⟩, ⟨fun n => dcV n q, dcB q k (pN q + (q + 2)) (predW q (x7 V.X))⟩] ++ yesK ((q + 1) * k) ++
  [⟨fun n => pV (n + 2) q, ncG q k (mN q - 1) (mN q) (p5 q) (cYn q V)⟩] ++ [⟨fun n => dcV n q, dcB q k (p5 q + (q + 4)) (cYn q V)⟩] ++ yesK ((q + 1) * k) ++
  [isI V.v, ⟨fun n => pV (n + 1) q, rsB q k (p7 q) V.Y (sN V)⟩, isI V.v, ⟨fun n => dcV n q, dcB q k (p7 q + (q + 3)) V.Y⟩] ++ yesK ((q + 1) * k) ++
  [⟨fun n => slV n k, aBs q k (x7 V.X) s⟩, ⟨fun n => daV n k, daB q k (x7 V.X) s⟩] ++ yesK k ++ ex
def naEnd (k : Nat) (V : NaV) : List Ans := [⟨fun _ => fW V.g, []⟩, rwN k V.fy, rwN k V.fy] ++ (List.range k).map (fun _ => ⟨fun _ => fW V.g, []⟩) ++ yesK 4 ++ yesK k ++ yesK k
noncomputable def cvU (a : Int) (b : Int) : Obl := .ex (convV Try.prog 3 56 (.int .i64 a) = some (.int .u64 b))
noncomputable def shlU (a b : Int) : Obl := .ex (pureV Try.prog (binOp .shl 3 (.int .i64 1) (.int .u64 a)) = some (.int .i64 b))
noncomputable def tbX (q k : Nat) (Y : Nat → Nat → Nat) : List Obl := tbO k Y Y (q + 1) 0
noncomputable def naLog (q k s : Nat) (o o2 : Option ABlk) (order n kk step : Int) (va vb : Value) (dv : Bool) (V : NaV) : List Obl :=
  let H : AHeap := #[o, o2]
  [kObl, wObl order 5 (Int.ofNat (q - 1)), mkO q k 2 n va H V.X,
    rnG 28 #[.int .i64 (Int.ofNat k), vb] H (lN0 q k V) (slV (mN q) k) [fB k V.fd],
    rnG 27 #[.int .i64 n, va, .bool dv] H (lN1 q k V) (tpV (mN q + 1) (mN q + 2) k V.M) [opB V.co, iB V.cu],
    rnG 28 #[.int .i64 (Int.ofNat k), vb] H (lN2 q k V) (slV (mN q + 4) k) [fB k V.fx],
    wObl step 33 V.u, cvU V.u V.u2, shlU V.u2 V.h,
    rnG 16 #[slZ (q + 3) q] H (lN3 q k V) (pV (pN q) q) (pBs q k (pN q) (x7 V.X)),
    rnG 19 #[slZ (q + 3) q] H (lN4 q k V) (dcV (pN q + (q + 2)) q) (dcB q k (pN q + (q + 2)) (predW q (x7 V.X)))] ++ tbX q k (predW q (x7 V.X)) ++
  [rnG 22 #[slZ (q + 3) q, slV (mN q - 1) (q + 1), slV (mN q) k] H (lN5 q k V) (pV (p5 q + 2) q) (ncG q k (mN q - 1) (mN q) (p5 q) (cYn q V)),
    rnG 32 #[slZ (q + 3) q, slV (mN q - 1) (q + 1), slV (mN q) k] H (lN6 q k V) (dcV (p5 q + (q + 4)) q) (dcB q k (p5 q + (q + 4)) (cYn q V))] ++ tbX q k (cYn q V) ++
  [wObl kk 81 V.v, rnG 24 #[slZ (q + 3) q, .int .i64 (sN V)] H (lN7 q k V) (pV (p7 q + 1) q) (rsB q k (p7 q) V.Y (sN V)),
    wObl kk 81 V.v, rnG 33 #[slZ (q + 3) q, .int .i64 (sN V)] H (lN8 q k V) (dcV (p7 q + (q + 3)) q) (dcB q k (p7 q + (q + 3)) V.Y)] ++ tbX q k V.Y ++
  [rnG 18 #[slZ (q + 3) q, fW s] H (lN9 q k V) (slV (p9 q) k) (aBs q k (x7 V.X) s),
    rnG 34 #[slZ (q + 3) q, fW s] H (lNa q k s V) (daV (p9 q + 1) k) (daB q k (x7 V.X) s)] ++ sames (fun i => atL s (colX q (x7 V.X) i)) (fun i => atL s (colX q (x7 V.X) i)) (List.range k)
def ndC (h : Int) (v : Value) (a : Int) : Option ABlk := some ⟨#[.int .i64 0, .int .i64 h, .int .i64 a, .int .i64 0, v], 58, 0, true⟩
def gY (V : NaV) (i : Nat) : Nat := fop .mul .f64 V.g (V.fy i)
noncomputable def lNc (q k s : Nat) (V : NaV) : List (Option ABlk) := lNb q k s V ++ [tcB (mN q + 1) k V.M, ndC 0 (.slice none 0 0) 0, some ⟨#[], 28, 1, true⟩]
noncomputable def lNd (q k s : Nat) (V : NaV) : List (Option ABlk) := lNb q k s V ++ ([tcB (mN q + 1) k V.M, ndC V.h (.slice (some ⟨pB' q k + 6 + 2 * k, 0, none⟩) 2 2) 1, none, fB k V.fy] ++ grRf k (gY V) ++
  [fB k V.fx, fB k (gY V), some ⟨#[slV (pB' q k + 4 + 2 * k) k, slV (pB' q k + 5 + 2 * k) k], 30, 1, true⟩, tcB (mN q + 1) k V.M, ndC 0 (.slice none 0 0) 0])
noncomputable def eqU (a : Int) : Obl := .cmp .eql 3 (.int .i64 a) (.int .i64 a) true
noncomputable def naTail (q k s : Nat) (o o2 : Option ABlk) (V : NaV) : List Obl :=
  let H : AHeap := #[fz o, fz o2]
  [.run 45 #[fW (FloatKind.f64.nearest V.h), .int .i64 (-30)] #[] (fW V.g) #[],
    rnG 47 #[tpV (mN q + 1) (mN q + 2) k V.M, slV (mN q + 4) k] H (lNc q k s V) (slV (pB' q k + 3) k) [fB k V.fy],
    rnG 30 #[tpV (mN q + 1) (mN q + 2) k V.M, slV (mN q + 4) k] H (lNd q k s V) (slV (pB' q k + 9 + 2 * k) k) [fB k V.fy]] ++
  (List.range k).map (fun _ => (.run 50 #[.int .i64 V.h] #[] (fW V.g) #[] : Obl)) ++ [eqU 0, eqU V.h, eqU 1, eqU 0] ++ sames V.fx V.fx (List.range k) ++ sames (gY V) (gY V) (List.range k)
def NaRun (q k : Nat) : Prop := ∀ (o o2 : Option ABlk) (order n kk step : Int) (s : Nat) (va vb : Value) (dv : Bool) (V : NaV),
  (askN askNa eqC 12 12 (naArgs order n kk step s va vb dv) #[o, o2] (naAns q k s V (naEnd k V))).map (fun r => (r.1, r.2.2)) = some (.bool true, naLog q k s o o2 order n kk step va vb dv V ++ naTail q k s o o2 V)

end Go.Proofs.Ytclphdmaedpipaa
