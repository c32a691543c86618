/- The law JacNorms: its questions. -/
import Derived.Test.YtdlinjijccnaeaaJacNormsA
import Derived.Test.YtdlinjijccnaeaaJacNormL
namespace Go.Proofs.Ytdlinjijccnaeaa
open Go
set_option linter.unusedVariables false
set_option linter.unusedSimpArgs false
set_option maxRecDepth 100000

noncomputable def askNs (f : FuncId) : Nat := if [12, 13, 31, 14, 24, 30, 19].contains f then 1 else 2
def getW2 (zs : List Int) (n i c : Nat) : Int := match getO zs (i * n + c) with
  | some z => z
  | none => jw (Int.ofNat i + Int.ofNat c)
noncomputable def mkQ (w k : Int) (X : P2) : Obl := .run 31 #[.int .i64 w, .int .i64 k, .int .i64 (jw (w.tdiv 7))] #[] (vI X) #[]
def isX (X : P2) : Ans := ⟨fun _ => vI X, []⟩
def cA2 (lg : Bool) (M : Nat → P2) : Nat → Nat → List Ans
  | 0, _ => []
  | m + 1, c => (bif lg then [yes true] else []) ++ (isX (M c) :: cA2 lg M m (c + 1))
noncomputable def cO2 (lg : Bool) (len b : Nat) (w : Nat → Int) (k : Int) (M : Nat → P2) : Nat → Nat → List Obl
  | 0, _ => []
  | m + 1, c => (bif lg then [cmpI .lss (Int.ofNat (b + c)) (Int.ofNat len) true] else []) ++ (mkQ (w c) k (M c) :: cO2 lg len b w k M m (c + 1))
def tA2 (lg : Bool) (n : Nat) (M : Nat → Nat → P2) : Nat → Nat → List Ans
  | 0, _ => []
  | m + 1, i => cA2 lg (M i) n 0 ++ tA2 lg n M m (i + 1)
noncomputable def tO2 (lg : Bool) (len n : Nat) (w : Nat → Nat → Int) (k : Int) (M : Nat → Nat → P2) : Nat → Nat → List Obl
  | 0, _ => []
  | m + 1, i => cO2 lg len (i * n) (w i) k (M i) n 0 ++ tO2 lg len n w k M m (i + 1)
def updM (t : Bool) (n : Nat) (X : P2) (M : Nat → Nat → P2) (i c : Nat) : P2 := bif (t && (Nat.beq i (n - 1) && Nat.beq c 0)) then X else M i c
noncomputable def nmQ (f : FuncId) (H : AHeap) (h n x : Nat) : Obl := .run f #[.slice (some ⟨posO h n, 0, none⟩) n n] (froze H) (.float .f64 x) (froze H ++ #[])
noncomputable def raQ (H : AHeap) (z : Int) (r : Nat) : Obl := .run 30 #[.int .i64 z] (froze H) (.float .f64 r) (froze H ++ #[])
noncomputable def nsO (lg : Bool) (H : AHeap) (len n : Nat) (zs : List Int) (m k rare : Int) (M : Nat → Nat → P2) (x y r1 r2 : Nat) (t : Bool) : List Obl :=
  [.run 12 #[] #[] (.bool true) #[], wi4O m 4 (Int.ofNat (n - 1))] ++ (tO2 lg len n (getW2 zs n) k M n 0 ++
  [nmQ 14 (lawH2 H n M M (xL false (r1, r2))) H.size n x, nmQ 24 (lawH2 H n M M (xL false (r1, r2))) H.size n x, cmpF .neq x x false,
   raQ (lawH2 H n M M (xL false (r1, r2))) rare r1, raQ (lawH2 H n M M (xL false (r1, r2))) (jw (rare.tdiv 10)) r2, cmpF .leq r1 r2 t,
   nmQ 14 (lawH2 H n M (updM t n (r1, r2) M) (xL true (r1, r2))) H.size n y, nmQ 24 (lawH2 H n M (updM t n (r1, r2) M) (xL true (r1, r2))) H.size n y,
   .run 19 #[.float .f64 y, .float .f64 y] #[] (.bool true) #[]])
def nsS (lg : Bool) (n : Nat) (M : Nat → Nat → P2) (x y r1 r2 : Nat) (t : Bool) : List Ans := [yes true, isI (Int.ofNat (n - 1))] ++ (tA2 lg n M n 0 ++ [isG x, isG x, yes false, isG r1, isG r2, yes t, isG y, isG y, yes true])
noncomputable def nsRun (q : Nat) (zs : List Int) (m k rare : Int) (s : List Ans) : Option (Value × List Obl) :=
  (askN askNs (jnC q) 12 11 #[arg0 zs, .int .i64 m, .int .i64 k, .int .i64 rare] (heap0 zs) s).map (fun r => (r.1, r.2.2))
def NsAt (n : Nat) (zs : List Int) : Prop := ∀ (m k rare : Int) (M : Nat → Nat → P2) (x y r1 r2 : Nat) (t : Bool), ∃ (q : Nat) (lg : Bool), (lg = true → n * n ≤ zs.length) ∧ nsRun q zs m k rare (nsS lg n M x y r1 r2 t) = some (.bool true, nsO lg (heap0 zs) zs.length n zs m k rare M x y r1 r2 t)
theorem ns_short {n : Nat} {zs : List Int} (h : ∀ (m k rare : Int) (M : Nat → Nat → P2) (x y r1 r2 : Nat) (t : Bool), nsRun 1000000 zs m k rare (nsS false n M x y r1 r2 t) = some (.bool true, nsO false (heap0 zs) zs.length n zs m k rare M x y r1 r2 t)) : NsAt n zs := fun m k rare M x y r1 r2 t => ⟨_, false, (fun h => by cases h), h m k rare M x y r1 r2 t⟩
theorem ns_long {n : Nat} {zs : List Int} (q : Nat) (hl : n * n ≤ zs.length) (h : ∀ (m k rare : Int) (M : Nat → Nat → P2) (x y r1 r2 : Nat) (t : Bool), nsRun q zs m k rare (nsS true n M x y r1 r2 t) = some (.bool true, nsO true (heap0 zs) zs.length n zs m k rare M x y r1 r2 t)) : NsAt n zs := fun m k rare M x y r1 r2 t => ⟨q, true, fun _ => hl, h m k rare M x y r1 r2 t⟩

end Go.Proofs.Ytdlinjijccnaeaa
