/- What Make of the rows makes, of any numbers: rows of whole numbers from -100 to 100, each in a block of its own; and that two whole numbers that are the same are told so. -/
import Derived.Test.YtclphdmaedpipaaSlice
import Derived.Test.YtclphdmaedpipaaNordMath
namespace Go.Proofs.Ytclphdmaedpipaa
open Go
set_option linter.unusedVariables false
set_option maxRecDepth 100000

def flN (r : Int) : Nat := FloatKind.f64.nearest (IntKind.i64.wrap (r - 100))
def fl (r : Int) : Value := .float .f64 (flN r)
def fBlk (cs : List Value) : Option ABlk := some ⟨cs.toArray, 28, 1, true⟩
def rBlk (cs : List Value) : Option ABlk := some ⟨cs.toArray, 30, 1, true⟩
def hdr (base k j : Nat) : Value := .slice (some ⟨base + j * (2 * k + 2) + 2 * k - 1, 0, none⟩) k k
def hdrs (base k q : Nat) : List Value := (List.range (q + 1)).map (hdr base k)
def elBs (k : Nat) (row : List Int) : Nat → List Int → List (Option ABlk)
  | _, [] => []
  | i, r :: rs => fBlk [fl r] :: (if i + 1 = k then fBlk (row.map fl) else none) :: elBs k row (i + 1) rs
def rowBs (base q k j : Nat) (row : List Int) : List (Option ABlk) :=
  elBs k row 0 row ++ [rBlk [hdr base k j], if j = q then rBlk (hdrs base k q) else none]
def makeBs (base q k : Nat) : Nat → Nat → List Int → List (Option ABlk)
  | 0, _, _ => []
  | n + 1, j, rs => rowBs base q k j (rs.take k) ++ makeBs base q k n (j + 1) (rs.drop k)
def zV (base q k : Nat) : Value := .slice (some ⟨base + (q + 1) * (2 * k + 2) - 1, 0, none⟩) (q + 1) (q + 1)
def zBs (base q k : Nat) (rs : List Int) : List (Option ABlk) := makeBs base q k (q + 1) 0 rs

def logW : List Int → List Obl
  | [] => []
  | w :: ws => .run 15 #[.int .i64 w, .int .i64 (Int.ofNat 201)] #[] (.int .i64 (w % 201)) #[] :: logW ws
def logC (len : Nat) : Nat → List Int → List Obl
  | _, [] => []
  | c, w :: ws => .cmp .lss 3 (.int .i64 (Int.ofNat c)) (.int .i64 (Int.ofNat len)) true :: .run 15 #[.int .i64 w, .int .i64 (Int.ofNat 201)] #[] (.int .i64 (w % 201)) #[] :: logC len (c + 1) ws
def scrW : List Int → List Ans
  | [] => []
  | w :: ws => isI (w % 201) :: scrW ws
def scrC : List Int → List Ans
  | [] => []
  | w :: ws => yes true :: isI (w % 201) :: scrC ws

theorem logW_ok : ∀ ws : List Int, okAll Try.prog (logW ws)
  | [] => trivial
  | w :: ws => ⟨within8 w 200 (by decide), logW_ok ws⟩
theorem logC_ok (len : Nat) : ∀ (c : Nat) (ws : List Int), c + ws.length ≤ len → okAll Try.prog (logC len c ws)
  | _, [], _ => trivial
  | c, w :: ws, h => by
    simp at h
    refine ⟨(cmp_lss _ _).trans ?_, within8 w 200 (by decide), logC_ok len (c + 1) ws (by omega)⟩
    have : (Int.ofNat c) < Int.ofNat len := Int.ofNat_lt.2 (by omega)
    rw [decide_eq_true this]

/-- What Make promises at one shape. -/
def MakeOK (q k : Nat) (zs : List Int) : Prop := ∀ n : Int, n % Int.ofNat (2 + 1) = Int.ofNat (k - 1) →
  ∃ rs : List Int, rs.length = (q + 1) * k ∧ (∀ r ∈ rs, 0 ≤ r ∧ r ≤ 200) ∧
    Runs Try.prog 14 #[.int .i64 (Int.ofNat q), .int .i64 n, arg0 zs] (froze (heap0 zs)) (zV (heap0 zs).size q k) (froze (heap0 zs) ++ (zBs (heap0 zs).size q k rs).toArray)

theorem mods_ok : ∀ (ws : List Int), ∀ r ∈ ws.map (· % 201), 0 ≤ r ∧ r ≤ 200 := by
  intro ws r hr
  simp only [List.mem_map] at hr
  obtain ⟨w, _, rfl⟩ := hr
  have h1 := Int.emod_nonneg w (b := 201) (by decide)
  have h2 := Int.emod_lt_of_pos w (b := 201) (by decide)
  omega

noncomputable def runM (c : BinOp → Value → Value → Bool) (q k : Nat) (n : Int) (zs : List Int) (s : List Ans) : Option (Value × AHeap × List Obl) :=
  askN askW c 0 14 #[.int .i64 (Int.ofNat q), .int .i64 n, arg0 zs] (froze (heap0 zs)) (isI (Int.ofNat (k - 1)) :: s)
def nObl (n : Int) (k : Nat) : Obl := .run 15 #[.int .i64 n, .int .i64 (Int.ofNat 3)] #[] (.int .i64 (Int.ofNat (k - 1))) #[]

theorem make_short {q k : Nat} {zs : List Int} (ws : List Int) (hc : ws.length = (q + 1) * k)
    (h : ∀ n : Int, runM noC q k n zs (scrW ws) = some (zV (heap0 zs).size q k, froze (heap0 zs) ++ (zBs (heap0 zs).size q k (ws.map (· % 201))).toArray, nObl n k :: logW ws)) : MakeOK q k zs := by
  intro n hn
  refine ⟨ws.map (· % 201), by simpa using hc, mods_ok ws, askN_runs (h n) ⟨?_, logW_ok ws⟩⟩
  have := within8 n 2 (by decide)
  rw [hn] at this
  exact this

theorem make_long {q k : Nat} {zs : List Int} (ws : List Int) (hc : ws.length = (q + 1) * k) (hz : ws.length ≤ zs.length)
    (h : ∀ n : Int, runM (lenC k) q k n zs (scrC ws) = some (zV (heap0 zs).size q k, froze (heap0 zs) ++ (zBs (heap0 zs).size q k (ws.map (· % 201))).toArray, nObl n k :: logC zs.length 0 ws)) : MakeOK q k zs := by
  intro n hn
  refine ⟨ws.map (· % 201), by simpa using hc, mods_ok ws, askN_runs (h n) ⟨?_, logC_ok _ 0 ws (by omega)⟩⟩
  have := within8 n 2 (by decide)
  rw [hn] at this
  exact this

theorem fl_isZ {r : Int} (h : 0 ≤ r ∧ r ≤ 200) : IsZ (flN r) (r - 100) := by
  unfold flN
  rw [wrap_id (by omega) (by omega)]
  exact IsZ.ofInt (n := r - 100) (by omega)

theorem same_eq {x y : Nat} (h : fcmp .eql .f64 x y = some true) : Runs Try.prog 31 #[.float .f64 x, .float .f64 y] #[] (.bool true) #[] :=
  askN_runs (ask := noF) (askC := fltC) (d := 0) (s := [yes true]) (l := [.cmp .eql 28 (.float .f64 x) (.float .f64 y) true]) (by kernel_rfl) ⟨h, trivial⟩

end Go.Proofs.Ytclphdmaedpipaa
