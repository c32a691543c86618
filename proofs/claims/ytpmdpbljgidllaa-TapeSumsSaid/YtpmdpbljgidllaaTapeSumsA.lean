/- The law TapeSums at one number of variables: what it asks for holds. -/
import Derived.Test.YtpmdpbljgidllaaSlice
import Derived.Test.YtpmdpbljgidllaaNordMath
namespace Go.Proofs.Ytpmdpbljgidllaa
open Go
set_option linter.unusedVariables false
set_option maxRecDepth 100000

def addL (a : Nat) : List Nat → Nat
  | [] => a
  | x :: r => addL (fop .add .f64 a x) r
def sumI : List Int → Int
  | [] => 0
  | x :: r => x + sumI r

theorem addL_isZ {B : Nat} : ∀ {l : List Nat} {L : List Int} {a : Nat} {n : Int}, ColZ B l L → IsZ a n → n.natAbs + B * l.length < 9007199254740992 → IsZ (addL a l) (n + sumI L)
  | _, _, a, n, .nil, ha, _ => by simpa [addL, sumI] using ha
  | _, _, a, n, .cons (x := x) (n := m) (l := l) (L := L) h hb t, ha, hlt => by
    have e : B * (x :: l).length = B + B * l.length := by simp [Nat.mul_add]; omega
    have ih := addL_isZ t (ha.add h (by omega)) (by omega)
    rw [show sumI (m :: L) = m + sumI L from rfl, ← Int.add_assoc]
    exact ih

def vX (w : Int) : Nat := FloatKind.f64.nearest (w % 1048576)
theorem vX_isZ (w : Int) : IsZ (vX w) (w % 1048576) ∧ (w % 1048576).natAbs ≤ 1048576 := by
  have h1 := Int.emod_nonneg w (b := 1048576) (by decide)
  have h2 := Int.emod_lt_of_pos w (b := 1048576) (by decide)
  exact ⟨IsZ.ofInt (n := w % 1048576) (by omega), by omega⟩
theorem vX_col : ∀ ws : List Int, ColZ 1048576 (ws.map vX) (ws.map (· % 1048576))
  | [] => .nil
  | w :: ws => .cons (vX_isZ w).1 (vX_isZ w).2 (vX_col ws)

def tlogW : List Int → List Obl
  | [] => []
  | w :: ws => .run 17 #[.int .i64 w, .int .i64 (Int.ofNat 1048576)] #[] (.int .i64 (w % 1048576)) #[] :: tlogW ws
def tlogC (len : Nat) : Nat → List Int → List Obl
  | _, [] => []
  | c, w :: ws => .cmp .lss 3 (.int .i64 (Int.ofNat c)) (.int .i64 (Int.ofNat len)) true :: .run 17 #[.int .i64 w, .int .i64 (Int.ofNat 1048576)] #[] (.int .i64 (w % 1048576)) #[] :: tlogC len (c + 1) ws
def tscrW : List Int → List Ans
  | [] => []
  | w :: ws => isI (w % 1048576) :: tscrW ws
def tscrC : List Int → List Ans
  | [] => []
  | w :: ws => yes true :: isI (w % 1048576) :: tscrC ws

theorem okAll_append {P : Program} : ∀ {a b : List Obl}, okAll P a → okAll P b → okAll P (a ++ b)
  | [], _, _, hb => hb
  | _ :: _, _, ha, hb => ⟨ha.1, okAll_append ha.2 hb⟩
theorem tlogW_ok : ∀ ws : List Int, okAll Try.prog (tlogW ws)
  | [] => trivial
  | w :: ws => ⟨within3 w 1048575 (by decide), tlogW_ok ws⟩
theorem tlogC_ok (len : Nat) : ∀ (c : Nat) (ws : List Int), c + ws.length ≤ len → okAll Try.prog (tlogC len c ws)
  | _, [], _ => trivial
  | c, w :: ws, h => by
    simp at h
    refine ⟨(cmp_lss _ _).trans ?_, within3 w 1048575 (by decide), tlogC_ok len (c + 1) ws (by omega)⟩
    have : (Int.ofNat c) < Int.ofNat len := Int.ofNat_lt.2 (by omega)
    rw [decide_eq_true this]

noncomputable def askT (f : FuncId) : Nat := if f == 12 || f == 17 then 1 else 0
def tsC (k : Nat) : BinOp → Value → Value → Bool
  | .lss, .int _ _, .int _ (.ofNat n) => Nat.ble (k + 1) n
  | .eql, .float _ _, _ => true
  | _, _, _ => false
def ts0 : BinOp → Value → Value → Bool
  | .eql, .float _ _, _ => true
  | _, _, _ => false

/-- The two comparisons at the end: the numbers as the field adds them, and one after the other. -/
def endObl (ws : List Int) (lst : Int) : List Obl :=
  [.cmp .eql 30 (.float .f64 (addL (vX lst) (ws.dropLast.map vX))) (.float .f64 (addL 0 (ws.map vX))) true,
   .cmp .eql 30 (.float .f64 (addL (vX lst) (ws.dropLast.map vX))) (.float .f64 (addL 0 (ws.map vX))) true]
noncomputable def sumRun (c : BinOp → Value → Value → Bool) (k : Nat) (zs : List Int) (n : Int) (s : List Ans) : Option (Value × List Obl) :=
  (askN askT c 12 9 #[arg0 zs, .int .i64 n] (heap0 zs) (yes true :: isI (Int.ofNat (k - 1)) :: (s ++ [yes true, yes true]))).map (fun r => (r.1, r.2.2))
def hObl (n : Int) (k : Nat) : List Obl := [.run 12 #[] #[] (.bool true) #[], .run 17 #[.int .i64 n, .int .i64 (Int.ofNat 4)] #[] (.int .i64 (Int.ofNat (k - 1))) #[]]

theorem tape_known : Runs Try.prog 12 #[] #[] (.bool true) #[] := by
  have h : (askN noF noC 12 12 #[] #[] []).map (fun r => (r.1, r.2.2)) = some (.bool true, []) := by kernel_rfl
  obtain ⟨H', h⟩ := tells_of h trivial
  exact h.quiet rfl rfl #[]

theorem isZ_0 : IsZ 0 0 := by
  have hz : ∀ d : Nat, 0 = (0 : Int).natAbs * 2 ^ d := fun d => by simp
  exact ⟨false, 0, 1074, by decide +kernel, hz 1074, by simp⟩

theorem sumI_append : ∀ (a b : List Int), sumI (a ++ b) = sumI a + sumI b
  | [], b => by simp [sumI]
  | x :: a, b => by
    simp only [List.cons_append, sumI, sumI_append a b]
    omega

theorem end_ok {ini : List Int} {lst : Int} (hk : ini.length ≤ 4) : okAll Try.prog (endObl (ini ++ [lst]) lst) := by
  have h1 := addL_isZ (vX_col ini) (vX_isZ lst).1 (by have := (vX_isZ lst).2; simp; omega)
  have h2 := addL_isZ (vX_col (ini ++ [lst])) isZ_0 (by simp; omega)
  have e : (0 : Int) + sumI ((ini ++ [lst]).map (· % 1048576)) = lst % 1048576 + sumI (ini.map (· % 1048576)) := by
    rw [List.map_append, sumI_append]
    simp [sumI]
    omega
  rw [e] at h2
  have h3 := h1.eql h2
  have hd : (ini ++ [lst]).dropLast = ini := by simp
  unfold endObl
  rw [hd]
  exact ⟨h3, h3, trivial⟩

theorem sums_head {n : Int} {k : Nat} (hn : n % Int.ofNat (3 + 1) = Int.ofNat (k - 1)) : okAll Try.prog (hObl n k) := by
  have := within3 n 3 (by decide)
  rw [hn] at this
  exact ⟨tape_known, this, trivial⟩

theorem sums_short {k : Nat} {zs : List Int} (ini : List Int) (lst : Int) (hk : ini.length ≤ 4)
    (h : ∀ n : Int, sumRun ts0 k zs n (tscrW (ini ++ [lst])) = some (.bool true, hObl n k ++ (tlogW (ini ++ [lst]) ++ endObl (ini ++ [lst]) lst))) (n : Int) (hn : n % Int.ofNat (3 + 1) = Int.ofNat (k - 1)) :
    Tells 9 #[arg0 zs, .int .i64 n] (heap0 zs) (.bool true) :=
  tells_of (h n) (okAll_append (sums_head hn) (okAll_append (tlogW_ok _) (end_ok hk)))

theorem sums_long {k : Nat} {zs : List Int} (ini : List Int) (lst : Int) (hk : ini.length ≤ 4) (hz : ini.length + 1 ≤ zs.length)
    (h : ∀ n : Int, sumRun (tsC k) k zs n (tscrC (ini ++ [lst])) = some (.bool true, hObl n k ++ (tlogC zs.length 0 (ini ++ [lst]) ++ endObl (ini ++ [lst]) lst))) (n : Int) (hn : n % Int.ofNat (3 + 1) = Int.ofNat (k - 1)) :
    Tells 9 #[arg0 zs, .int .i64 n] (heap0 zs) (.bool true) :=
  tells_of (h n) (okAll_append (sums_head hn) (okAll_append (tlogC_ok _ 0 _ (by simp; omega)) (end_ok hk)))

end Go.Proofs.Ytpmdpbljgidllaa
