/- The law ModelOwn: its questions. -/
import Derived.Test.YtnbbmihlokajaaaBound
import Derived.Test.YtnbbmihlokajaaaSlice
namespace Go.Proofs.Ytnbbmihlokajaaa
open Go
set_option linter.unusedVariables false
set_option linter.unusedSimpArgs false
set_option maxRecDepth 100000

noncomputable def askMo (f : FuncId) : Nat := if f == 15 || f == 17 then 1 else 2
def lenF : BinOp → Value → Value → Bool
  | .lss, .int _ _, .int _ (.ofNat n) => Nat.ble 10 n
  | _, .float _ _, _ => true
  | _, _, _ => false
theorem known5 : Runs Try.prog 15 #[] #[] (.bool true) #[] := by
  have h : (askN noF noC 12 15 #[] #[] []).map (fun r => (r.1, r.2.2)) = some (.bool true, []) := by kernel_rfl
  obtain ⟨H', h⟩ := tells_of h trivial
  exact h.quiet rfl rfl #[]
noncomputable def kn5O : Obl := .run 15 #[] #[] (.bool true) #[]
noncomputable def wi5O (z n k : Int) : Obl := .run 17 #[.int .i64 z, .int .i64 n] #[] (.int .i64 k) #[]

def iw5 (n : Int) : Int := IntKind.i64.wrap n
def ownV (z : Int) : Nat := F (iw5 (z % 9 - 4))
def padTo : Nat → List Nat → List Nat
  | 0, _ => []
  | n + 1, [] => 0 :: padTo n []
  | n + 1, v :: l => v :: padTo n l
def sameQ : List Nat → List Obl
  | [] => [cmpF .eql 0 0 true, cmpF .eql 0 0 true]
  | v :: l => cmpF .eql v v true :: cmpF .eql v v true :: sameQ l
noncomputable def ownW : List Int → List Obl
  | [] => []
  | z :: l => wi5O z 9 (z % 9) :: ownW l
noncomputable def ownU (len : Nat) : Nat → List Int → List Obl
  | i, [] => [cmpI .lss (Int.ofNat i) (Int.ofNat len) true]
  | i, z :: l => cmpI .lss (Int.ofNat i) (Int.ofNat len) true :: wi5O z 9 (z % 9) :: ownU len (i + 1) l
def ownA : List Int → List Ans
  | [] => []
  | z :: l => isI (z % 9) :: ownA l
def ownB : List Int → List Ans
  | [] => [yes true]
  | z :: l => yes true :: isI (z % 9) :: ownB l
def yesN : Nat → List Ans
  | 0 => []
  | n + 1 => yes true :: yesN n
noncomputable def ownEnd (l : List Int) : List Obl := sameQ (padTo 9 (l.map ownV)) ++ sameQ (padTo 9 (l.map ownV))

theorem sameQ_ok : ∀ l : List Nat, (∀ v ∈ l, NN v) → okAll Try.prog (sameQ l)
  | [], _ => by
    have h : fcmp .eql .f64 0 0 = some true := by decide +kernel
    exact ⟨(fc _ rfl _ _).trans h, (fc _ rfl _ _).trans h, trivial⟩
  | v :: l, h => by
    have hv := h v (List.mem_cons_self ..)
    have e := (eql_ix hv hv).trans (congrArg some (decide_eq_true rfl))
    exact ⟨(fc _ rfl _ _).trans e, (fc _ rfl _ _).trans e, sameQ_ok l fun u hu => h u (List.mem_cons_of_mem _ hu)⟩
theorem pad_nn : ∀ (n : Nat) (l : List Nat), (∀ v ∈ l, NN v) → ∀ v ∈ padTo n l, NN v
  | 0, _, _, v, hv => by cases hv
  | n + 1, [], h, v, hv => by
    rcases List.mem_cons.1 hv with rfl | hv
    · exact ⟨by decide, by decide, by decide⟩
    · exact pad_nn n [] h v hv
  | n + 1, u :: l, h, v, hv => by
    rcases List.mem_cons.1 hv with rfl | hv
    · exact h _ (List.mem_cons_self ..)
    · exact pad_nn n l (fun w hw => h w (List.mem_cons_of_mem _ hw)) v hv
theorem app_ok {P : Program} : ∀ {l m : List Obl}, okAll P l → okAll P m → okAll P (l ++ m)
  | [], _, _, h => h
  | _ :: _, _, h, g => ⟨h.1, app_ok h.2 g⟩
theorem ownEnd_ok (l : List Int) : okAll Try.prog (ownEnd l) := by
  have h : okAll Try.prog (sameQ (padTo 9 (l.map ownV))) := sameQ_ok _ (pad_nn 9 _ fun v hv => by
    obtain ⟨z, _, rfl⟩ := List.mem_map.1 hv
    exact F_nn _)
  exact app_ok h h
theorem wi5 (z : Int) : Runs Try.prog 17 #[.int .i64 z, .int .i64 9] #[] (.int .i64 (z % 9)) #[] := within5 z 8 (by decide)
theorem ownW_ok : ∀ l : List Int, okAll Try.prog (ownW l)
  | [] => trivial
  | z :: l => ⟨wi5 z, ownW_ok l⟩
theorem ownU_ok (len : Nat) : ∀ (i : Nat) (l : List Int), i + l.length < len → okAll Try.prog (ownU len i l)
  | i, [], h => ⟨(cmp_lss _ _).trans (congrArg some (decide_eq_true (Int.ofNat_lt.2 (by simpa using h)))), trivial⟩
  | i, z :: l, h => by
    simp only [List.length_cons] at h
    exact ⟨(cmp_lss _ _).trans (congrArg some (decide_eq_true (Int.ofNat_lt.2 (by omega)))), wi5 z, ownU_ok len (i + 1) l (by omega)⟩

noncomputable def ownR (zs : List Int) (s : List Ans) : Option (Value × List Obl) := (askN askMo lenF 12 4 #[arg0 zs] (heap0 zs) s).map (fun r => (r.1, r.2.2))
theorem own_short {zs : List Int} (h : ownR zs (yes true :: ownA zs ++ yesN 40) = some (.bool true, kn5O :: ownW zs ++ ownEnd zs)) : Tells 4 #[arg0 zs] (heap0 zs) (.bool true) :=
  tells_of h ⟨known5, app_ok (ownW_ok zs) (ownEnd_ok zs)⟩
theorem own_long {zs l : List Int} (hl : l.length = 9) (hz : 9 < zs.length) (h : ownR zs (yes true :: ownB l ++ yesN 40) = some (.bool true, kn5O :: ownU zs.length 0 l ++ ownEnd l)) : Tells 4 #[arg0 zs] (heap0 zs) (.bool true) :=
  tells_of h ⟨known5, app_ok (ownU_ok _ 0 l (by omega)) (ownEnd_ok l)⟩

end Go.Proofs.Ytnbbmihlokajaaa
