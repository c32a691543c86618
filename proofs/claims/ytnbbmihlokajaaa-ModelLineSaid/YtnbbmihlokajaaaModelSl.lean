/- What the laws' own functions of slices tell: small whole numbers of numbers, numbers as floats, a polynomial at s; and model.Of. -/
import Derived.Test.YtnbbmihlokajaaaSlices
import Derived.Test.YtnbbmihlokajaaaModelW
namespace Go.Proofs.Ytnbbmihlokajaaa
open Go
set_option linter.unusedVariables false
set_option linter.unusedSimpArgs false
set_option maxRecDepth 100000

def growB (t : TypeId) : List Value → List Value → List (Option ABlk)
  | _, [] => []
  | d, [u] => [some ⟨#[u], t, 1, true⟩, some ⟨(d ++ [u]).toArray, t, 1, true⟩]
  | d, u :: v :: l => some ⟨#[u], t, 1, true⟩ :: none :: growB t (d ++ [u]) (v :: l)
theorem growB_ok {t : TypeId} : ∀ (l d : List Value), (∀ u ∈ d, closN 4 u = true) → (∀ u ∈ l, closN 4 u = true) → ∀ B, some B ∈ growB t d l → B.own = true ∧ ∀ (i : Nat) (u : Value), B.cells[i]? = some u → closN 4 u = true
  | [], d, _, _, B, h => by cases h
  | [u], d, hd, hl, B, h => by
    simp only [growB, List.mem_cons, List.not_mem_nil, or_false, Option.some.injEq] at h
    have hu := hl u (List.mem_cons_self ..)
    rcases h with rfl | rfl
    · refine ⟨rfl, fun i x hx => ?_⟩
      have : x ∈ [u] := List.mem_of_getElem? (by simpa using hx)
      rw [List.mem_singleton] at this; subst this; exact hu
    · refine ⟨rfl, fun i x hx => ?_⟩
      have : x ∈ d ++ [u] := List.mem_of_getElem? (by simpa using hx)
      rcases List.mem_append.1 this with h | h
      · exact hd x h
      · rw [List.mem_singleton] at h; subst h; exact hu
  | u :: v :: l, d, hd, hl, B, h => by
    have hu := hl u (List.mem_cons_self ..)
    simp only [growB, List.mem_cons, Option.some.injEq] at h
    rcases h with rfl | h | h
    · refine ⟨rfl, fun i x hx => ?_⟩
      have : x ∈ [u] := List.mem_of_getElem? (by simpa using hx)
      rw [List.mem_singleton] at this; subst this; exact hu
    · cases h
    · refine growB_ok (v :: l) (d ++ [u]) (fun x hx => ?_) (fun x hx => hl x (List.mem_cons_of_mem _ hx)) B h
      rcases List.mem_append.1 hx with h | h
      · exact hd x h
      · rw [List.mem_singleton] at h; subst h; exact hu
theorem growB_last {t : TypeId} : ∀ (l d : List Value), l ≠ [] → (growB t d l)[2 * l.length - 1]? = some (some ⟨(d ++ l).toArray, t, 1, true⟩)
  | [], d, h => absurd rfl h
  | [u], d, _ => rfl
  | u :: v :: l, d, _ => by
    have ih := growB_last (t := t) (v :: l) (d ++ [u]) (by simp)
    have e : 2 * (u :: v :: l).length - 1 = (2 * (v :: l).length - 1) + 1 + 1 := by simp only [List.length_cons]; omega
    rw [e]
    simp only [growB, List.getElem?_cons_succ]
    rw [ih, List.append_assoc]
    rfl

/-- A slice that was made. -/
def outV (n : Nat) (us : List Value) : Value := match us with
  | [] => .slice none 0 0
  | _ :: _ => .slice (some ⟨n, 0, none⟩) us.length us.length
def outB (t : TypeId) (us : List Value) : List (Option ABlk) := match us with
  | [] => []
  | _ :: _ => [some ⟨us.toArray, t, 1, true⟩]
def lastV (n : Nat) (us : List Value) : Value := match us with
  | [] => .slice none 0 0
  | _ :: _ => .slice (some ⟨n + (2 * us.length - 1), 0, none⟩) us.length us.length

theorem out_runs {f : FuncId} {t e : TypeId} {vs us : List Value} {ex : List Value} {va : Value} {H : AHeap} (hcl : ∀ u ∈ vs, closN 4 u = true) (hex : ∀ u ∈ ex, closN 4 u = true) (hus : ∀ u ∈ us, closN 4 u = true)
    (hr : Runs Try.prog f (argV vs :: ex).toArray (heapV t vs) (lastV (heapV t vs).size us) (heapV t vs ++ (growB e [] us).toArray)) (hf : AllFrozen H) (hh : HandV H vs va) : Runs Try.prog f (va :: ex).toArray H (outV H.size us) (H ++ (outB e us).toArray) := by
  cases us with
  | nil =>
    have := read_v (v := .slice none 0 0) hcl hex hr rfl hf hh
    show Runs _ _ _ _ _ (H ++ #[])
    rw [Array.append_empty]
    exact this
  | cons u l =>
    refine make_v (k := 2 * (u :: l).length - 1) hcl hex hus hr ?_ rfl ?_ hf hh
    · have := growB_last (t := e) (u :: l) [] (by simp)
      simpa using this
    · intro j B hB
      refine growB_ok (t := e) (u :: l) [] (fun u h => by cases h) hus B ?_
      exact List.mem_of_getElem? (by simpa using hB)

def iV (n : Int) : Value := .int .i64 n
def fV (x : Nat) : Value := .float .f64 x
theorem iV_cl {l : List Int} : ∀ u ∈ l.map iV, closN 4 u = true := fun u h => by obtain ⟨n, _, rfl⟩ := List.mem_map.1 h; rfl
theorem fV_cl {l : List Nat} : ∀ u ∈ l.map fV, closN 4 u = true := fun u h => by obtain ⟨n, _, rfl⟩ := List.mem_map.1 h; rfl

/-! whole -/
def wZ (z : Int) : Int := iw5 (z % 9 - 4)
def lenT (k : Nat) : BinOp → Value → Value → Bool
  | .lss, .int _ _, .int _ (.ofNat n) => Nat.ble (k + 1) n
  | _, _, _ => false
noncomputable def wholeRun (m : Nat) (zs : List Int) (s : List Ans) : Option (Value × AHeap × List Obl) := askN askMo (lenT m) 12 23 #[argV (zs.map iV), .int .i64 (Int.ofNat m)] (heapV 3 (zs.map iV)) s
def WholeAt (m : Nat) (zs : List Int) : Prop := Runs Try.prog 23 #[argV (zs.map iV), .int .i64 (Int.ofNat m)] (heapV 3 (zs.map iV)) (lastV (heapV 3 (zs.map iV)).size ((zs.take m).map fun z => iV (wZ z))) (heapV 3 (zs.map iV) ++ (growB 3 [] ((zs.take m).map fun z => iV (wZ z))).toArray)
theorem whole_short {m : Nat} {zs : List Int} (h : wholeRun m zs (ownA zs) = some (lastV (heapV 3 (zs.map iV)).size ((zs.take m).map fun z => iV (wZ z)), heapV 3 (zs.map iV) ++ (growB 3 [] ((zs.take m).map fun z => iV (wZ z))).toArray, ownW zs)) : WholeAt m zs :=
  askN_runs h (ownW_ok zs)
theorem whole_long {m : Nat} {zs l : List Int} (hl : l.length < zs.length) (h : wholeRun m zs (ownB l) = some (lastV (heapV 3 (zs.map iV)).size ((zs.take m).map fun z => iV (wZ z)), heapV 3 (zs.map iV) ++ (growB 3 [] ((zs.take m).map fun z => iV (wZ z))).toArray, ownU (zs.map iV).length 0 l)) : WholeAt m zs :=
  askN_runs h (ownU_ok _ 0 l (by rw [List.length_map]; omega))
theorem whole9 : ∀ zs : List Int, WholeAt 9 zs
  | [] => whole_short (by kernel_rfl)
  | [z0] => whole_short (by kernel_rfl)
  | [z0, z1] => whole_short (by kernel_rfl)
  | [z0, z1, z2] => whole_short (by kernel_rfl)
  | [z0, z1, z2, z3] => whole_short (by kernel_rfl)
  | [z0, z1, z2, z3, z4] => whole_short (by kernel_rfl)
  | [z0, z1, z2, z3, z4, z5] => whole_short (by kernel_rfl)
  | [z0, z1, z2, z3, z4, z5, z6] => whole_short (by kernel_rfl)
  | [z0, z1, z2, z3, z4, z5, z6, z7] => whole_short (by kernel_rfl)
  | [z0, z1, z2, z3, z4, z5, z6, z7, z8] => whole_short (by kernel_rfl)
  | z0 :: z1 :: z2 :: z3 :: z4 :: z5 :: z6 :: z7 :: z8 :: z9 :: tail => whole_long (l := [z0, z1, z2, z3, z4, z5, z6, z7, z8]) (by simp only [List.length_cons, List.length_nil]; omega) (by kernel_rfl)
theorem whole9_runs {zs : List Int} {H : AHeap} {va : Value} (hf : AllFrozen H) (hh : HandV H (zs.map iV) va) : Runs Try.prog 23 #[va, .int .i64 9] H (outV H.size ((zs.take 9).map fun z => iV (wZ z))) (H ++ (outB 3 ((zs.take 9).map fun z => iV (wZ z))).toArray) :=
  out_runs (ex := [.int .i64 9]) iV_cl (fun u h => by rw [List.mem_singleton] at h; subst h; rfl) (fun u h => by obtain ⟨n, _, rfl⟩ := List.mem_map.1 h; rfl) (whole9 zs) hf hh
theorem whole5 : ∀ zs : List Int, WholeAt 5 zs
  | [] => whole_short (by kernel_rfl)
  | [z0] => whole_short (by kernel_rfl)
  | [z0, z1] => whole_short (by kernel_rfl)
  | [z0, z1, z2] => whole_short (by kernel_rfl)
  | [z0, z1, z2, z3] => whole_short (by kernel_rfl)
  | [z0, z1, z2, z3, z4] => whole_short (by kernel_rfl)
  | z0 :: z1 :: z2 :: z3 :: z4 :: z5 :: tail => whole_long (l := [z0, z1, z2, z3, z4]) (by simp only [List.length_cons, List.length_nil]; omega) (by kernel_rfl)
theorem whole5_runs {zs : List Int} {H : AHeap} {va : Value} (hf : AllFrozen H) (hh : HandV H (zs.map iV) va) : Runs Try.prog 23 #[va, .int .i64 5] H (outV H.size ((zs.take 5).map fun z => iV (wZ z))) (H ++ (outB 3 ((zs.take 5).map fun z => iV (wZ z))).toArray) :=
  out_runs (ex := [.int .i64 5]) iV_cl (fun u h => by rw [List.mem_singleton] at h; subst h; rfl) (fun u h => by obtain ⟨n, _, rfl⟩ := List.mem_map.1 h; rfl) (whole5 zs) hf hh
theorem whole4 : ∀ zs : List Int, WholeAt 4 zs
  | [] => whole_short (by kernel_rfl)
  | [z0] => whole_short (by kernel_rfl)
  | [z0, z1] => whole_short (by kernel_rfl)
  | [z0, z1, z2] => whole_short (by kernel_rfl)
  | [z0, z1, z2, z3] => whole_short (by kernel_rfl)
  | z0 :: z1 :: z2 :: z3 :: z4 :: tail => whole_long (l := [z0, z1, z2, z3]) (by simp only [List.length_cons, List.length_nil]; omega) (by kernel_rfl)
theorem whole4_runs {zs : List Int} {H : AHeap} {va : Value} (hf : AllFrozen H) (hh : HandV H (zs.map iV) va) : Runs Try.prog 23 #[va, .int .i64 4] H (outV H.size ((zs.take 4).map fun z => iV (wZ z))) (H ++ (outB 3 ((zs.take 4).map fun z => iV (wZ z))).toArray) :=
  out_runs (ex := [.int .i64 4]) iV_cl (fun u h => by rw [List.mem_singleton] at h; subst h; rfl) (fun u h => by obtain ⟨n, _, rfl⟩ := List.mem_map.1 h; rfl) (whole4 zs) hf hh

/-! floats -/
def FloatsAt (cs : List Int) : Prop := Runs Try.prog 22 #[argV (cs.map iV)] (heapV 3 (cs.map iV)) (lastV (heapV 3 (cs.map iV)).size (cs.map fun z => fV (F z))) (heapV 3 (cs.map iV) ++ (growB 24 [] (cs.map fun z => fV (F z))).toArray)
theorem floats_of {cs : List Int} (h : callD 12 22 #[argV (cs.map iV)] (heapV 3 (cs.map iV)) = some (lastV (heapV 3 (cs.map iV)).size (cs.map fun z => fV (F z)), heapV 3 (cs.map iV) ++ (growB 24 [] (cs.map fun z => fV (F z))).toArray)) : FloatsAt cs := callD_runs h
theorem floats_at : ∀ cs : List Int, cs.length ≤ 9 → FloatsAt cs
  | [], _ => floats_of (by kernel_rfl)
  | [z0], _ => floats_of (by kernel_rfl)
  | [z0, z1], _ => floats_of (by kernel_rfl)
  | [z0, z1, z2], _ => floats_of (by kernel_rfl)
  | [z0, z1, z2, z3], _ => floats_of (by kernel_rfl)
  | [z0, z1, z2, z3, z4], _ => floats_of (by kernel_rfl)
  | [z0, z1, z2, z3, z4, z5], _ => floats_of (by kernel_rfl)
  | [z0, z1, z2, z3, z4, z5, z6], _ => floats_of (by kernel_rfl)
  | [z0, z1, z2, z3, z4, z5, z6, z7], _ => floats_of (by kernel_rfl)
  | [z0, z1, z2, z3, z4, z5, z6, z7, z8], _ => floats_of (by kernel_rfl)
  | z0 :: z1 :: z2 :: z3 :: z4 :: z5 :: z6 :: z7 :: z8 :: z9 :: tail, h => absurd h (by simp only [List.length_cons]; omega)
theorem floats_runs {cs : List Int} {H : AHeap} {va : Value} (hl : cs.length ≤ 9) (hf : AllFrozen H) (hh : HandV H (cs.map iV) va) : Runs Try.prog 22 #[va] H (outV H.size (cs.map fun z => fV (F z))) (H ++ (outB 24 (cs.map fun z => fV (F z))).toArray) :=
  out_runs (ex := []) iV_cl (fun u h => by cases h) (fun u h => by obtain ⟨n, _, rfl⟩ := List.mem_map.1 h; rfl) (floats_at cs hl) hf hh

/-! at -/
def atW (s : Nat) : List Int → Nat
  | [] => 0
  | c :: l => fop .add .f64 (fop .mul .f64 (atW s l) s) (F c)
def AtAt (s : Nat) (cs : List Int) : Prop := Runs Try.prog 29 #[argV (cs.map iV), .float .f64 s] (heapV 3 (cs.map iV)) (fV (atW s cs)) (heapV 3 (cs.map iV) ++ #[])
theorem at_of {s : Nat} {cs : List Int} (h : callD 12 29 #[argV (cs.map iV), .float .f64 s] (heapV 3 (cs.map iV)) = some (fV (atW s cs), heapV 3 (cs.map iV))) : AtAt s cs := by
  unfold AtAt; rw [Array.append_empty]; exact callD_runs h
theorem at_at (s : Nat) : ∀ cs : List Int, cs.length ≤ 9 → AtAt s cs
  | [], _ => at_of (by kernel_rfl)
  | [z0], _ => at_of (by kernel_rfl)
  | [z0, z1], _ => at_of (by kernel_rfl)
  | [z0, z1, z2], _ => at_of (by kernel_rfl)
  | [z0, z1, z2, z3], _ => at_of (by kernel_rfl)
  | [z0, z1, z2, z3, z4], _ => at_of (by kernel_rfl)
  | [z0, z1, z2, z3, z4, z5], _ => at_of (by kernel_rfl)
  | [z0, z1, z2, z3, z4, z5, z6], _ => at_of (by kernel_rfl)
  | [z0, z1, z2, z3, z4, z5, z6, z7], _ => at_of (by kernel_rfl)
  | [z0, z1, z2, z3, z4, z5, z6, z7, z8], _ => at_of (by kernel_rfl)
  | z0 :: z1 :: z2 :: z3 :: z4 :: z5 :: z6 :: z7 :: z8 :: z9 :: tail, h => absurd h (by simp only [List.length_cons]; omega)
theorem at_runs {s : Nat} {cs : List Int} {H : AHeap} {va : Value} (hl : cs.length ≤ 9) (hf : AllFrozen H) (hh : HandV H (cs.map iV) va) : Runs Try.prog 29 #[va, .float .f64 s] H (fV (atW s cs)) H :=
  read_v (ex := [.float .f64 s]) iV_cl (fun u h => by rw [List.mem_singleton] at h; subst h; rfl) (at_at s cs hl) rfl hf hh

/-! Of -/
def getF : List Nat → Nat → Nat
  | [], _ => 0
  | x :: _, 0 => x
  | _ :: l, n + 1 => getF l n
def ofM (fs : List Nat) : Nat → P2 := fun k => bif Nat.ble k 8 then (getF fs k, getF fs k) else (0, 0)
def blkW (v : Value) : Option ABlk := match v with
  | .agg cs => some ⟨cs, 29, 0, true⟩
  | _ => none
def OfAt (f : FuncId) (bs : AHeap) (fs : List Nat) : Prop := Runs Try.prog f #[argV (fs.map fV)] (heapV 24 (fs.map fV)) (mW (ofM fs)) (heapV 24 (fs.map fV) ++ bs)
theorem of_of {f : FuncId} {bs : AHeap} {fs : List Nat} (h : callD 12 f #[argV (fs.map fV)] (heapV 24 (fs.map fV)) = some (mW (ofM fs), heapV 24 (fs.map fV) ++ bs)) : OfAt f bs fs := callD_runs h
theorem of_at : ∀ fs : List Nat, fs.length ≤ 9 → OfAt 24 #[blkW (mW (ofM fs)), blkW (mW (ofM fs))] fs
  | [], _ => of_of (by kernel_rfl)
  | [x0], _ => of_of (by kernel_rfl)
  | [x0, x1], _ => of_of (by kernel_rfl)
  | [x0, x1, x2], _ => of_of (by kernel_rfl)
  | [x0, x1, x2, x3], _ => of_of (by kernel_rfl)
  | [x0, x1, x2, x3, x4], _ => of_of (by kernel_rfl)
  | [x0, x1, x2, x3, x4, x5], _ => of_of (by kernel_rfl)
  | [x0, x1, x2, x3, x4, x5, x6], _ => of_of (by kernel_rfl)
  | [x0, x1, x2, x3, x4, x5, x6, x7], _ => of_of (by kernel_rfl)
  | [x0, x1, x2, x3, x4, x5, x6, x7, x8], _ => of_of (by kernel_rfl)
  | x0 :: x1 :: x2 :: x3 :: x4 :: x5 :: x6 :: x7 :: x8 :: x9 :: tail, h => absurd h (by simp only [List.length_cons]; omega)
theorem of_runs {fs : List Nat} {H : AHeap} {va : Value} (hl : fs.length ≤ 9) (hf : AllFrozen H) (hh : HandV H (fs.map fV) va) : Runs Try.prog 24 #[va] H (mW (ofM fs)) H :=
  read_v (ex := []) fV_cl (fun u h => by cases h) (of_at fs hl) rfl hf hh

end Go.Proofs.Ytnbbmihlokajaaa
