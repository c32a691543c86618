/- Make of the rows: of what it makes only the rows are kept. -/
import Derived.Test.YtclphdmaedpipaaNordTwo
import Derived.Test.YtclphdmaedpipaaSlices
namespace Go.Proofs.Ytclphdmaedpipaa
open Go
set_option linter.unusedVariables false
set_option linter.unusedSimpArgs false
set_option maxRecDepth 100000

def rowsOf (k : Nat) : Nat → List Int → List (Option ABlk)
  | 0, _ => []
  | n + 1, rs => fBlk ((rs.take k).map fl) :: rowsOf k n (rs.drop k)
def hd2 (e k j : Nat) : Value := .slice (some ⟨e + j, 0, none⟩) k k
def hds2 (e k q : Nat) : List Value := (List.range (q + 1)).map (hd2 e k)
def zV2 (e q k : Nat) : Value := .slice (some ⟨e + (q + 1), 0, none⟩) (q + 1) (q + 1)
def zBs2 (e q k : Nat) (rs : List Int) : List (Option ABlk) := rowsOf k (q + 1) rs ++ [rBlk (hds2 e k q)]
def kap (q k j : Nat) : Nat := if j = q + 1 then (q + 1) * (2 * k + 2) - 1 else j * (2 * k + 2) + 2 * k - 1
theorem fl_cl {l : List Int} {i : Nat} {u : Value} (h : (l.map fl).toArray[i]? = some u) : closN 4 u = true := by
  have h3 : (l.map fl)[i]? = some u := by simpa using h
  obtain ⟨n, _, rfl⟩ := List.mem_map.1 (List.mem_of_getElem? h3)
  rfl
/-- What is kept, at one shape. -/
def Kept (q k : Nat) : Prop := ∀ (e : Nat) (f : Nat → Int), (∀ j, j < q + 2 → ∃ B B', (zBs e q k (tab ((q + 1) * k) f)).toArray[kap q k j]? = some (some B) ∧ (zBs2 e q k (tab ((q + 1) * k) f)).toArray[j]? = some (some B') ∧ B.own = true ∧ B'.own = true ∧ B'.elem = B.elem ∧ B'.esz = B.esz ∧ B'.cells.size = B.cells.size ∧
  ∀ (i : Nat) (u : Value), B'.cells[i]? = some u → ∃ u0, B.cells[i]? = some u0 ∧ RenV e (kap q k) (q + 2) u0 u) ∧ (zBs2 e q k (tab ((q + 1) * k) f)).length = q + 2 ∧ RenV e (kap q k) (q + 2) (zV e q k) (zV2 e q k)
theorem kap_inj {q k i j : Nat} (hk : 0 < k) (hi : i < q + 2) (hj : j < q + 2) (h : kap q k i = kap q k j) : i = j := by
  have m : ∀ a b : Nat, a < b → a * (2 * k + 2) + (2 * k + 2) ≤ b * (2 * k + 2) := by
    intro a b hab
    have := Nat.mul_le_mul_right (2 * k + 2) (show a + 1 ≤ b from hab)
    rw [Nat.add_mul, Nat.one_mul] at this
    exact this
  unfold kap at h
  by_cases a : i = q + 1
  · by_cases b : j = q + 1
    · omega
    · rw [if_pos a, if_neg b] at h
      have := m j (q + 1) (by omega)
      omega
  · by_cases b : j = q + 1
    · rw [if_neg a, if_pos b] at h
      have := m i (q + 1) (by omega)
      omega
    · rw [if_neg a, if_neg b] at h
      by_cases c : i < j
      · have := m i j c; omega
      · by_cases d : j < i
        · have := m j i d; omega
        · omega
/-- The same rows, wherever they are made. -/
theorem make_keptA {q k : Nat} (hk : 0 < k) (hK : Kept q k) {zs : List Int} (hm : MakeOK q k zs) (n : Int) (hn : n % Int.ofNat (2 + 1) = Int.ofNat (k - 1)) :
    ∃ rs : List Int, rs.length = (q + 1) * k ∧ (∀ r ∈ rs, 0 ≤ r ∧ r ≤ 200) ∧ ∀ (H : AHeap) (v : Value), AllFrozen H → Handed H zs v →
      Runs Try.prog 14 #[.int .i64 (Int.ofNat q), .int .i64 n, v] H (zV2 H.size q k) (H ++ (zBs2 H.size q k rs).toArray) := by
  obtain ⟨rs, h1, h2, h3⟩ := hm n hn
  refine ⟨rs, h1, h2, fun H v hf hv => ?_⟩
  have hr := make_elseR hk n h3 hv
  obtain ⟨a, b, c⟩ := hK H.size (fun i => rs.getD i 0)
  rw [tab_eq h1] at a b
  have hs : (zBs2 H.size q k rs).toArray.size = q + 2 := by rw [List.size_toArray, b]
  refine Runs.keepR (kap q k) hf hr ?_ ?_ ?_
  · rw [hs]; exact a
  · rw [hs]; exact fun i j hi hj h => kap_inj hk hi hj h
  · rw [hs]; exact c
theorem make_kept {q k : Nat} (hk : 0 < k) (hK : Kept q k) {zs : List Int} (hm : MakeOK q k zs) {H : AHeap} (hf : AllFrozen H) {v : Value} (hv : Handed H zs v) (n : Int) (hn : n % Int.ofNat (2 + 1) = Int.ofNat (k - 1)) :
    ∃ rs : List Int, rs.length = (q + 1) * k ∧ (∀ r ∈ rs, 0 ≤ r ∧ r ≤ 200) ∧
      Runs Try.prog 14 #[.int .i64 (Int.ofNat q), .int .i64 n, v] H (zV2 H.size q k) (H ++ (zBs2 H.size q k rs).toArray) := by
  obtain ⟨rs, h1, h2, h3⟩ := make_keptA hk hK hm n hn
  exact ⟨rs, h1, h2, h3 H v hf hv⟩
theorem kept_1_1 : Kept 1 1 := fun e f => by
  refine ⟨fun j hj => ?_, by kernel_rfl, .slice (κ := kap 1 1) 2 0 2 2 2 (by decide)⟩
  match j, hj with
  | 0, _ => exact ⟨⟨((((tab 2 f).drop 0).take 1).map fl).toArray, 28, 1, true⟩, ⟨((((tab 2 f).drop 0).take 1).map fl).toArray, 28, 1, true⟩, by kernel_rfl, by kernel_rfl, rfl, rfl, rfl, rfl, rfl, fun i u hu => ⟨u, hu, .clos (fl_cl hu)⟩⟩
  | 1, _ => exact ⟨⟨((((tab 2 f).drop 1).take 1).map fl).toArray, 28, 1, true⟩, ⟨((((tab 2 f).drop 1).take 1).map fl).toArray, 28, 1, true⟩, by kernel_rfl, by kernel_rfl, rfl, rfl, rfl, rfl, rfl, fun i u hu => ⟨u, hu, .clos (fl_cl hu)⟩⟩
  | 2, _ =>
    refine ⟨⟨(hdrs e 1 1).toArray, 30, 1, true⟩, ⟨(hds2 e 1 1).toArray, 30, 1, true⟩, by kernel_rfl, by kernel_rfl, rfl, rfl, rfl, rfl, rfl, fun i u hu => ?_⟩
    match i, hu with
    | 0, hu =>
      have h : u = .slice (some ⟨e + 0, 0, none⟩) 1 1 := (Option.some.inj hu).symm
      subst h
      exact ⟨.slice (some ⟨e + kap 1 1 0, 0, none⟩) 1 1, by kernel_rfl, .slice 0 0 1 1 1 (by decide)⟩
    | 1, hu =>
      have h : u = .slice (some ⟨e + 1, 0, none⟩) 1 1 := (Option.some.inj hu).symm
      subst h
      exact ⟨.slice (some ⟨e + kap 1 1 1, 0, none⟩) 1 1, by kernel_rfl, .slice 1 0 1 1 1 (by decide)⟩
    | i + 2, hu => exact absurd hu (by intro h; cases h)
  | j + 3, hj => exact absurd hj (by omega)
theorem kept_1_2 : Kept 1 2 := fun e f => by
  refine ⟨fun j hj => ?_, by kernel_rfl, .slice (κ := kap 1 2) 2 0 2 2 2 (by decide)⟩
  match j, hj with
  | 0, _ => exact ⟨⟨((((tab 4 f).drop 0).take 2).map fl).toArray, 28, 1, true⟩, ⟨((((tab 4 f).drop 0).take 2).map fl).toArray, 28, 1, true⟩, by kernel_rfl, by kernel_rfl, rfl, rfl, rfl, rfl, rfl, fun i u hu => ⟨u, hu, .clos (fl_cl hu)⟩⟩
  | 1, _ => exact ⟨⟨((((tab 4 f).drop 2).take 2).map fl).toArray, 28, 1, true⟩, ⟨((((tab 4 f).drop 2).take 2).map fl).toArray, 28, 1, true⟩, by kernel_rfl, by kernel_rfl, rfl, rfl, rfl, rfl, rfl, fun i u hu => ⟨u, hu, .clos (fl_cl hu)⟩⟩
  | 2, _ =>
    refine ⟨⟨(hdrs e 2 1).toArray, 30, 1, true⟩, ⟨(hds2 e 2 1).toArray, 30, 1, true⟩, by kernel_rfl, by kernel_rfl, rfl, rfl, rfl, rfl, rfl, fun i u hu => ?_⟩
    match i, hu with
    | 0, hu =>
      have h : u = .slice (some ⟨e + 0, 0, none⟩) 2 2 := (Option.some.inj hu).symm
      subst h
      exact ⟨.slice (some ⟨e + kap 1 2 0, 0, none⟩) 2 2, by kernel_rfl, .slice 0 0 2 2 2 (by decide)⟩
    | 1, hu =>
      have h : u = .slice (some ⟨e + 1, 0, none⟩) 2 2 := (Option.some.inj hu).symm
      subst h
      exact ⟨.slice (some ⟨e + kap 1 2 1, 0, none⟩) 2 2, by kernel_rfl, .slice 1 0 2 2 2 (by decide)⟩
    | i + 2, hu => exact absurd hu (by intro h; cases h)
  | j + 3, hj => exact absurd hj (by omega)
theorem kept_1_3 : Kept 1 3 := fun e f => by
  refine ⟨fun j hj => ?_, by kernel_rfl, .slice (κ := kap 1 3) 2 0 2 2 2 (by decide)⟩
  match j, hj with
  | 0, _ => exact ⟨⟨((((tab 6 f).drop 0).take 3).map fl).toArray, 28, 1, true⟩, ⟨((((tab 6 f).drop 0).take 3).map fl).toArray, 28, 1, true⟩, by kernel_rfl, by kernel_rfl, rfl, rfl, rfl, rfl, rfl, fun i u hu => ⟨u, hu, .clos (fl_cl hu)⟩⟩
  | 1, _ => exact ⟨⟨((((tab 6 f).drop 3).take 3).map fl).toArray, 28, 1, true⟩, ⟨((((tab 6 f).drop 3).take 3).map fl).toArray, 28, 1, true⟩, by kernel_rfl, by kernel_rfl, rfl, rfl, rfl, rfl, rfl, fun i u hu => ⟨u, hu, .clos (fl_cl hu)⟩⟩
  | 2, _ =>
    refine ⟨⟨(hdrs e 3 1).toArray, 30, 1, true⟩, ⟨(hds2 e 3 1).toArray, 30, 1, true⟩, by kernel_rfl, by kernel_rfl, rfl, rfl, rfl, rfl, rfl, fun i u hu => ?_⟩
    match i, hu with
    | 0, hu =>
      have h : u = .slice (some ⟨e + 0, 0, none⟩) 3 3 := (Option.some.inj hu).symm
      subst h
      exact ⟨.slice (some ⟨e + kap 1 3 0, 0, none⟩) 3 3, by kernel_rfl, .slice 0 0 3 3 3 (by decide)⟩
    | 1, hu =>
      have h : u = .slice (some ⟨e + 1, 0, none⟩) 3 3 := (Option.some.inj hu).symm
      subst h
      exact ⟨.slice (some ⟨e + kap 1 3 1, 0, none⟩) 3 3, by kernel_rfl, .slice 1 0 3 3 3 (by decide)⟩
    | i + 2, hu => exact absurd hu (by intro h; cases h)
  | j + 3, hj => exact absurd hj (by omega)
theorem kept_2_1 : Kept 2 1 := fun e f => by
  refine ⟨fun j hj => ?_, by kernel_rfl, .slice (κ := kap 2 1) 3 0 3 3 3 (by decide)⟩
  match j, hj with
  | 0, _ => exact ⟨⟨((((tab 3 f).drop 0).take 1).map fl).toArray, 28, 1, true⟩, ⟨((((tab 3 f).drop 0).take 1).map fl).toArray, 28, 1, true⟩, by kernel_rfl, by kernel_rfl, rfl, rfl, rfl, rfl, rfl, fun i u hu => ⟨u, hu, .clos (fl_cl hu)⟩⟩
  | 1, _ => exact ⟨⟨((((tab 3 f).drop 1).take 1).map fl).toArray, 28, 1, true⟩, ⟨((((tab 3 f).drop 1).take 1).map fl).toArray, 28, 1, true⟩, by kernel_rfl, by kernel_rfl, rfl, rfl, rfl, rfl, rfl, fun i u hu => ⟨u, hu, .clos (fl_cl hu)⟩⟩
  | 2, _ => exact ⟨⟨((((tab 3 f).drop 2).take 1).map fl).toArray, 28, 1, true⟩, ⟨((((tab 3 f).drop 2).take 1).map fl).toArray, 28, 1, true⟩, by kernel_rfl, by kernel_rfl, rfl, rfl, rfl, rfl, rfl, fun i u hu => ⟨u, hu, .clos (fl_cl hu)⟩⟩
  | 3, _ =>
    refine ⟨⟨(hdrs e 1 2).toArray, 30, 1, true⟩, ⟨(hds2 e 1 2).toArray, 30, 1, true⟩, by kernel_rfl, by kernel_rfl, rfl, rfl, rfl, rfl, rfl, fun i u hu => ?_⟩
    match i, hu with
    | 0, hu =>
      have h : u = .slice (some ⟨e + 0, 0, none⟩) 1 1 := (Option.some.inj hu).symm
      subst h
      exact ⟨.slice (some ⟨e + kap 2 1 0, 0, none⟩) 1 1, by kernel_rfl, .slice 0 0 1 1 1 (by decide)⟩
    | 1, hu =>
      have h : u = .slice (some ⟨e + 1, 0, none⟩) 1 1 := (Option.some.inj hu).symm
      subst h
      exact ⟨.slice (some ⟨e + kap 2 1 1, 0, none⟩) 1 1, by kernel_rfl, .slice 1 0 1 1 1 (by decide)⟩
    | 2, hu =>
      have h : u = .slice (some ⟨e + 2, 0, none⟩) 1 1 := (Option.some.inj hu).symm
      subst h
      exact ⟨.slice (some ⟨e + kap 2 1 2, 0, none⟩) 1 1, by kernel_rfl, .slice 2 0 1 1 1 (by decide)⟩
    | i + 3, hu => exact absurd hu (by intro h; cases h)
  | j + 4, hj => exact absurd hj (by omega)
theorem kept_2_2 : Kept 2 2 := fun e f => by
  refine ⟨fun j hj => ?_, by kernel_rfl, .slice (κ := kap 2 2) 3 0 3 3 3 (by decide)⟩
  match j, hj with
  | 0, _ => exact ⟨⟨((((tab 6 f).drop 0).take 2).map fl).toArray, 28, 1, true⟩, ⟨((((tab 6 f).drop 0).take 2).map fl).toArray, 28, 1, true⟩, by kernel_rfl, by kernel_rfl, rfl, rfl, rfl, rfl, rfl, fun i u hu => ⟨u, hu, .clos (fl_cl hu)⟩⟩
  | 1, _ => exact ⟨⟨((((tab 6 f).drop 2).take 2).map fl).toArray, 28, 1, true⟩, ⟨((((tab 6 f).drop 2).take 2).map fl).toArray, 28, 1, true⟩, by kernel_rfl, by kernel_rfl, rfl, rfl, rfl, rfl, rfl, fun i u hu => ⟨u, hu, .clos (fl_cl hu)⟩⟩
  | 2, _ => exact ⟨⟨((((tab 6 f).drop 4).take 2).map fl).toArray, 28, 1, true⟩, ⟨((((tab 6 f).drop 4).take 2).map fl).toArray, 28, 1, true⟩, by kernel_rfl, by kernel_rfl, rfl, rfl, rfl, rfl, rfl, fun i u hu => ⟨u, hu, .clos (fl_cl hu)⟩⟩
  | 3, _ =>
    refine ⟨⟨(hdrs e 2 2).toArray, 30, 1, true⟩, ⟨(hds2 e 2 2).toArray, 30, 1, true⟩, by kernel_rfl, by kernel_rfl, rfl, rfl, rfl, rfl, rfl, fun i u hu => ?_⟩
    match i, hu with
    | 0, hu =>
      have h : u = .slice (some ⟨e + 0, 0, none⟩) 2 2 := (Option.some.inj hu).symm
      subst h
      exact ⟨.slice (some ⟨e + kap 2 2 0, 0, none⟩) 2 2, by kernel_rfl, .slice 0 0 2 2 2 (by decide)⟩
    | 1, hu =>
      have h : u = .slice (some ⟨e + 1, 0, none⟩) 2 2 := (Option.some.inj hu).symm
      subst h
      exact ⟨.slice (some ⟨e + kap 2 2 1, 0, none⟩) 2 2, by kernel_rfl, .slice 1 0 2 2 2 (by decide)⟩
    | 2, hu =>
      have h : u = .slice (some ⟨e + 2, 0, none⟩) 2 2 := (Option.some.inj hu).symm
      subst h
      exact ⟨.slice (some ⟨e + kap 2 2 2, 0, none⟩) 2 2, by kernel_rfl, .slice 2 0 2 2 2 (by decide)⟩
    | i + 3, hu => exact absurd hu (by intro h; cases h)
  | j + 4, hj => exact absurd hj (by omega)
theorem kept_2_3 : Kept 2 3 := fun e f => by
  refine ⟨fun j hj => ?_, by kernel_rfl, .slice (κ := kap 2 3) 3 0 3 3 3 (by decide)⟩
  match j, hj with
  | 0, _ => exact ⟨⟨((((tab 9 f).drop 0).take 3).map fl).toArray, 28, 1, true⟩, ⟨((((tab 9 f).drop 0).take 3).map fl).toArray, 28, 1, true⟩, by kernel_rfl, by kernel_rfl, rfl, rfl, rfl, rfl, rfl, fun i u hu => ⟨u, hu, .clos (fl_cl hu)⟩⟩
  | 1, _ => exact ⟨⟨((((tab 9 f).drop 3).take 3).map fl).toArray, 28, 1, true⟩, ⟨((((tab 9 f).drop 3).take 3).map fl).toArray, 28, 1, true⟩, by kernel_rfl, by kernel_rfl, rfl, rfl, rfl, rfl, rfl, fun i u hu => ⟨u, hu, .clos (fl_cl hu)⟩⟩
  | 2, _ => exact ⟨⟨((((tab 9 f).drop 6).take 3).map fl).toArray, 28, 1, true⟩, ⟨((((tab 9 f).drop 6).take 3).map fl).toArray, 28, 1, true⟩, by kernel_rfl, by kernel_rfl, rfl, rfl, rfl, rfl, rfl, fun i u hu => ⟨u, hu, .clos (fl_cl hu)⟩⟩
  | 3, _ =>
    refine ⟨⟨(hdrs e 3 2).toArray, 30, 1, true⟩, ⟨(hds2 e 3 2).toArray, 30, 1, true⟩, by kernel_rfl, by kernel_rfl, rfl, rfl, rfl, rfl, rfl, fun i u hu => ?_⟩
    match i, hu with
    | 0, hu =>
      have h : u = .slice (some ⟨e + 0, 0, none⟩) 3 3 := (Option.some.inj hu).symm
      subst h
      exact ⟨.slice (some ⟨e + kap 2 3 0, 0, none⟩) 3 3, by kernel_rfl, .slice 0 0 3 3 3 (by decide)⟩
    | 1, hu =>
      have h : u = .slice (some ⟨e + 1, 0, none⟩) 3 3 := (Option.some.inj hu).symm
      subst h
      exact ⟨.slice (some ⟨e + kap 2 3 1, 0, none⟩) 3 3, by kernel_rfl, .slice 1 0 3 3 3 (by decide)⟩
    | 2, hu =>
      have h : u = .slice (some ⟨e + 2, 0, none⟩) 3 3 := (Option.some.inj hu).symm
      subst h
      exact ⟨.slice (some ⟨e + kap 2 3 2, 0, none⟩) 3 3, by kernel_rfl, .slice 2 0 3 3 3 (by decide)⟩
    | i + 3, hu => exact absurd hu (by intro h; cases h)
  | j + 4, hj => exact absurd hj (by omega)
theorem kept_3_1 : Kept 3 1 := fun e f => by
  refine ⟨fun j hj => ?_, by kernel_rfl, .slice (κ := kap 3 1) 4 0 4 4 4 (by decide)⟩
  match j, hj with
  | 0, _ => exact ⟨⟨((((tab 4 f).drop 0).take 1).map fl).toArray, 28, 1, true⟩, ⟨((((tab 4 f).drop 0).take 1).map fl).toArray, 28, 1, true⟩, by kernel_rfl, by kernel_rfl, rfl, rfl, rfl, rfl, rfl, fun i u hu => ⟨u, hu, .clos (fl_cl hu)⟩⟩
  | 1, _ => exact ⟨⟨((((tab 4 f).drop 1).take 1).map fl).toArray, 28, 1, true⟩, ⟨((((tab 4 f).drop 1).take 1).map fl).toArray, 28, 1, true⟩, by kernel_rfl, by kernel_rfl, rfl, rfl, rfl, rfl, rfl, fun i u hu => ⟨u, hu, .clos (fl_cl hu)⟩⟩
  | 2, _ => exact ⟨⟨((((tab 4 f).drop 2).take 1).map fl).toArray, 28, 1, true⟩, ⟨((((tab 4 f).drop 2).take 1).map fl).toArray, 28, 1, true⟩, by kernel_rfl, by kernel_rfl, rfl, rfl, rfl, rfl, rfl, fun i u hu => ⟨u, hu, .clos (fl_cl hu)⟩⟩
  | 3, _ => exact ⟨⟨((((tab 4 f).drop 3).take 1).map fl).toArray, 28, 1, true⟩, ⟨((((tab 4 f).drop 3).take 1).map fl).toArray, 28, 1, true⟩, by kernel_rfl, by kernel_rfl, rfl, rfl, rfl, rfl, rfl, fun i u hu => ⟨u, hu, .clos (fl_cl hu)⟩⟩
  | 4, _ =>
    refine ⟨⟨(hdrs e 1 3).toArray, 30, 1, true⟩, ⟨(hds2 e 1 3).toArray, 30, 1, true⟩, by kernel_rfl, by kernel_rfl, rfl, rfl, rfl, rfl, rfl, fun i u hu => ?_⟩
    match i, hu with
    | 0, hu =>
      have h : u = .slice (some ⟨e + 0, 0, none⟩) 1 1 := (Option.some.inj hu).symm
      subst h
      exact ⟨.slice (some ⟨e + kap 3 1 0, 0, none⟩) 1 1, by kernel_rfl, .slice 0 0 1 1 1 (by decide)⟩
    | 1, hu =>
      have h : u = .slice (some ⟨e + 1, 0, none⟩) 1 1 := (Option.some.inj hu).symm
      subst h
      exact ⟨.slice (some ⟨e + kap 3 1 1, 0, none⟩) 1 1, by kernel_rfl, .slice 1 0 1 1 1 (by decide)⟩
    | 2, hu =>
      have h : u = .slice (some ⟨e + 2, 0, none⟩) 1 1 := (Option.some.inj hu).symm
      subst h
      exact ⟨.slice (some ⟨e + kap 3 1 2, 0, none⟩) 1 1, by kernel_rfl, .slice 2 0 1 1 1 (by decide)⟩
    | 3, hu =>
      have h : u = .slice (some ⟨e + 3, 0, none⟩) 1 1 := (Option.some.inj hu).symm
      subst h
      exact ⟨.slice (some ⟨e + kap 3 1 3, 0, none⟩) 1 1, by kernel_rfl, .slice 3 0 1 1 1 (by decide)⟩
    | i + 4, hu => exact absurd hu (by intro h; cases h)
  | j + 5, hj => exact absurd hj (by omega)
theorem kept_3_2 : Kept 3 2 := fun e f => by
  refine ⟨fun j hj => ?_, by kernel_rfl, .slice (κ := kap 3 2) 4 0 4 4 4 (by decide)⟩
  match j, hj with
  | 0, _ => exact ⟨⟨((((tab 8 f).drop 0).take 2).map fl).toArray, 28, 1, true⟩, ⟨((((tab 8 f).drop 0).take 2).map fl).toArray, 28, 1, true⟩, by kernel_rfl, by kernel_rfl, rfl, rfl, rfl, rfl, rfl, fun i u hu => ⟨u, hu, .clos (fl_cl hu)⟩⟩
  | 1, _ => exact ⟨⟨((((tab 8 f).drop 2).take 2).map fl).toArray, 28, 1, true⟩, ⟨((((tab 8 f).drop 2).take 2).map fl).toArray, 28, 1, true⟩, by kernel_rfl, by kernel_rfl, rfl, rfl, rfl, rfl, rfl, fun i u hu => ⟨u, hu, .clos (fl_cl hu)⟩⟩
  | 2, _ => exact ⟨⟨((((tab 8 f).drop 4).take 2).map fl).toArray, 28, 1, true⟩, ⟨((((tab 8 f).drop 4).take 2).map fl).toArray, 28, 1, true⟩, by kernel_rfl, by kernel_rfl, rfl, rfl, rfl, rfl, rfl, fun i u hu => ⟨u, hu, .clos (fl_cl hu)⟩⟩
  | 3, _ => exact ⟨⟨((((tab 8 f).drop 6).take 2).map fl).toArray, 28, 1, true⟩, ⟨((((tab 8 f).drop 6).take 2).map fl).toArray, 28, 1, true⟩, by kernel_rfl, by kernel_rfl, rfl, rfl, rfl, rfl, rfl, fun i u hu => ⟨u, hu, .clos (fl_cl hu)⟩⟩
  | 4, _ =>
    refine ⟨⟨(hdrs e 2 3).toArray, 30, 1, true⟩, ⟨(hds2 e 2 3).toArray, 30, 1, true⟩, by kernel_rfl, by kernel_rfl, rfl, rfl, rfl, rfl, rfl, fun i u hu => ?_⟩
    match i, hu with
    | 0, hu =>
      have h : u = .slice (some ⟨e + 0, 0, none⟩) 2 2 := (Option.some.inj hu).symm
      subst h
      exact ⟨.slice (some ⟨e + kap 3 2 0, 0, none⟩) 2 2, by kernel_rfl, .slice 0 0 2 2 2 (by decide)⟩
    | 1, hu =>
      have h : u = .slice (some ⟨e + 1, 0, none⟩) 2 2 := (Option.some.inj hu).symm
      subst h
      exact ⟨.slice (some ⟨e + kap 3 2 1, 0, none⟩) 2 2, by kernel_rfl, .slice 1 0 2 2 2 (by decide)⟩
    | 2, hu =>
      have h : u = .slice (some ⟨e + 2, 0, none⟩) 2 2 := (Option.some.inj hu).symm
      subst h
      exact ⟨.slice (some ⟨e + kap 3 2 2, 0, none⟩) 2 2, by kernel_rfl, .slice 2 0 2 2 2 (by decide)⟩
    | 3, hu =>
      have h : u = .slice (some ⟨e + 3, 0, none⟩) 2 2 := (Option.some.inj hu).symm
      subst h
      exact ⟨.slice (some ⟨e + kap 3 2 3, 0, none⟩) 2 2, by kernel_rfl, .slice 3 0 2 2 2 (by decide)⟩
    | i + 4, hu => exact absurd hu (by intro h; cases h)
  | j + 5, hj => exact absurd hj (by omega)
theorem kept_3_3 : Kept 3 3 := fun e f => by
  refine ⟨fun j hj => ?_, by kernel_rfl, .slice (κ := kap 3 3) 4 0 4 4 4 (by decide)⟩
  match j, hj with
  | 0, _ => exact ⟨⟨((((tab 12 f).drop 0).take 3).map fl).toArray, 28, 1, true⟩, ⟨((((tab 12 f).drop 0).take 3).map fl).toArray, 28, 1, true⟩, by kernel_rfl, by kernel_rfl, rfl, rfl, rfl, rfl, rfl, fun i u hu => ⟨u, hu, .clos (fl_cl hu)⟩⟩
  | 1, _ => exact ⟨⟨((((tab 12 f).drop 3).take 3).map fl).toArray, 28, 1, true⟩, ⟨((((tab 12 f).drop 3).take 3).map fl).toArray, 28, 1, true⟩, by kernel_rfl, by kernel_rfl, rfl, rfl, rfl, rfl, rfl, fun i u hu => ⟨u, hu, .clos (fl_cl hu)⟩⟩
  | 2, _ => exact ⟨⟨((((tab 12 f).drop 6).take 3).map fl).toArray, 28, 1, true⟩, ⟨((((tab 12 f).drop 6).take 3).map fl).toArray, 28, 1, true⟩, by kernel_rfl, by kernel_rfl, rfl, rfl, rfl, rfl, rfl, fun i u hu => ⟨u, hu, .clos (fl_cl hu)⟩⟩
  | 3, _ => exact ⟨⟨((((tab 12 f).drop 9).take 3).map fl).toArray, 28, 1, true⟩, ⟨((((tab 12 f).drop 9).take 3).map fl).toArray, 28, 1, true⟩, by kernel_rfl, by kernel_rfl, rfl, rfl, rfl, rfl, rfl, fun i u hu => ⟨u, hu, .clos (fl_cl hu)⟩⟩
  | 4, _ =>
    refine ⟨⟨(hdrs e 3 3).toArray, 30, 1, true⟩, ⟨(hds2 e 3 3).toArray, 30, 1, true⟩, by kernel_rfl, by kernel_rfl, rfl, rfl, rfl, rfl, rfl, fun i u hu => ?_⟩
    match i, hu with
    | 0, hu =>
      have h : u = .slice (some ⟨e + 0, 0, none⟩) 3 3 := (Option.some.inj hu).symm
      subst h
      exact ⟨.slice (some ⟨e + kap 3 3 0, 0, none⟩) 3 3, by kernel_rfl, .slice 0 0 3 3 3 (by decide)⟩
    | 1, hu =>
      have h : u = .slice (some ⟨e + 1, 0, none⟩) 3 3 := (Option.some.inj hu).symm
      subst h
      exact ⟨.slice (some ⟨e + kap 3 3 1, 0, none⟩) 3 3, by kernel_rfl, .slice 1 0 3 3 3 (by decide)⟩
    | 2, hu =>
      have h : u = .slice (some ⟨e + 2, 0, none⟩) 3 3 := (Option.some.inj hu).symm
      subst h
      exact ⟨.slice (some ⟨e + kap 3 3 2, 0, none⟩) 3 3, by kernel_rfl, .slice 2 0 3 3 3 (by decide)⟩
    | 3, hu =>
      have h : u = .slice (some ⟨e + 3, 0, none⟩) 3 3 := (Option.some.inj hu).symm
      subst h
      exact ⟨.slice (some ⟨e + kap 3 3 3, 0, none⟩) 3 3, by kernel_rfl, .slice 3 0 3 3 3 (by decide)⟩
    | i + 4, hu => exact absurd hu (by intro h; cases h)
  | j + 5, hj => exact absurd hj (by omega)
theorem kept_4_1 : Kept 4 1 := fun e f => by
  refine ⟨fun j hj => ?_, by kernel_rfl, .slice (κ := kap 4 1) 5 0 5 5 5 (by decide)⟩
  match j, hj with
  | 0, _ => exact ⟨⟨((((tab 5 f).drop 0).take 1).map fl).toArray, 28, 1, true⟩, ⟨((((tab 5 f).drop 0).take 1).map fl).toArray, 28, 1, true⟩, by kernel_rfl, by kernel_rfl, rfl, rfl, rfl, rfl, rfl, fun i u hu => ⟨u, hu, .clos (fl_cl hu)⟩⟩
  | 1, _ => exact ⟨⟨((((tab 5 f).drop 1).take 1).map fl).toArray, 28, 1, true⟩, ⟨((((tab 5 f).drop 1).take 1).map fl).toArray, 28, 1, true⟩, by kernel_rfl, by kernel_rfl, rfl, rfl, rfl, rfl, rfl, fun i u hu => ⟨u, hu, .clos (fl_cl hu)⟩⟩
  | 2, _ => exact ⟨⟨((((tab 5 f).drop 2).take 1).map fl).toArray, 28, 1, true⟩, ⟨((((tab 5 f).drop 2).take 1).map fl).toArray, 28, 1, true⟩, by kernel_rfl, by kernel_rfl, rfl, rfl, rfl, rfl, rfl, fun i u hu => ⟨u, hu, .clos (fl_cl hu)⟩⟩
  | 3, _ => exact ⟨⟨((((tab 5 f).drop 3).take 1).map fl).toArray, 28, 1, true⟩, ⟨((((tab 5 f).drop 3).take 1).map fl).toArray, 28, 1, true⟩, by kernel_rfl, by kernel_rfl, rfl, rfl, rfl, rfl, rfl, fun i u hu => ⟨u, hu, .clos (fl_cl hu)⟩⟩
  | 4, _ => exact ⟨⟨((((tab 5 f).drop 4).take 1).map fl).toArray, 28, 1, true⟩, ⟨((((tab 5 f).drop 4).take 1).map fl).toArray, 28, 1, true⟩, by kernel_rfl, by kernel_rfl, rfl, rfl, rfl, rfl, rfl, fun i u hu => ⟨u, hu, .clos (fl_cl hu)⟩⟩
  | 5, _ =>
    refine ⟨⟨(hdrs e 1 4).toArray, 30, 1, true⟩, ⟨(hds2 e 1 4).toArray, 30, 1, true⟩, by kernel_rfl, by kernel_rfl, rfl, rfl, rfl, rfl, rfl, fun i u hu => ?_⟩
    match i, hu with
    | 0, hu =>
      have h : u = .slice (some ⟨e + 0, 0, none⟩) 1 1 := (Option.some.inj hu).symm
      subst h
      exact ⟨.slice (some ⟨e + kap 4 1 0, 0, none⟩) 1 1, by kernel_rfl, .slice 0 0 1 1 1 (by decide)⟩
    | 1, hu =>
      have h : u = .slice (some ⟨e + 1, 0, none⟩) 1 1 := (Option.some.inj hu).symm
      subst h
      exact ⟨.slice (some ⟨e + kap 4 1 1, 0, none⟩) 1 1, by kernel_rfl, .slice 1 0 1 1 1 (by decide)⟩
    | 2, hu =>
      have h : u = .slice (some ⟨e + 2, 0, none⟩) 1 1 := (Option.some.inj hu).symm
      subst h
      exact ⟨.slice (some ⟨e + kap 4 1 2, 0, none⟩) 1 1, by kernel_rfl, .slice 2 0 1 1 1 (by decide)⟩
    | 3, hu =>
      have h : u = .slice (some ⟨e + 3, 0, none⟩) 1 1 := (Option.some.inj hu).symm
      subst h
      exact ⟨.slice (some ⟨e + kap 4 1 3, 0, none⟩) 1 1, by kernel_rfl, .slice 3 0 1 1 1 (by decide)⟩
    | 4, hu =>
      have h : u = .slice (some ⟨e + 4, 0, none⟩) 1 1 := (Option.some.inj hu).symm
      subst h
      exact ⟨.slice (some ⟨e + kap 4 1 4, 0, none⟩) 1 1, by kernel_rfl, .slice 4 0 1 1 1 (by decide)⟩
    | i + 5, hu => exact absurd hu (by intro h; cases h)
  | j + 6, hj => exact absurd hj (by omega)
theorem kept_4_2 : Kept 4 2 := fun e f => by
  refine ⟨fun j hj => ?_, by kernel_rfl, .slice (κ := kap 4 2) 5 0 5 5 5 (by decide)⟩
  match j, hj with
  | 0, _ => exact ⟨⟨((((tab 10 f).drop 0).take 2).map fl).toArray, 28, 1, true⟩, ⟨((((tab 10 f).drop 0).take 2).map fl).toArray, 28, 1, true⟩, by kernel_rfl, by kernel_rfl, rfl, rfl, rfl, rfl, rfl, fun i u hu => ⟨u, hu, .clos (fl_cl hu)⟩⟩
  | 1, _ => exact ⟨⟨((((tab 10 f).drop 2).take 2).map fl).toArray, 28, 1, true⟩, ⟨((((tab 10 f).drop 2).take 2).map fl).toArray, 28, 1, true⟩, by kernel_rfl, by kernel_rfl, rfl, rfl, rfl, rfl, rfl, fun i u hu => ⟨u, hu, .clos (fl_cl hu)⟩⟩
  | 2, _ => exact ⟨⟨((((tab 10 f).drop 4).take 2).map fl).toArray, 28, 1, true⟩, ⟨((((tab 10 f).drop 4).take 2).map fl).toArray, 28, 1, true⟩, by kernel_rfl, by kernel_rfl, rfl, rfl, rfl, rfl, rfl, fun i u hu => ⟨u, hu, .clos (fl_cl hu)⟩⟩
  | 3, _ => exact ⟨⟨((((tab 10 f).drop 6).take 2).map fl).toArray, 28, 1, true⟩, ⟨((((tab 10 f).drop 6).take 2).map fl).toArray, 28, 1, true⟩, by kernel_rfl, by kernel_rfl, rfl, rfl, rfl, rfl, rfl, fun i u hu => ⟨u, hu, .clos (fl_cl hu)⟩⟩
  | 4, _ => exact ⟨⟨((((tab 10 f).drop 8).take 2).map fl).toArray, 28, 1, true⟩, ⟨((((tab 10 f).drop 8).take 2).map fl).toArray, 28, 1, true⟩, by kernel_rfl, by kernel_rfl, rfl, rfl, rfl, rfl, rfl, fun i u hu => ⟨u, hu, .clos (fl_cl hu)⟩⟩
  | 5, _ =>
    refine ⟨⟨(hdrs e 2 4).toArray, 30, 1, true⟩, ⟨(hds2 e 2 4).toArray, 30, 1, true⟩, by kernel_rfl, by kernel_rfl, rfl, rfl, rfl, rfl, rfl, fun i u hu => ?_⟩
    match i, hu with
    | 0, hu =>
      have h : u = .slice (some ⟨e + 0, 0, none⟩) 2 2 := (Option.some.inj hu).symm
      subst h
      exact ⟨.slice (some ⟨e + kap 4 2 0, 0, none⟩) 2 2, by kernel_rfl, .slice 0 0 2 2 2 (by decide)⟩
    | 1, hu =>
      have h : u = .slice (some ⟨e + 1, 0, none⟩) 2 2 := (Option.some.inj hu).symm
      subst h
      exact ⟨.slice (some ⟨e + kap 4 2 1, 0, none⟩) 2 2, by kernel_rfl, .slice 1 0 2 2 2 (by decide)⟩
    | 2, hu =>
      have h : u = .slice (some ⟨e + 2, 0, none⟩) 2 2 := (Option.some.inj hu).symm
      subst h
      exact ⟨.slice (some ⟨e + kap 4 2 2, 0, none⟩) 2 2, by kernel_rfl, .slice 2 0 2 2 2 (by decide)⟩
    | 3, hu =>
      have h : u = .slice (some ⟨e + 3, 0, none⟩) 2 2 := (Option.some.inj hu).symm
      subst h
      exact ⟨.slice (some ⟨e + kap 4 2 3, 0, none⟩) 2 2, by kernel_rfl, .slice 3 0 2 2 2 (by decide)⟩
    | 4, hu =>
      have h : u = .slice (some ⟨e + 4, 0, none⟩) 2 2 := (Option.some.inj hu).symm
      subst h
      exact ⟨.slice (some ⟨e + kap 4 2 4, 0, none⟩) 2 2, by kernel_rfl, .slice 4 0 2 2 2 (by decide)⟩
    | i + 5, hu => exact absurd hu (by intro h; cases h)
  | j + 6, hj => exact absurd hj (by omega)
theorem kept_4_3 : Kept 4 3 := fun e f => by
  refine ⟨fun j hj => ?_, by kernel_rfl, .slice (κ := kap 4 3) 5 0 5 5 5 (by decide)⟩
  match j, hj with
  | 0, _ => exact ⟨⟨((((tab 15 f).drop 0).take 3).map fl).toArray, 28, 1, true⟩, ⟨((((tab 15 f).drop 0).take 3).map fl).toArray, 28, 1, true⟩, by kernel_rfl, by kernel_rfl, rfl, rfl, rfl, rfl, rfl, fun i u hu => ⟨u, hu, .clos (fl_cl hu)⟩⟩
  | 1, _ => exact ⟨⟨((((tab 15 f).drop 3).take 3).map fl).toArray, 28, 1, true⟩, ⟨((((tab 15 f).drop 3).take 3).map fl).toArray, 28, 1, true⟩, by kernel_rfl, by kernel_rfl, rfl, rfl, rfl, rfl, rfl, fun i u hu => ⟨u, hu, .clos (fl_cl hu)⟩⟩
  | 2, _ => exact ⟨⟨((((tab 15 f).drop 6).take 3).map fl).toArray, 28, 1, true⟩, ⟨((((tab 15 f).drop 6).take 3).map fl).toArray, 28, 1, true⟩, by kernel_rfl, by kernel_rfl, rfl, rfl, rfl, rfl, rfl, fun i u hu => ⟨u, hu, .clos (fl_cl hu)⟩⟩
  | 3, _ => exact ⟨⟨((((tab 15 f).drop 9).take 3).map fl).toArray, 28, 1, true⟩, ⟨((((tab 15 f).drop 9).take 3).map fl).toArray, 28, 1, true⟩, by kernel_rfl, by kernel_rfl, rfl, rfl, rfl, rfl, rfl, fun i u hu => ⟨u, hu, .clos (fl_cl hu)⟩⟩
  | 4, _ => exact ⟨⟨((((tab 15 f).drop 12).take 3).map fl).toArray, 28, 1, true⟩, ⟨((((tab 15 f).drop 12).take 3).map fl).toArray, 28, 1, true⟩, by kernel_rfl, by kernel_rfl, rfl, rfl, rfl, rfl, rfl, fun i u hu => ⟨u, hu, .clos (fl_cl hu)⟩⟩
  | 5, _ =>
    refine ⟨⟨(hdrs e 3 4).toArray, 30, 1, true⟩, ⟨(hds2 e 3 4).toArray, 30, 1, true⟩, by kernel_rfl, by kernel_rfl, rfl, rfl, rfl, rfl, rfl, fun i u hu => ?_⟩
    match i, hu with
    | 0, hu =>
      have h : u = .slice (some ⟨e + 0, 0, none⟩) 3 3 := (Option.some.inj hu).symm
      subst h
      exact ⟨.slice (some ⟨e + kap 4 3 0, 0, none⟩) 3 3, by kernel_rfl, .slice 0 0 3 3 3 (by decide)⟩
    | 1, hu =>
      have h : u = .slice (some ⟨e + 1, 0, none⟩) 3 3 := (Option.some.inj hu).symm
      subst h
      exact ⟨.slice (some ⟨e + kap 4 3 1, 0, none⟩) 3 3, by kernel_rfl, .slice 1 0 3 3 3 (by decide)⟩
    | 2, hu =>
      have h : u = .slice (some ⟨e + 2, 0, none⟩) 3 3 := (Option.some.inj hu).symm
      subst h
      exact ⟨.slice (some ⟨e + kap 4 3 2, 0, none⟩) 3 3, by kernel_rfl, .slice 2 0 3 3 3 (by decide)⟩
    | 3, hu =>
      have h : u = .slice (some ⟨e + 3, 0, none⟩) 3 3 := (Option.some.inj hu).symm
      subst h
      exact ⟨.slice (some ⟨e + kap 4 3 3, 0, none⟩) 3 3, by kernel_rfl, .slice 3 0 3 3 3 (by decide)⟩
    | 4, hu =>
      have h : u = .slice (some ⟨e + 4, 0, none⟩) 3 3 := (Option.some.inj hu).symm
      subst h
      exact ⟨.slice (some ⟨e + kap 4 3 4, 0, none⟩) 3 3, by kernel_rfl, .slice 4 0 3 3 3 (by decide)⟩
    | i + 5, hu => exact absurd hu (by intro h; cases h)
  | j + 6, hj => exact absurd hj (by omega)
theorem kept_5_1 : Kept 5 1 := fun e f => by
  refine ⟨fun j hj => ?_, by kernel_rfl, .slice (κ := kap 5 1) 6 0 6 6 6 (by decide)⟩
  match j, hj with
  | 0, _ => exact ⟨⟨((((tab 6 f).drop 0).take 1).map fl).toArray, 28, 1, true⟩, ⟨((((tab 6 f).drop 0).take 1).map fl).toArray, 28, 1, true⟩, by kernel_rfl, by kernel_rfl, rfl, rfl, rfl, rfl, rfl, fun i u hu => ⟨u, hu, .clos (fl_cl hu)⟩⟩
  | 1, _ => exact ⟨⟨((((tab 6 f).drop 1).take 1).map fl).toArray, 28, 1, true⟩, ⟨((((tab 6 f).drop 1).take 1).map fl).toArray, 28, 1, true⟩, by kernel_rfl, by kernel_rfl, rfl, rfl, rfl, rfl, rfl, fun i u hu => ⟨u, hu, .clos (fl_cl hu)⟩⟩
  | 2, _ => exact ⟨⟨((((tab 6 f).drop 2).take 1).map fl).toArray, 28, 1, true⟩, ⟨((((tab 6 f).drop 2).take 1).map fl).toArray, 28, 1, true⟩, by kernel_rfl, by kernel_rfl, rfl, rfl, rfl, rfl, rfl, fun i u hu => ⟨u, hu, .clos (fl_cl hu)⟩⟩
  | 3, _ => exact ⟨⟨((((tab 6 f).drop 3).take 1).map fl).toArray, 28, 1, true⟩, ⟨((((tab 6 f).drop 3).take 1).map fl).toArray, 28, 1, true⟩, by kernel_rfl, by kernel_rfl, rfl, rfl, rfl, rfl, rfl, fun i u hu => ⟨u, hu, .clos (fl_cl hu)⟩⟩
  | 4, _ => exact ⟨⟨((((tab 6 f).drop 4).take 1).map fl).toArray, 28, 1, true⟩, ⟨((((tab 6 f).drop 4).take 1).map fl).toArray, 28, 1, true⟩, by kernel_rfl, by kernel_rfl, rfl, rfl, rfl, rfl, rfl, fun i u hu => ⟨u, hu, .clos (fl_cl hu)⟩⟩
  | 5, _ => exact ⟨⟨((((tab 6 f).drop 5).take 1).map fl).toArray, 28, 1, true⟩, ⟨((((tab 6 f).drop 5).take 1).map fl).toArray, 28, 1, true⟩, by kernel_rfl, by kernel_rfl, rfl, rfl, rfl, rfl, rfl, fun i u hu => ⟨u, hu, .clos (fl_cl hu)⟩⟩
  | 6, _ =>
    refine ⟨⟨(hdrs e 1 5).toArray, 30, 1, true⟩, ⟨(hds2 e 1 5).toArray, 30, 1, true⟩, by kernel_rfl, by kernel_rfl, rfl, rfl, rfl, rfl, rfl, fun i u hu => ?_⟩
    match i, hu with
    | 0, hu =>
      have h : u = .slice (some ⟨e + 0, 0, none⟩) 1 1 := (Option.some.inj hu).symm
      subst h
      exact ⟨.slice (some ⟨e + kap 5 1 0, 0, none⟩) 1 1, by kernel_rfl, .slice 0 0 1 1 1 (by decide)⟩
    | 1, hu =>
      have h : u = .slice (some ⟨e + 1, 0, none⟩) 1 1 := (Option.some.inj hu).symm
      subst h
      exact ⟨.slice (some ⟨e + kap 5 1 1, 0, none⟩) 1 1, by kernel_rfl, .slice 1 0 1 1 1 (by decide)⟩
    | 2, hu =>
      have h : u = .slice (some ⟨e + 2, 0, none⟩) 1 1 := (Option.some.inj hu).symm
      subst h
      exact ⟨.slice (some ⟨e + kap 5 1 2, 0, none⟩) 1 1, by kernel_rfl, .slice 2 0 1 1 1 (by decide)⟩
    | 3, hu =>
      have h : u = .slice (some ⟨e + 3, 0, none⟩) 1 1 := (Option.some.inj hu).symm
      subst h
      exact ⟨.slice (some ⟨e + kap 5 1 3, 0, none⟩) 1 1, by kernel_rfl, .slice 3 0 1 1 1 (by decide)⟩
    | 4, hu =>
      have h : u = .slice (some ⟨e + 4, 0, none⟩) 1 1 := (Option.some.inj hu).symm
      subst h
      exact ⟨.slice (some ⟨e + kap 5 1 4, 0, none⟩) 1 1, by kernel_rfl, .slice 4 0 1 1 1 (by decide)⟩
    | 5, hu =>
      have h : u = .slice (some ⟨e + 5, 0, none⟩) 1 1 := (Option.some.inj hu).symm
      subst h
      exact ⟨.slice (some ⟨e + kap 5 1 5, 0, none⟩) 1 1, by kernel_rfl, .slice 5 0 1 1 1 (by decide)⟩
    | i + 6, hu => exact absurd hu (by intro h; cases h)
  | j + 7, hj => exact absurd hj (by omega)
theorem kept_5_2 : Kept 5 2 := fun e f => by
  refine ⟨fun j hj => ?_, by kernel_rfl, .slice (κ := kap 5 2) 6 0 6 6 6 (by decide)⟩
  match j, hj with
  | 0, _ => exact ⟨⟨((((tab 12 f).drop 0).take 2).map fl).toArray, 28, 1, true⟩, ⟨((((tab 12 f).drop 0).take 2).map fl).toArray, 28, 1, true⟩, by kernel_rfl, by kernel_rfl, rfl, rfl, rfl, rfl, rfl, fun i u hu => ⟨u, hu, .clos (fl_cl hu)⟩⟩
  | 1, _ => exact ⟨⟨((((tab 12 f).drop 2).take 2).map fl).toArray, 28, 1, true⟩, ⟨((((tab 12 f).drop 2).take 2).map fl).toArray, 28, 1, true⟩, by kernel_rfl, by kernel_rfl, rfl, rfl, rfl, rfl, rfl, fun i u hu => ⟨u, hu, .clos (fl_cl hu)⟩⟩
  | 2, _ => exact ⟨⟨((((tab 12 f).drop 4).take 2).map fl).toArray, 28, 1, true⟩, ⟨((((tab 12 f).drop 4).take 2).map fl).toArray, 28, 1, true⟩, by kernel_rfl, by kernel_rfl, rfl, rfl, rfl, rfl, rfl, fun i u hu => ⟨u, hu, .clos (fl_cl hu)⟩⟩
  | 3, _ => exact ⟨⟨((((tab 12 f).drop 6).take 2).map fl).toArray, 28, 1, true⟩, ⟨((((tab 12 f).drop 6).take 2).map fl).toArray, 28, 1, true⟩, by kernel_rfl, by kernel_rfl, rfl, rfl, rfl, rfl, rfl, fun i u hu => ⟨u, hu, .clos (fl_cl hu)⟩⟩
  | 4, _ => exact ⟨⟨((((tab 12 f).drop 8).take 2).map fl).toArray, 28, 1, true⟩, ⟨((((tab 12 f).drop 8).take 2).map fl).toArray, 28, 1, true⟩, by kernel_rfl, by kernel_rfl, rfl, rfl, rfl, rfl, rfl, fun i u hu => ⟨u, hu, .clos (fl_cl hu)⟩⟩
  | 5, _ => exact ⟨⟨((((tab 12 f).drop 10).take 2).map fl).toArray, 28, 1, true⟩, ⟨((((tab 12 f).drop 10).take 2).map fl).toArray, 28, 1, true⟩, by kernel_rfl, by kernel_rfl, rfl, rfl, rfl, rfl, rfl, fun i u hu => ⟨u, hu, .clos (fl_cl hu)⟩⟩
  | 6, _ =>
    refine ⟨⟨(hdrs e 2 5).toArray, 30, 1, true⟩, ⟨(hds2 e 2 5).toArray, 30, 1, true⟩, by kernel_rfl, by kernel_rfl, rfl, rfl, rfl, rfl, rfl, fun i u hu => ?_⟩
    match i, hu with
    | 0, hu =>
      have h : u = .slice (some ⟨e + 0, 0, none⟩) 2 2 := (Option.some.inj hu).symm
      subst h
      exact ⟨.slice (some ⟨e + kap 5 2 0, 0, none⟩) 2 2, by kernel_rfl, .slice 0 0 2 2 2 (by decide)⟩
    | 1, hu =>
      have h : u = .slice (some ⟨e + 1, 0, none⟩) 2 2 := (Option.some.inj hu).symm
      subst h
      exact ⟨.slice (some ⟨e + kap 5 2 1, 0, none⟩) 2 2, by kernel_rfl, .slice 1 0 2 2 2 (by decide)⟩
    | 2, hu =>
      have h : u = .slice (some ⟨e + 2, 0, none⟩) 2 2 := (Option.some.inj hu).symm
      subst h
      exact ⟨.slice (some ⟨e + kap 5 2 2, 0, none⟩) 2 2, by kernel_rfl, .slice 2 0 2 2 2 (by decide)⟩
    | 3, hu =>
      have h : u = .slice (some ⟨e + 3, 0, none⟩) 2 2 := (Option.some.inj hu).symm
      subst h
      exact ⟨.slice (some ⟨e + kap 5 2 3, 0, none⟩) 2 2, by kernel_rfl, .slice 3 0 2 2 2 (by decide)⟩
    | 4, hu =>
      have h : u = .slice (some ⟨e + 4, 0, none⟩) 2 2 := (Option.some.inj hu).symm
      subst h
      exact ⟨.slice (some ⟨e + kap 5 2 4, 0, none⟩) 2 2, by kernel_rfl, .slice 4 0 2 2 2 (by decide)⟩
    | 5, hu =>
      have h : u = .slice (some ⟨e + 5, 0, none⟩) 2 2 := (Option.some.inj hu).symm
      subst h
      exact ⟨.slice (some ⟨e + kap 5 2 5, 0, none⟩) 2 2, by kernel_rfl, .slice 5 0 2 2 2 (by decide)⟩
    | i + 6, hu => exact absurd hu (by intro h; cases h)
  | j + 7, hj => exact absurd hj (by omega)
theorem kept_5_3 : Kept 5 3 := fun e f => by
  refine ⟨fun j hj => ?_, by kernel_rfl, .slice (κ := kap 5 3) 6 0 6 6 6 (by decide)⟩
  match j, hj with
  | 0, _ => exact ⟨⟨((((tab 18 f).drop 0).take 3).map fl).toArray, 28, 1, true⟩, ⟨((((tab 18 f).drop 0).take 3).map fl).toArray, 28, 1, true⟩, by kernel_rfl, by kernel_rfl, rfl, rfl, rfl, rfl, rfl, fun i u hu => ⟨u, hu, .clos (fl_cl hu)⟩⟩
  | 1, _ => exact ⟨⟨((((tab 18 f).drop 3).take 3).map fl).toArray, 28, 1, true⟩, ⟨((((tab 18 f).drop 3).take 3).map fl).toArray, 28, 1, true⟩, by kernel_rfl, by kernel_rfl, rfl, rfl, rfl, rfl, rfl, fun i u hu => ⟨u, hu, .clos (fl_cl hu)⟩⟩
  | 2, _ => exact ⟨⟨((((tab 18 f).drop 6).take 3).map fl).toArray, 28, 1, true⟩, ⟨((((tab 18 f).drop 6).take 3).map fl).toArray, 28, 1, true⟩, by kernel_rfl, by kernel_rfl, rfl, rfl, rfl, rfl, rfl, fun i u hu => ⟨u, hu, .clos (fl_cl hu)⟩⟩
  | 3, _ => exact ⟨⟨((((tab 18 f).drop 9).take 3).map fl).toArray, 28, 1, true⟩, ⟨((((tab 18 f).drop 9).take 3).map fl).toArray, 28, 1, true⟩, by kernel_rfl, by kernel_rfl, rfl, rfl, rfl, rfl, rfl, fun i u hu => ⟨u, hu, .clos (fl_cl hu)⟩⟩
  | 4, _ => exact ⟨⟨((((tab 18 f).drop 12).take 3).map fl).toArray, 28, 1, true⟩, ⟨((((tab 18 f).drop 12).take 3).map fl).toArray, 28, 1, true⟩, by kernel_rfl, by kernel_rfl, rfl, rfl, rfl, rfl, rfl, fun i u hu => ⟨u, hu, .clos (fl_cl hu)⟩⟩
  | 5, _ => exact ⟨⟨((((tab 18 f).drop 15).take 3).map fl).toArray, 28, 1, true⟩, ⟨((((tab 18 f).drop 15).take 3).map fl).toArray, 28, 1, true⟩, by kernel_rfl, by kernel_rfl, rfl, rfl, rfl, rfl, rfl, fun i u hu => ⟨u, hu, .clos (fl_cl hu)⟩⟩
  | 6, _ =>
    refine ⟨⟨(hdrs e 3 5).toArray, 30, 1, true⟩, ⟨(hds2 e 3 5).toArray, 30, 1, true⟩, by kernel_rfl, by kernel_rfl, rfl, rfl, rfl, rfl, rfl, fun i u hu => ?_⟩
    match i, hu with
    | 0, hu =>
      have h : u = .slice (some ⟨e + 0, 0, none⟩) 3 3 := (Option.some.inj hu).symm
      subst h
      exact ⟨.slice (some ⟨e + kap 5 3 0, 0, none⟩) 3 3, by kernel_rfl, .slice 0 0 3 3 3 (by decide)⟩
    | 1, hu =>
      have h : u = .slice (some ⟨e + 1, 0, none⟩) 3 3 := (Option.some.inj hu).symm
      subst h
      exact ⟨.slice (some ⟨e + kap 5 3 1, 0, none⟩) 3 3, by kernel_rfl, .slice 1 0 3 3 3 (by decide)⟩
    | 2, hu =>
      have h : u = .slice (some ⟨e + 2, 0, none⟩) 3 3 := (Option.some.inj hu).symm
      subst h
      exact ⟨.slice (some ⟨e + kap 5 3 2, 0, none⟩) 3 3, by kernel_rfl, .slice 2 0 3 3 3 (by decide)⟩
    | 3, hu =>
      have h : u = .slice (some ⟨e + 3, 0, none⟩) 3 3 := (Option.some.inj hu).symm
      subst h
      exact ⟨.slice (some ⟨e + kap 5 3 3, 0, none⟩) 3 3, by kernel_rfl, .slice 3 0 3 3 3 (by decide)⟩
    | 4, hu =>
      have h : u = .slice (some ⟨e + 4, 0, none⟩) 3 3 := (Option.some.inj hu).symm
      subst h
      exact ⟨.slice (some ⟨e + kap 5 3 4, 0, none⟩) 3 3, by kernel_rfl, .slice 4 0 3 3 3 (by decide)⟩
    | 5, hu =>
      have h : u = .slice (some ⟨e + 5, 0, none⟩) 3 3 := (Option.some.inj hu).symm
      subst h
      exact ⟨.slice (some ⟨e + kap 5 3 5, 0, none⟩) 3 3, by kernel_rfl, .slice 5 0 3 3 3 (by decide)⟩
    | i + 6, hu => exact absurd hu (by intro h; cases h)
  | j + 7, hj => exact absurd hj (by omega)

end Go.Proofs.Ytclphdmaedpipaa
