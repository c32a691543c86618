/- The law NordSums at one shape; and two slices of ints that are handed in. -/
import Derived.Test.YtclphdmaedpipaaNordSums
namespace Go.Proofs.Ytclphdmaedpipaa
open Go
open Go.RowKit
set_option linter.unusedVariables false
set_option maxRecDepth 100000

theorem elBs_len (k : Nat) (row : List Int) : ∀ (i : Nat) (rs : List Int), (elBs k row i rs).length = 2 * rs.length
  | _, [] => rfl
  | i, r :: rs => by
    simp only [elBs, List.length_cons, elBs_len k row (i + 1) rs]
    omega
theorem makeBs_len (base q k : Nat) : ∀ (n j : Nat) (rs : List Int), rs.length = n * k → (makeBs base q k n j rs).length = n * (2 * k + 2)
  | 0, _, _, _ => by simp [makeBs]
  | n + 1, j, rs, h => by
    have e : (n + 1) * k = n * k + k := Nat.succ_mul n k
    have e2 : (n + 1) * (2 * k + 2) = n * (2 * k + 2) + (2 * k + 2) := Nat.succ_mul n _
    simp only [makeBs, rowBs, List.length_append, elBs_len, List.length_take, List.length_cons, List.length_nil]
    rw [makeBs_len base q k n (j + 1) _ (by rw [List.length_drop]; omega)]
    omega
theorem zBs_len {base q k : Nat} {rs : List Int} (h : rs.length = (q + 1) * k) : (zBs base q k rs).length = perMake q k := makeBs_len base q k (q + 1) 0 rs h

theorem grown_size {H : AHeap} {e q k : Nat} {rs : List Int} (h : rs.length = (q + 1) * k) : (grown H e q k rs).size = H.size + perMake q k := by
  unfold grown
  rw [thaw_size (by simp [froze])]
  simp [froze, zBs_len h]

theorem Handed.grown {H : AHeap} {zs : List Int} {v : Value} (h : Handed H zs v) (e q k : Nat) (rs : List Int) : Handed (grown H e q k rs) zs v := by
  rcases h with h | ⟨b, B, h1, h2, h3, h4⟩
  · exact .inl h
  · refine .inr ⟨b, B, h1, h2, ?_, h4⟩
    unfold Go.Proofs.Ytclphdmaedpipaa.grown
    rw [thaw_get (by simp [Go.Proofs.Ytclphdmaedpipaa.froze]), if_pos (Array.getElem?_eq_some_iff.1 h3).1]
    exact h3

theorem sumObls_ok {q k : Nat} (hq : q ≤ 5) {ra rb : List Int} (ha : ∀ r ∈ ra, 0 ≤ r ∧ r ≤ 200) (hb : ∀ r ∈ rb, 0 ≤ r ∧ r ≤ 200) {t : Nat} {x : Int} (ht : IsZ t x) (hx : x.natAbs ≤ 5) :
    ∀ ps : List (Nat × Nat), (∀ p ∈ ps, p.1 ≤ q) → okAll Try.prog (sumObls q k t ra rb ps)
  | [], _ => trivial
  | (j, i) :: ps, h => by
    have hj : j ≤ q := h (j, i) (by simp)
    have hp := pow6 hq
    have hp' := pow6' hq
    have la := colF_len q k i ra
    have lb := colF_len q k i rb
    have La := colI_len q k i ra
    have Lb := colI_len q k i rb
    have ca := col_ok ha q k i
    have cb := col_ok hb q k i
    have cc := ColZ.addC (by decide) ca cb (by rw [la, lb])
    have lc : (addF (colF q k ra i) (colF q k rb i)).length = q + 1 := by rw [addF_len (by rw [la, lb]), la]
    have pa := (predL_col q ca (by omega) (by omega)).getZ j (by rw [predL_length, la]; omega)
    have pb := (predL_col q cb (by omega) (by omega)).getZ j (by rw [predL_length, lb]; omega)
    have pc := (predL_col q cc (by omega) (by omega)).getZ j (by rw [predL_length, lc]; omega)
    have e1 := predZ_add q (colI q k ra i) (colI q k rb i) (by rw [La, Lb])
    have e2 := addZ_getD (predZ q (colI q k ra i)) (predZ q (colI q k rb i)) j (by rw [predZ_len, predZ_len, La, Lb])
    rw [e1, e2] at pc
    have ne : ∀ {l : List Nat}, l.length = q + 1 → l ≠ [] := fun hl he => by rw [he] at hl; simp at hl
    have ua := atL_isZ ht hx ca (ne la) (by rw [la]; omega)
    have ub := atL_isZ ht hx cb (ne lb) (by rw [lb]; omega)
    have uc := (atL_isZ ht hx cc (ne lc) (by rw [lc]; omega)).1
    rw [la] at ua
    rw [lb] at ub
    rw [atZ_add x (colI q k ra i) (colI q k rb i) (by rw [La, Lb])] at uc
    exact ⟨neq_ok pc.1 (pa.1.add pb.1 (by omega)), neq_ok uc (ua.1.add ub.1 (by omega)), sumObls_ok hq ha hb ht hx ps fun p hp => h p (by simp [hp])⟩

theorem sums_at {q k : Nat} (hq : q ≤ 5) (hk : 0 < k) {zs us : List Int} (hmz : MakeOK q k zs) (hmu : MakeOK q k us) {H : AHeap} {va vb : Value} (hva : Handed H zs va) (hvb : Handed H us vb) (hr : SumsRun q k H)
    (order n s : Int) (ho : order % Int.ofNat (4 + 1) = Int.ofNat (q - 1)) (hn : n % Int.ofNat (2 + 1) = Int.ofNat (k - 1)) :
    Tells 4 #[.int .i64 order, .int .i64 n, va, vb, .int .i64 s] H (.bool true) := by
  obtain ⟨ra, la, ba, runA⟩ := make_else hk hmz hva.froze n hn
  rw [froze_size] at runA
  have s1 := grown_size (H := H) (e := H.size) la
  obtain ⟨rb, lb, bb, runB⟩ := make_else hk hmu (hvb.grown H.size q k ra).froze n hn
  rw [froze_size, s1] at runB
  have s2 := grown_size (H := grown H H.size q k ra) (e := H.size + perMake q k) lb
  rw [s1] at s2
  obtain ⟨rc, lc, bc, runC⟩ := make_else hk hmz ((hva.grown H.size q k ra).grown (H.size + perMake q k) q k rb).froze n hn
  rw [froze_size, s2] at runC
  have h := hr order n s va vb (fun i => ra.getD i 0) (fun i => rb.getD i 0) (fun i => rc.getD i 0)
  rw [tab_eq la, tab_eq lb, tab_eq lc] at h
  have h1 := Int.emod_nonneg s (b := 9) (by decide)
  have h2 := Int.emod_lt_of_pos s (b := 9) (by decide)
  refine tells_of h ⟨nord_known, ?_, runA, runB, runC, within8 s 8 (by decide), sumObls_ok hq ba bb (pX_isZ s) (by omega) _ ?_⟩
  · have := within8 order 4 (by decide)
    rw [ho] at this
    exact this
  · intro p hp
    simp only [placesP, List.mem_flatten, List.mem_map, List.mem_range] at hp
    obtain ⟨l, ⟨j, hj, rfl⟩, hp⟩ := hp
    simp only [List.mem_map] at hp
    obtain ⟨i, _, rfl⟩ := hp
    exact Nat.le_of_lt_succ hj

end Go.Proofs.Ytclphdmaedpipaa
