/- Pages that came: their slices' lengths by the form's own reach. -/
import Derived.Test.YtcfabnkkkpcelaaOpPage
import Derived.SizedLaws
set_option linter.unusedSimpArgs false
set_option linter.unusedVariables false
namespace Go.Proofs.Ytcfabnkkkpcelaa
open Go.RowKit Go.ChangeShapes Go.WideShapes Go.ChangeAt Go.Deep
theorem cell_sz {H : Type} {enc : TypeId × Value → H} {W : World} {fuel : Nat} {t e : TypeId} {A : Option Addr} {n k : Nat} {x : DataW H × List MemPlace} (ht : Try.prog.underlying t = some (.slice e))
    (h : DataW.trod enc Try.prog W 0 (fun _ => true) true fuel t [.slice A n k] = some x) (hw : ∀ z ∈ x.1.weights Try.prog t, z ≤ reachBytes) : n * Try.prog.bytesOf e ≤ reachBytes := by
  rcases open_slice ht h with ⟨hcs, _⟩ | ⟨a, len, cap, m, k', D, Pl, hcs, _, hl, hm, hmm, hx1, _⟩
  · injection hcs with hcs _
    injection hcs with _ hn _
    subst hn
    rw [Nat.zero_mul]
    exact Nat.zero_le _
  · injection hcs with hcs _
    injection hcs with _ hn _
    subst hn
    have := hw ((n + (m - n)) * Try.prog.bytesOf e) (by rw [hx1]; simp [DataW.weights, ht])
    refine Nat.le_trans ?_ this
    exact Nat.mul_le_mul_right _ (by omega)
set_option maxRecDepth 100000 in
theorem pageSz {H : Type} {enc : TypeId × Value → H} {W : World} {q : Pg} {A B C D : Option Addr} {n c m d k e l f : Nat} {dd : DataW H} {p : List MemPlace} (h : DataW.Trod enc Try.prog W 0 (fun _ => true) true 28 (pgV q (.slice A n c) (.slice B m d) (.slice C k e) (.slice D l f)) dd p)
    (hw : ∀ z ∈ dd.weights Try.prog 28, z ≤ reachBytes) : n ≤ 4398046511104 ∧ m ≤ 17592186044416 ∧ k ≤ 17592186044416 ∧ l ≤ 17592186044416 := by
  obtain ⟨fuel, hf⟩ := h
  have hc : (pgV q (.slice A n c) (.slice B m d) (.slice C k e) (.slice D l f)).cells = (pgC q (.slice A n c) (.slice B m d) (.slice C k e) (.slice D l f)).toArray := rfl
  rw [hc] at hf
  obtain ⟨xs, kk, _, hx, _, hlen, hff⟩ := DataW.trod_struct Try.underlying28 hf
  simp only [Prod.mk.injEq] at hx
  obtain ⟨rfl, _⟩ := hx
  have g1 : DataW.trod enc Try.prog W 0 (fun _ => true) true kk 23 [.slice A n c] = xs[1]? := by
    have g := hff 1 _ rfl
    simpa [cellsInt, cellsU64, cellsInts, cellsStrs, cellsPairs, pgC] using g
  have g2 : DataW.trod enc Try.prog W 0 (fun _ => true) true kk 24 [.slice B m d] = xs[2]? := by
    have g := hff 2 _ rfl
    simpa [cellsInt, cellsU64, cellsInts, cellsStrs, cellsPairs, pgC] using g
  have g3 : DataW.trod enc Try.prog W 0 (fun _ => true) true kk 25 [.slice C k e] = xs[3]? := by
    have g := hff 3 _ rfl
    simpa [cellsInt, cellsU64, cellsInts, cellsStrs, cellsPairs, pgC] using g
  have g4 : DataW.trod enc Try.prog W 0 (fun _ => true) true kk 25 [.slice D l f] = xs[4]? := by
    have g := hff 4 _ rfl
    simpa [cellsInt, cellsU64, cellsInts, cellsStrs, cellsPairs, pgC] using g
  have hwx : ∀ (j : Nat) (t : TypeId) (y : DataW H × List MemPlace), ((Try.prog.fieldsOf 28).toList.map (·.type))[j]? = some t → xs[j]? = some y → ∀ z ∈ y.1.weights Try.prog t, z ≤ reachBytes := by
    intro j t y h1 h2 z hz
    refine hw z ?_
    have hu : Try.prog.underlying 28 = some (.struct (Try.prog.fieldsOf 28)) := by kernel_rfl
    rw [DataW.weights, hu]
    exact DataW.weights_mem_each h1 (by rw [List.getElem?_map, h2]; rfl) z hz
  have bp : Try.prog.bytesOf 44 = 32 := by kernel_rfl
  have bs : Try.prog.bytesOf 9 = 16 := by kernel_rfl
  have bi : Try.prog.bytesOf 3 = 8 := by kernel_rfl
  have hr : reachBytes = 140737488351232 := rfl
  have hex : ∀ j, j < 11 → ∃ y, xs[j]? = some y := fun j hj => ⟨_, List.getElem?_eq_getElem (by rw [hlen]; exact hj)⟩
  obtain ⟨y1, h1⟩ := hex 1 (by omega)
  obtain ⟨y2, h2⟩ := hex 2 (by omega)
  obtain ⟨y3, h3⟩ := hex 3 (by omega)
  obtain ⟨y4, h4⟩ := hex 4 (by omega)
  have s1 := cell_sz Try.underlying23 (g1.trans h1) (hwx 1 _ y1 (by kernel_rfl) h1)
  have s2 := cell_sz Try.underlying24 (g2.trans h2) (hwx 2 _ y2 (by kernel_rfl) h2)
  have s3 := cell_sz Try.underlying25 (g3.trans h3) (hwx 3 _ y3 (by kernel_rfl) h3)
  have s4 := cell_sz Try.underlying25 (g4.trans h4) (hwx 4 _ y4 (by kernel_rfl) h4)
  rw [bp] at s1
  rw [bs] at s2
  rw [bi] at s3 s4
  omega
end Go.Proofs.Ytcfabnkkkpcelaa
