/- A row of the call's own, in the sort's words, and back. -/
import Derived.Test.YtoachnhdedpbdaaWd
import Derived.Shelf.SlSortFuncK.SWK
set_option linter.unusedSimpArgs false
set_option linter.unusedVariables false
set_option linter.unusedSectionVars false
namespace Go.Proofs.Ytoachnhdedpbdaa
open Go.RowKit Go.Lib Go.Sort Go.Shelf
variable {α : Type} [Inhabited α] {T : Ty α}
theorem flatK_list (T : Ty α) (d : Array α) : (flatK T.enc T.sz d).toList = d.toList.flatMap T.enc := by
  apply List.ext_getElem?
  intro t
  have hp := T.pos
  by_cases ht : t < d.size * T.sz
  · have hq : t / T.sz < d.size := Nat.div_lt_of_lt_mul (by rw [Nat.mul_comm]; exact ht)
    have hx : d.toList[t / T.sz]? = some d[t / T.sz]! := by rw [getElem!_pos d _ hq, Array.getElem?_toList, Array.getElem?_eq_getElem hq]
    have hr : t % T.sz < (T.enc d[t / T.sz]!).length := by rw [T.len]; exact Nat.mod_lt _ hp
    have h1 := T.flatAt d.toList (t / T.sz) _ hx (t % T.sz) _ (List.getElem?_eq_getElem hr)
    have hdm : t / T.sz * T.sz + t % T.sz = t := by rw [Nat.mul_comm]; exact Nat.div_add_mod t T.sz
    rw [hdm] at h1
    rw [h1]
    have h2 := get_flatK T.enc T.sz d t ht
    have hs : t < (flatK T.enc T.sz d).size := by rw [size_flatK]; exact ht
    rw [Array.getElem?_toList, Array.getElem?_eq_getElem hs]
    rw [getElem!_pos (flatK T.enc T.sz d) t hs, getElem!_pos (T.enc d[t / T.sz]!) (t % T.sz) hr] at h2
    rw [h2]
  · rw [List.getElem?_eq_none (by simp; omega), List.getElem?_eq_none (by rw [T.flat]; simp; omega)]
/-- What an own row gives the sort. -/
theorem own_holds {W : World} {g : Nat} {cur : Array Value} {xs : List α} (hb : W.heap[g]? = some (.cells cur T.e (0, 0))) (ht : cur.toList.take (xs.length * T.sz) = xs.flatMap T.enc) : HoldsK T.enc T.sz W g 0 xs.toArray := by
  intro j hj
  rw [size_flatK] at hj
  have hj' : j < xs.length * T.sz := by simpa using hj
  have hs : j < (flatK T.enc T.sz xs.toArray).size := by rw [size_flatK]; exact hj
  have h1 : (flatK T.enc T.sz xs.toArray).toList[j]? = (cur.toList.take (xs.length * T.sz))[j]? := by rw [ht, flatK_list]
  rw [List.getElem?_take_of_lt hj', Array.getElem?_toList, Array.getElem?_eq_getElem hs, Array.getElem?_toList] at h1
  refine ⟨?_, by simp [World.frozen?, hb]⟩
  rw [Nat.zero_add, cell_of_row W g j _ _ _ hb, ← h1, getElem!_pos (flatK T.enc T.sz xs.toArray) j hs]
  rfl
theorem own_sorted {W w' : World} {base g cap : Nat} {cur : Array Value} {n : Nat} {d : Array α} (S : SWK T.enc T.sz W g 0 d w') (hd : d.size = n) (hbase : base ≤ g) (hb : W.heap[g]? = some (.cells cur T.e (0, 0))) (h1 : n ≤ cap) (h2 : cap ≤ maxLen) (h3 : cur.size = cap * T.sz) :
    Own T w' base (.slice (some ⟨g, 0, none⟩) n cap) d.toList ∧ W.grownBy w' (some g) := by
  obtain ⟨m, os, rfl⟩ := S
  have hg : g < W.heap.size := (Array.getElem?_eq_some_iff.1 hb).1
  have hh : (sortWorldK T.enc T.sz W g 0 m d os).heap[g]? = some (.cells (putCells id 0 (flatK T.enc T.sz d) cur) T.e (0, 0)) := by
    unfold sortWorldK
    rw [heap_grow_old _ _ (by rw [size_putRowK]; exact hg)]
    simp [putRowK, putRow, mapBlock, Sort.ahead, Array.getElem?_modify, hb, onCells]
  constructor
  · refine ⟨by rw [T.flat], .inr ⟨g, cap, _, by simp [hd], hbase, hh, by simpa [hd] using h1, h2, by simp [putCells, h3], ?_⟩⟩
    rw [← flatK_list]
    apply List.ext_getElem?
    intro j
    have hle : d.size * T.sz ≤ cur.size := by rw [h3, hd]; exact Nat.mul_le_mul_right _ h1
    by_cases hj : j < d.size * T.sz
    · rw [List.getElem?_take_of_lt (by simpa using hj), Array.getElem?_toList, Array.getElem?_toList]
      have hs : j < (flatK T.enc T.sz d).size := by rw [size_flatK]; exact hj
      simp [putCells, hj, show j < cur.size by omega, getElem!_pos (flatK T.enc T.sz d) j hs, hs]
    · rw [List.getElem?_take_eq_none (by simp; omega), List.getElem?_eq_none (by simp; omega)]
  · unfold sortWorldK
    refine ⟨rfl, rfl, rfl, ?_, fun k hk hne => ?_⟩
    · rw [size_grow, size_putRowK]
      exact Nat.le_add_right _ _
    · have hk' : k < (putRowK T.enc T.sz (Sort.ahead W m) g 0 d).heap.size := by rw [size_putRowK]; exact hk
      rw [heap_grow_old _ _ hk']
      have : g ≠ k := fun e => hne (by rw [e])
      simp [putRowK, putRow, mapBlock, Sort.ahead, Array.getElem?_modify, this]
end Go.Proofs.Ytoachnhdedpbdaa
