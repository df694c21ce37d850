/- Ranges exchanged, as lists. -/
import Derived.Test.YtnpcnahnkfdgpaaSo2
set_option linter.unusedSimpArgs false
set_option linter.unusedVariables false
namespace Go.Proofs.Ytnpcnahnkfdgpaa
open Go.RowKit Go.Lib Go.Sort Go.Shelf
variable {α : Type} [Inhabited α]
theorem swr_get (d : Array α) (a b : Nat) : ∀ (n : Nat), a + n ≤ b → b + n ≤ d.size → ∀ t, (swr d a b n)[t]! = if a ≤ t ∧ t < a + n then d[t - a + b]! else if b ≤ t ∧ t < b + n then d[t - b + a]! else d[t]!
  | 0, _, _, t => by rw [swr, if_neg (by omega), if_neg (by omega)]
  | n + 1, h1, h2, t => by
    have ih := swr_get d a b n (by omega) (by omega)
    have hs := size_swr d a b n
    rw [swr, swp_get _ (by omega) (by omega), ih, ih, ih]
    by_cases e1 : t = b + n
    · subst e1
      simp only [if_true]
      rw [if_neg (by omega), if_neg (by omega), if_neg (by omega), if_pos (by omega)]
      congr 1
      omega
    · by_cases e2 : t = a + n
      · subst e2
        rw [if_neg e1, if_pos rfl, if_neg (by omega), if_neg (by omega), if_pos (by omega)]
        congr 1
        omega
      · rw [if_neg e1, if_neg e2]
        by_cases e3 : a ≤ t ∧ t < a + n
        · rw [if_pos e3, if_pos (show a ≤ t ∧ t < a + (n + 1) by omega)]
        · rw [if_neg e3, if_neg (show ¬ (a ≤ t ∧ t < a + (n + 1)) by omega)]
          by_cases e4 : b ≤ t ∧ t < b + n
          · rw [if_pos e4, if_pos (show b ≤ t ∧ t < b + (n + 1) by omega)]
          · rw [if_neg e4, if_neg (show ¬ (b ≤ t ∧ t < b + (n + 1)) by omega)]
theorem toList_get (d : Array α) (t : Nat) (h : t < d.size) : d.toList[t]? = some d[t]! := by
  rw [getElem!_pos d t h, Array.getElem?_toList, Array.getElem?_eq_getElem h]
theorem get_of_toList (d : Array α) (l : List α) (hd : d.toList = l) (t : Nat) (h : t < l.length) : d[t]! = l[t]! := by
  subst hd
  have h' : t < d.size := by simpa using h
  rw [getElem!_pos d t h', getElem!_pos d.toList t h]
  simp
/-- Two ranges of as many members. -/
theorem swr_toList (d : Array α) (Pf A M B S : List α) (hd : d.toList = Pf ++ (A ++ (M ++ (B ++ S)))) (hl : A.length = B.length) (a b : Nat) (ha : a = Pf.length) (hb : b = Pf.length + A.length + M.length) :
    (swr d a b A.length).toList = Pf ++ (B ++ (M ++ (A ++ S))) := by
  subst ha hb
  have hsz : d.size = Pf.length + (A.length + (M.length + (B.length + S.length))) := by
    rw [← Array.length_toList, hd]
    simp
  apply List.ext_getElem?
  intro t
  by_cases ht : t < d.size
  · rw [toList_get _ t (by rw [size_swr]; exact ht), swr_get d _ _ _ (by omega) (by omega)]
    have get : ∀ u, u < d.size → d[u]! = (Pf ++ (A ++ (M ++ (B ++ S))))[u]! := fun u hu => get_of_toList d _ hd u (by rw [← hd]; simpa using hu)
    have opt : ∀ (l : List α) (u : Nat), u < l.length → some l[u]! = l[u]? := fun l u hu => by rw [getElem!_pos l u hu, List.getElem?_eq_getElem hu]
    by_cases e1 : Pf.length ≤ t ∧ t < Pf.length + A.length
    · rw [if_pos e1, get _ (by omega), opt _ _ (by simp; omega)]
      rw [List.getElem?_append_right (by omega), List.getElem?_append_right (by omega), List.getElem?_append_right (by omega), List.getElem?_append_left (by omega)]
      rw [List.getElem?_append_right (by omega), List.getElem?_append_left (by omega)]
      congr 1
      omega
    · rw [if_neg e1]
      by_cases e2 : Pf.length + A.length + M.length ≤ t ∧ t < Pf.length + A.length + M.length + A.length
      · rw [if_pos e2, get _ (by omega), opt _ _ (by simp; omega)]
        rw [List.getElem?_append_right (by omega), List.getElem?_append_left (by omega)]
        rw [List.getElem?_append_right (by omega), List.getElem?_append_right (by omega), List.getElem?_append_right (by omega), List.getElem?_append_left (by omega)]
        congr 1
        omega
      · rw [if_neg e2, get _ ht, opt _ _ (by simp; omega)]
        by_cases e3 : t < Pf.length
        · rw [List.getElem?_append_left e3, List.getElem?_append_left e3]
        · obtain ⟨u, rfl⟩ : ∃ u, t = Pf.length + u := ⟨t - Pf.length, by omega⟩
          have e1' : A.length ≤ u := by omega
          rw [List.getElem?_append_right (show Pf.length ≤ Pf.length + u by omega) (l₂ := A ++ (M ++ (B ++ S))), List.getElem?_append_right (show Pf.length ≤ Pf.length + u by omega) (l₂ := B ++ (M ++ (A ++ S))), Nat.add_sub_cancel_left]
          rw [List.getElem?_append_right e1', List.getElem?_append_right (show B.length ≤ u by omega)]
          obtain ⟨x, rfl⟩ : ∃ x, u = A.length + x := ⟨u - A.length, by omega⟩
          rw [show A.length + x - B.length = x by omega, Nat.add_sub_cancel_left]
          by_cases e4 : x < M.length
          · rw [List.getElem?_append_left e4, List.getElem?_append_left e4]
          · rw [List.getElem?_append_right (show M.length ≤ x by omega), List.getElem?_append_right (show M.length ≤ x by omega)]
            rw [List.getElem?_append_right (show B.length ≤ x - M.length by omega), List.getElem?_append_right (show A.length ≤ x - M.length by omega), hl]
  · rw [List.getElem?_eq_none (by simp [size_swr]; omega), List.getElem?_eq_none (by simp; omega)]
end Go.Proofs.Ytnpcnahnkfdgpaa
