/- The auction in plain numbers: sums that do not overflow; fills. -/
import Derived.Test.YtoachnhdedpbdaaAucO
set_option linter.unusedSimpArgs false
set_option linter.unusedVariables false
namespace Go.Proofs.Ytoachnhdedpbdaa
open Go.RowKit
theorem okOi (o : Ord) : okO o = true ↔ 1 ≤ o.price ∧ o.price ≤ 1000000 ∧ 1 ≤ o.left ∧ o.left ≤ 1000000 := by simp [okO]
theorem foldl_wrap : ∀ (l : List Int) (acc : Int), (∀ x ∈ l, 0 ≤ x ∧ x ≤ 1000000) → 0 ≤ acc → acc + 1000000 * (l.length : Int) ≤ 4611686018427387904 → l.foldl (fun n x => wrap64 (n + x)) acc = acc + l.sum
  | [], acc, _, _, _ => by simp
  | x :: l, acc, h, h0, hb => by
    have hx := h x (by simp)
    simp only [List.length_cons] at hb
    have hw : wrap64 (acc + x) = acc + x := by unfold wrap64; omega
    rw [List.foldl_cons, hw, foldl_wrap l (acc + x) (fun y hy => h y (by simp [hy])) (by omega) (by omega), List.sum_cons]
    omega
def isum (l : List Ord) : Int := (l.map (·.left)).sum
theorem wsum_eq (l : List Ord) (h : l.all okO = true) (hl : l.length ≤ 1000000) : wsum l = isum l := by
  have h1 : wsum l = (l.map (·.left)).foldl (fun n x => wrap64 (n + x)) 0 := by rw [wsum, List.foldl_map]
  rw [h1, foldl_wrap _ 0 ?_ (by omega) (by rw [List.length_map]; omega), isum]
  · omega
  · intro x hx
    obtain ⟨o, ho, rfl⟩ := List.mem_map.1 hx
    have := (okOi o).1 (List.all_eq_true.1 h o ho)
    omega
theorem isum_nonneg : ∀ (l : List Ord), l.all okO = true → 0 ≤ isum l ∧ isum l ≤ 1000000 * (l.length : Int)
  | [], _ => by simp [isum]
  | o :: l, h => by
    rw [List.all_cons, Bool.and_eq_true] at h
    have := (okOi o).1 h.1
    have ih := isum_nonneg l h.2
    have e : isum (o :: l) = o.left + isum l := by simp [isum]
    rw [e]
    simp only [List.length_cons]
    omega
def qsum (f : List Fil) : Int := f.foldl (fun n x => wrap64 (n + x.quantity)) 0
theorem qsum_take (f : List Fil) (k : Nat) {x : Fil} (h : f[k]? = some x) : qsum (f.take (k + 1)) = wrap64 (qsum (f.take k) + x.quantity) := by
  rw [List.take_add_one, h]
  simp [qsum, List.foldl_append]
def psum (f : List Fil) : Int := (f.map (·.quantity)).sum
theorem qsum_eq (f : List Fil) (h : ∀ x ∈ f, 0 ≤ x.quantity ∧ x.quantity ≤ 1000000) (hl : f.length ≤ 1000000) : qsum f = psum f := by
  have h1 : qsum f = (f.map (·.quantity)).foldl (fun n x => wrap64 (n + x)) 0 := by rw [qsum, List.foldl_map]
  rw [h1, foldl_wrap _ 0 ?_ (by omega) (by rw [List.length_map]; omega), psum]
  · omega
  · intro x hx
    obtain ⟨o, ho, rfl⟩ := List.mem_map.1 hx
    exact h o ho
theorem fills_law : ∀ (l : List Ord) (q : Int), l.all okO = true → q ≤ 9223372036854775807 →
    (∀ (i : Nat) (x : Ord) (y : Fil), l[i]? = some x → (fills l q)[i]? = some y → y.number = x.number ∧ 1 ≤ y.quantity ∧ y.quantity ≤ x.left ∧ (i + 1 < (fills l q).length → y.quantity = x.left)) ∧ psum (fills l q) = min (max q 0) (isum l)
  | [], q, _, _ => by
    refine ⟨fun i x y h => by simp at h, ?_⟩
    simp only [fills, psum, isum, List.map_nil, List.sum_nil]
    omega
  | o :: l, q, h, hq => by
    rw [List.all_cons, Bool.and_eq_true] at h
    have ho := (okOi o).1 h.1
    have hn := isum_nonneg l h.2
    have e : isum (o :: l) = o.left + isum l := by simp [isum]
    rw [e, fills]
    by_cases h0 : q ≤ 0
    · rw [if_pos h0]
      refine ⟨fun i x y _ hy => by simp at hy, ?_⟩
      simp only [psum, List.map_nil, List.sum_nil]
      omega
    · rw [if_neg h0]
      have hw : wrap64 (q - min o.left q) = q - min o.left q := by unfold wrap64; omega
      rw [hw]
      obtain ⟨ih1, ih2⟩ := fills_law l (q - min o.left q) h.2 (by omega)
      refine ⟨fun i x y hx hy => ?_, ?_⟩
      · rcases i with _ | i
        · have ex : o = x := by simpa using hx
          have ey : (⟨o.number, min o.left q⟩ : Fil) = y := by simpa using hy
          subst ex ey
          refine ⟨rfl, ?_, ?_, fun hl => ?_⟩
          · show 1 ≤ min o.left q; omega
          · show min o.left q ≤ o.left; omega
          · show min o.left q = o.left
            simp only [List.length_cons] at hl
            rcases Int.lt_or_le q o.left with hlt | hle
            · have hz : q - min o.left q ≤ 0 := by omega
              cases l with
              | nil => simp [fills] at hl
              | cons p l => rw [fills, if_pos hz] at hl; simp at hl
            · omega
        · obtain ⟨a1, a2, a3, a4⟩ := ih1 i x y (by simpa using hx) (by simpa using hy)
          refine ⟨a1, a2, a3, fun hl => a4 ?_⟩
          simp only [List.length_cons] at hl
          omega
      · have ep : psum (⟨o.number, min o.left q⟩ :: fills l (q - min o.left q)) = min o.left q + psum (fills l (q - min o.left q)) := by simp [psum]
        rw [ep, ih2]
        omega
theorem mayB_iff (l : List Ord) : mayB l = true ↔ l.length ≤ 200 ∧ l.all okO = true := by simp [mayB]
end Go.Proofs.Ytoachnhdedpbdaa
