/- Two lists in order, merged: the left one's first among equals. -/
import Derived.Test.YtnpcnahnkfdgpaaSo4
set_option linter.unusedSimpArgs false
set_option linter.unusedVariables false
set_option linter.unusedSectionVars false
namespace Go.Proofs.Ytnpcnahnkfdgpaa
open Go.RowKit Go.Lib Go.Sort Go.Shelf
variable {α : Type} [Inhabited α]
/-- In order: none is less than one ahead of it. -/
def Asc (lt : α → α → Bool) (l : List α) : Prop := l.Pairwise fun x y => lt y x = false
def mrg (lt : α → α → Bool) : List α → List α → List α
  | [], ys => ys
  | x :: xs, [] => x :: xs
  | x :: xs, y :: ys => if lt y x then y :: mrg lt (x :: xs) ys else x :: mrg lt xs (y :: ys)
termination_by xs ys => xs.length + ys.length
theorem mrg_nil (lt : α → α → Bool) (ys : List α) : mrg lt [] ys = ys := by unfold mrg; rfl
theorem mrg_right (lt : α → α → Bool) : ∀ xs : List α, mrg lt xs [] = xs
  | [] => by unfold mrg; rfl
  | x :: xs => by unfold mrg; rfl
theorem mrg_yes {lt : α → α → Bool} {x y : α} (xs ys : List α) (h : lt y x = true) : mrg lt (x :: xs) (y :: ys) = y :: mrg lt (x :: xs) ys := by
  conv => lhs; unfold mrg
  rw [if_pos h]
theorem mrg_no {lt : α → α → Bool} {x y : α} (xs ys : List α) (h : lt y x = false) : mrg lt (x :: xs) (y :: ys) = x :: mrg lt xs (y :: ys) := by
  conv => lhs; unfold mrg
  rw [if_neg (by rw [h]; decide)]
theorem mrg_split (lt : α → α → Bool) (X2 Y2 : List α) : ∀ (X1 Y1 : List α), (∀ x ∈ X1, ∀ y ∈ Y2, lt y x = false) → (∀ x ∈ X2, ∀ y ∈ Y1, lt y x = true) → mrg lt (X1 ++ X2) (Y1 ++ Y2) = mrg lt X1 Y1 ++ mrg lt X2 Y2
  | [], [], _, _ => by simp [mrg_nil]
  | [], y :: Y1, ha, hb => by
    have ih := mrg_split lt X2 Y2 [] Y1 (fun x hx => by simp at hx) (fun x hx y hy => hb x hx y (List.mem_cons_of_mem _ hy))
    rw [mrg_nil, List.nil_append] at ih ⊢
    cases X2 with
    | nil => simp [mrg_nil]
    | cons x X2 =>
      rw [List.cons_append, mrg_yes _ _ (hb x (List.mem_cons_self ..) y (List.mem_cons_self ..)), ih]
      simp
  | x :: X1, [], ha, hb => by
    have ih := mrg_split lt X2 Y2 X1 [] (fun x hx y hy => ha x (List.mem_cons_of_mem _ hx) y hy) (fun x hx y hy => by simp at hy)
    rw [mrg_right, List.nil_append] at ih ⊢
    cases Y2 with
    | nil => simp [mrg_right]
    | cons y Y2 =>
      rw [List.cons_append, mrg_no _ _ (ha x (List.mem_cons_self ..) y (List.mem_cons_self ..)), ih]
      simp
  | x :: X1, y :: Y1, ha, hb => by
    cases h : lt y x with
    | true =>
      have ih := mrg_split lt X2 Y2 (x :: X1) Y1 ha (fun x hx y hy => hb x hx y (List.mem_cons_of_mem _ hy))
      rw [List.cons_append, List.cons_append, mrg_yes _ _ h, mrg_yes _ _ h]
      rw [List.cons_append] at ih
      rw [ih, List.cons_append]
    | false =>
      have ih := mrg_split lt X2 Y2 X1 (y :: Y1) (fun x hx y hy => ha x (List.mem_cons_of_mem _ hx) y hy) hb
      rw [List.cons_append, List.cons_append, mrg_no _ _ h, mrg_no _ _ h]
      rw [List.cons_append] at ih
      rw [ih, List.cons_append]
termination_by X1 Y1 => X1.length + Y1.length
theorem swo_le {lt : α → α → Bool} (hO : SWO lt) {u v w : α} (h1 : lt u v = true) (h2 : lt u w = false) : lt w v = true := by
  cases h : lt w v with
  | true => rfl
  | false => have := hO.ntrans u w v h2 h; rw [h1] at this; cases this
theorem swo_ge {lt : α → α → Bool} (hO : SWO lt) {e s c : α} (h1 : lt e s = true) (h2 : lt c s = false) : lt e c = true := by
  cases h : lt e c with
  | true => rfl
  | false => have := hO.ntrans e c s h h2; rw [h1] at this; cases this
theorem Asc.le {lt : α → α → Bool} (hO : SWO lt) {l : List α} (h : Asc lt l) {i j : Nat} (hij : i ≤ j) (hj : j < l.length) : lt l[j]! l[i]! = false := by
  rcases Nat.eq_or_lt_of_le hij with rfl | hlt
  · exact hO.irrefl _
  · have := List.pairwise_iff_getElem.1 h i j (by omega) hj hlt
    rw [getElem!_pos l i (by omega), getElem!_pos l j hj]
    exact this
theorem mem_at {l : List α} {x : α} (h : x ∈ l) : ∃ i, i < l.length ∧ x = l[i]! := by
  obtain ⟨i, hi, e⟩ := List.getElem_of_mem h
  exact ⟨i, hi, by rw [getElem!_pos l i hi, e]⟩
theorem take_at (l : List α) (k i : Nat) (h : i < (l.take k).length) : (l.take k)[i]! = l[i]! := by
  rw [List.length_take] at h
  rw [getElem!_pos _ i (by rw [List.length_take]; exact h), getElem!_pos l i (by omega), List.getElem_take]
theorem drop_at (l : List α) (k i : Nat) (h : i < (l.drop k).length) : (l.drop k)[i]! = l[k + i]! := by
  rw [List.length_drop] at h
  rw [getElem!_pos _ i (by rw [List.length_drop]; exact h), getElem!_pos l (k + i) (by omega), List.getElem_drop]
/-- Cut at u of the left one, at v of the right one. -/
theorem mrg_cut {lt : α → α → Bool} (hO : SWO lt) {X Y : List α} (hX : Asc lt X) (hY : Asc lt Y) (u v : Nat) (hu : u ≤ X.length) (hv : v ≤ Y.length)
    (ha : u = 0 ∨ v = Y.length ∨ lt Y[v]! X[u - 1]! = false) (hb : u = X.length ∨ v = 0 ∨ lt Y[v - 1]! X[u]! = true) :
    mrg lt X Y = mrg lt (X.take u) (Y.take v) ++ mrg lt (X.drop u) (Y.drop v) := by
  conv => lhs; rw [← List.take_append_drop u X, ← List.take_append_drop v Y]
  refine mrg_split lt _ _ _ _ (fun x hx y hy => ?_) (fun x hx y hy => ?_)
  · obtain ⟨i, hi, rfl⟩ := mem_at hx
    obtain ⟨j, hj, rfl⟩ := mem_at hy
    rw [take_at X u i hi, drop_at Y v j hj]
    rw [List.length_take] at hi
    rw [List.length_drop] at hj
    rcases ha with h | h | h
    · omega
    · omega
    · have h1 := hY.le hO (show v ≤ v + j by omega) (by omega)
      have h2 := hX.le hO (show i ≤ u - 1 by omega) (by omega)
      exact hO.ntrans _ _ _ (hO.ntrans _ _ _ h1 h) h2
  · obtain ⟨i, hi, rfl⟩ := mem_at hx
    obtain ⟨j, hj, rfl⟩ := mem_at hy
    rw [drop_at X u i hi, take_at Y v j hj]
    rw [List.length_drop] at hi
    rw [List.length_take] at hj
    rcases hb with h | h | h
    · omega
    · omega
    · have h1 := hY.le hO (show j ≤ v - 1 by omega) (by omega)
      have h2 := hX.le hO (show u ≤ u + i by omega) (by omega)
      exact swo_ge hO (swo_le hO h h1) h2
theorem mrg_one {lt : α → α → Bool} (hO : SWO lt) {x : α} {Y : List α} (hY : Asc lt Y) (v : Nat) (hv : v ≤ Y.length) (ha : v = Y.length ∨ lt Y[v]! x = false) (hb : v = 0 ∨ lt Y[v - 1]! x = true) :
    mrg lt [x] Y = Y.take v ++ (x :: Y.drop v) := by
  have hX : Asc lt [x] := List.pairwise_singleton _ _
  have h1 := mrg_cut hO hX hY 0 v (by omega) hv (.inl rfl) (by rcases hb with h | h; exact .inr (.inl h); exact .inr (.inr h))
  have hYd : Asc lt (Y.drop v) := List.Pairwise.sublist (List.drop_sublist _ _) hY
  have h2 := mrg_cut hO hX hYd 1 0 (by simp) (by omega) (by
    rcases ha with h | h
    · exact .inr (.inl (by rw [List.length_drop]; omega))
    · rcases Nat.lt_or_ge v Y.length with hl | hl
      · refine .inr (.inr ?_)
        rw [drop_at Y v 0 (by rw [List.length_drop]; omega)]
        exact h
      · exact .inr (.inl (by rw [List.length_drop]; omega))) (.inl rfl)
  rw [h1, List.take_zero, List.drop_zero, mrg_nil, h2, List.take_zero, mrg_right, List.drop_zero]
  simp [mrg_nil]
theorem mrg_last {lt : α → α → Bool} (hO : SWO lt) {y : α} {X : List α} (hX : Asc lt X) (u : Nat) (hu : u ≤ X.length) (ha : u = 0 ∨ lt y X[u - 1]! = false) (hb : u = X.length ∨ lt y X[u]! = true) :
    mrg lt X [y] = X.take u ++ (y :: X.drop u) := by
  have hY : Asc lt [y] := List.pairwise_singleton _ _
  have h1 := mrg_cut hO hX hY u 0 hu (by omega) (by rcases ha with h | h; exact .inl h; exact .inr (.inr h)) (.inr (.inl rfl))
  have hXd : Asc lt (X.drop u) := List.Pairwise.sublist (List.drop_sublist _ _) hX
  have h2 := mrg_cut hO hXd hY 0 1 (by omega) (by simp) (.inl rfl) (by
    rcases hb with h | h
    · exact .inl (by rw [List.length_drop]; omega)
    · rcases Nat.lt_or_ge u X.length with hl | hl
      · refine .inr (.inr ?_)
        rw [drop_at X u 0 (by rw [List.length_drop]; omega)]
        exact h
      · exact .inl (by rw [List.length_drop]; omega))
  rw [h1, List.take_zero, mrg_right, List.drop_zero, h2]
  simp [mrg_nil, mrg_right]
end Go.Proofs.Ytnpcnahnkfdgpaa
