/- The price in plain numbers: the best one, and that it is one; more orders. -/
import Derived.Test.YtoachnhdedpbdaaAucP
set_option linter.unusedSimpArgs false
set_option linter.unusedVariables false
namespace Go.Proofs.Ytoachnhdedpbdaa
open Go.RowKit

def OkL (l : List Ord) : Prop := l.all okO = true ∧ l.length ≤ 1000000
theorem okl_filter {l : List Ord} (h : OkL l) (f : Ord → Bool) : OkL (l.filter f) := by
  refine ⟨List.all_eq_true.2 fun x hx => List.all_eq_true.1 h.1 x (List.mem_filter.1 hx).1, Nat.le_trans (List.length_filter_le _ _) h.2⟩
theorem isum_cons (o : Ord) (l : List Ord) : isum (o :: l) = o.left + isum l := by simp [isum]
theorem isum_append (a b : List Ord) : isum (a ++ b) = isum a + isum b := by simp [isum]
theorem vol_eq {b s : List Ord} (hb : OkL b) (hs : OkL s) (p : Int) : vol b s p = min (isum (highs b p)) (isum (lows s p)) := by
  unfold vol highs lows
  rw [wsum_eq _ (okl_filter hb _).1 (okl_filter hb _).2, wsum_eq _ (okl_filter hs _).1 (okl_filter hs _).2]
theorem ok_pos {l : List Ord} (h : OkL l) {o : Ord} (ho : o ∈ l) : 1 ≤ o.price ∧ 1 ≤ o.left := by
  have := (okOi o).1 (List.all_eq_true.1 h.1 o ho)
  omega
theorem isum_filter_mono : ∀ (l : List Ord) (f g : Ord → Bool), l.all okO = true → (∀ o ∈ l, f o = true → g o = true) → isum (l.filter f) ≤ isum (l.filter g)
  | [], _, _, _, _ => by simp [isum]
  | o :: l, f, g, h, hfg => by
    rw [List.all_cons, Bool.and_eq_true] at h
    have ho := (okOi o).1 h.1
    have ih := isum_filter_mono l f g h.2 (fun x hx => hfg x (by simp [hx]))
    have hh := hfg o (by simp)
    rw [List.filter_cons, List.filter_cons]
    by_cases hf : f o = true
    · rw [if_pos hf, if_pos (hh hf), isum_cons, isum_cons]; omega
    · rw [if_neg hf]
      by_cases hg : g o = true
      · rw [if_pos hg, isum_cons]; omega
      · rw [if_neg hg]; exact ih
theorem highs_mono {b : List Ord} (hb : OkL b) {p q : Int} (h : p ≤ q) : isum (highs b q) ≤ isum (highs b p) := by
  refine isum_filter_mono b _ _ hb.1 fun o _ ho => ?_
  simp only [decide_eq_true_eq] at ho ⊢
  omega
theorem lows_mono {s : List Ord} (hs : OkL s) {p q : Int} (h : p ≤ q) : isum (lows s p) ≤ isum (lows s q) := by
  refine isum_filter_mono s _ _ hs.1 fun o _ ho => ?_
  simp only [decide_eq_true_eq] at ho ⊢
  omega
theorem vol_nonneg {b s : List Ord} (hb : OkL b) (hs : OkL s) (p : Int) : 0 ≤ vol b s p := by
  rw [vol_eq hb hs]
  have h1 := isum_nonneg _ (okl_filter hb (fun o : Ord => decide (p ≤ o.price))).1
  have h2 := isum_nonneg _ (okl_filter hs (fun o : Ord => decide (o.price ≤ p))).1
  unfold highs lows
  omega
/-- Beneath any price at which something is traded there is an order's price that lets as much be traded. -/
theorem near_price : ∀ (s : List Ord) (q : Int), (∃ o ∈ s, o.price ≤ q) → ∃ o ∈ s, o.price ≤ q ∧ lows s q = lows s o.price
  | s, q, h => by
    obtain ⟨o, ho, hq⟩ := h
    have : ∀ (n : Nat) (o : Ord), o ∈ s → o.price ≤ q → (q - o.price).toNat ≤ n → ∃ o ∈ s, o.price ≤ q ∧ lows s q = lows s o.price := by
      intro n
      induction n with
      | zero =>
        intro o ho h1 h2
        refine ⟨o, ho, h1, ?_⟩
        have : q = o.price := by omega
        rw [this]
      | succ n ih =>
        intro o ho h1 h2
        by_cases hx : ∃ x ∈ s, o.price < x.price ∧ x.price ≤ q
        · obtain ⟨x, hx, h3, h4⟩ := hx
          exact ih x hx h4 (by omega)
        · refine ⟨o, ho, h1, List.filter_congr fun x hx' => ?_⟩
          by_cases h5 : x.price ≤ q
          · have h6 : x.price ≤ o.price := by
              rcases Int.lt_or_le o.price x.price with h7 | h7
              · exact absurd ⟨x, hx', h7, h5⟩ hx
              · exact h7
            simp [h5, h6]
          · have h6 : ¬ x.price ≤ o.price := by omega
            simp [h5, h6]
    exact this _ o ho hq (Nat.le_refl _)
def Inv (b s t : List Ord) (a : Int × Int) : Prop :=
  (a = (0, 0) ∧ ∀ o ∈ t, vol b s o.price = 0) ∨ (0 < a.2 ∧ 1 ≤ a.1 ∧ a.2 = vol b s a.1 ∧ ∀ o ∈ t, vol b s o.price ≤ a.2 ∧ (vol b s o.price = a.2 → a.1 ≤ o.price))
theorem inv_step {b s : List Ord} (hb : OkL b) (hs : OkL s) (t : List Ord) (a : Int × Int) (h : Inv b s t a) (o : Ord) (ho : 1 ≤ o.price) : Inv b s (t ++ [o]) (priceStep b s a o) := by
  have h0 := vol_nonneg hb hs o.price
  unfold priceStep
  by_cases hbt : better b s a o = true
  · rw [if_pos hbt]
    simp [better] at hbt
    right
    rcases h with ⟨rfl, h⟩ | ⟨h1, h2, h3, h4⟩
    · refine ⟨by show 0 < vol b s o.price; simp at hbt; omega, ho, rfl, fun x hx => ?_⟩
      rcases List.mem_append.1 hx with hx | hx
      · have := h x hx
        show vol b s x.price ≤ vol b s o.price ∧ (vol b s x.price = vol b s o.price → o.price ≤ x.price)
        simp at hbt
        omega
      · rw [List.mem_singleton] at hx
        subst hx
        exact ⟨Int.le_refl _, fun _ => Int.le_refl _⟩
    · refine ⟨by show 0 < vol b s o.price; omega, ho, rfl, fun x hx => ?_⟩
      rcases List.mem_append.1 hx with hx | hx
      · have := h4 x hx
        show vol b s x.price ≤ vol b s o.price ∧ (vol b s x.price = vol b s o.price → o.price ≤ x.price)
        omega
      · rw [List.mem_singleton] at hx
        subst hx
        exact ⟨Int.le_refl _, fun _ => Int.le_refl _⟩
  · rw [if_neg hbt]
    simp [better] at hbt
    rcases h with ⟨rfl, h⟩ | ⟨h1, h2, h3, h4⟩
    · left
      refine ⟨rfl, fun x hx => ?_⟩
      rcases List.mem_append.1 hx with hx | hx
      · exact h x hx
      · rw [List.mem_singleton] at hx
        subst hx
        simp at hbt
        omega
    · right
      refine ⟨h1, h2, h3, fun x hx => ?_⟩
      rcases List.mem_append.1 hx with hx | hx
      · exact h4 x hx
      · rw [List.mem_singleton] at hx
        subst hx
        omega
theorem inv_fold {b s : List Ord} (hb : OkL b) (hs : OkL s) : ∀ (u t : List Ord) (a : Int × Int), Inv b s t a → (∀ o ∈ u, 1 ≤ o.price) → Inv b s (t ++ u) (u.foldl (priceStep b s) a)
  | [], t, a, h, _ => by simpa using h
  | o :: u, t, a, h, hu => by
    have := inv_fold hb hs u (t ++ [o]) _ (inv_step hb hs t a h o (hu o (by simp))) (fun x hx => hu x (by simp [hx]))
    simpa using this
theorem inv_price {b s : List Ord} (hb : OkL b) (hs : OkL s) : Inv b s s (price b s) := by
  have := inv_fold hb hs s [] (0, 0) (.inl ⟨rfl, fun o ho => by simp at ho⟩) (fun o ho => (ok_pos hs ho).1)
  exact this
/-- The best price. -/
def Best (b s : List Ord) (a : Int × Int) : Prop :=
  0 ≤ a.2 ∧ (a.2 = 0 ↔ a.1 = 0) ∧ (0 < a.2 → 1 ≤ a.1 ∧ vol b s a.1 = a.2) ∧ ∀ q, vol b s q ≤ a.2 ∧ (vol b s q = a.2 → 0 < a.2 → a.1 ≤ q)
theorem best_price {b s : List Ord} (hb : OkL b) (hs : OkL s) : Best b s (price b s) := by
  have hi := inv_price hb hs
  have key : ∀ q, 0 < vol b s q → ∃ o ∈ s, o.price ≤ q ∧ vol b s q ≤ vol b s o.price := by
    intro q hq
    have hex : ∃ o ∈ s, o.price ≤ q := by
      rw [vol_eq hb hs] at hq
      rcases hl : lows s q with _ | ⟨o, l⟩
      · rw [hl] at hq
        simp [isum] at hq
        omega
      · have : o ∈ lows s q := by rw [hl]; simp
        have := List.mem_filter.1 this
        exact ⟨o, this.1, by simpa using this.2⟩
    obtain ⟨o, ho, h1, h2⟩ := near_price s q hex
    refine ⟨o, ho, h1, ?_⟩
    rw [vol_eq hb hs, vol_eq hb hs, h2]
    have := highs_mono hb h1
    omega
  rcases hi with ⟨e, h⟩ | ⟨h1, h2, h3, h4⟩
  · rw [e]
    refine ⟨by simp, by simp, by simp, fun q => ?_⟩
    have h0 := vol_nonneg hb hs q
    rcases Int.lt_or_le 0 (vol b s q) with hq | hq
    · obtain ⟨o, ho, h5, h6⟩ := key q hq
      have := h o ho
      omega
    · exact ⟨hq, fun _ h => absurd h (by simp)⟩
  · refine ⟨by omega, by omega, fun _ => ⟨h2, h3.symm⟩, fun q => ?_⟩
    have h0 := vol_nonneg hb hs q
    rcases Int.lt_or_le 0 (vol b s q) with hq | hq
    · obtain ⟨o, ho, h5, h6⟩ := key q hq
      have := h4 o ho
      omega
    · omega
theorem best_one {b s b' s' : List Ord} {a a' : Int × Int} (h : Best b s a) (h' : Best b' s' a') (e : ∀ q, vol b s q = vol b' s' q) : a = a' := by
  obtain ⟨h1, h2, h3, h4⟩ := h
  obtain ⟨k1, k2, k3, k4⟩ := h'
  have x1 := h4 a'.1
  have x2 := k4 a.1
  have e1 := e a.1
  have e2 := e a'.1
  have e3 : a.2 = a'.2 := by
    rcases Int.lt_or_le 0 a.2 with p | p <;> rcases Int.lt_or_le 0 a'.2 with q | q
    · have := h3 p; have := k3 q; omega
    · have := h3 p; omega
    · have := k3 q; omega
    · omega
  have e4 : a.1 = a'.1 := by
    rcases Int.lt_or_le 0 a.2 with p | p
    · have := h3 p; have := k3 (by omega); omega
    · omega
  exact Prod.ext e4 e3
theorem isum_perm {a b : List Ord} (h : a.Perm b) : isum a = isum b := by
  induction h with
  | nil => rfl
  | cons x _ ih => rw [isum_cons, isum_cons, ih]
  | swap x y l => rw [isum_cons, isum_cons, isum_cons, isum_cons]; omega
  | trans _ _ h1 h2 => rw [h1, h2]
theorem okl_perm {a b : List Ord} (h : a.Perm b) (ha : OkL a) : OkL b := ⟨List.all_eq_true.2 fun x hx => List.all_eq_true.1 ha.1 x (h.mem_iff.2 hx), by rw [← h.length_eq]; exact ha.2⟩
theorem price_perm {b s s' : List Ord} (hb : OkL b) (hs : OkL s) (h : s.Perm s') : price b s = price b s' := by
  refine best_one (best_price hb hs) (best_price hb (okl_perm h hs)) fun q => ?_
  rw [vol_eq hb hs, vol_eq hb (okl_perm h hs), isum_perm (show (lows s q).Perm (lows s' q) from h.filter _)]
theorem price_more {b s b' s' : List Ord} {d : Int} (hb : OkL b) (hs : OkL s) (hb' : OkL b') (hs' : OkL s') (hd : 0 ≤ d) (h : ∀ q, vol b s q ≤ vol b' s' q ∧ vol b' s' q ≤ vol b s q + d) : (price b s).2 ≤ (price b' s').2 ∧ (price b' s').2 ≤ (price b s).2 + d := by
  obtain ⟨h1, h2, h3, h4⟩ := best_price hb hs
  obtain ⟨k1, k2, k3, k4⟩ := best_price hb' hs'
  have x1 := h4 (price b' s').1
  have x2 := k4 (price b s).1
  have y1 := h (price b' s').1
  have y2 := h (price b s).1
  constructor
  · rcases Int.lt_or_le 0 (price b s).2 with p | p
    · have := h3 p; omega
    · omega
  · rcases Int.lt_or_le 0 (price b' s').2 with p | p
    · have := k3 p; omega
    · omega
theorem price_le {b s : List Ord} (hb : OkL b) (hs : OkL s) : 0 ≤ (price b s).2 ∧ (price b s).2 ≤ 1000000000000 := by
  obtain ⟨h1, h2, h3, h4⟩ := best_price hb hs
  refine ⟨h1, ?_⟩
  rcases Int.lt_or_le 0 (price b s).2 with p | p
  · have e := (h3 p).2
    rw [vol_eq hb hs] at e
    have hf := okl_filter hb (fun o : Ord => decide ((price b s).1 ≤ o.price))
    have := (isum_nonneg _ hf.1).2
    have := hf.2
    unfold highs at e
    omega
  · omega
theorem okl_snoc {l : List Ord} (h : l.all okO = true) (hl : l.length ≤ 1000) {o : Ord} (ho : okO o = true) : OkL (l ++ [o]) := ⟨by rw [List.all_append, h]; simp [ho], by rw [List.length_append, List.length_singleton]; omega⟩
theorem price_more_buy {b s : List Ord} (hb : OkL b) (hs : OkL s) {o : Ord} (hb' : OkL (b ++ [o])) : (price b s).2 ≤ (price (b ++ [o]) s).2 ∧ (price (b ++ [o]) s).2 ≤ (price b s).2 + o.left := by
  have ho := (okOi o).1 (List.all_eq_true.1 hb'.1 o (by simp))
  refine price_more hb hs hb' hs (by omega) fun q => ?_
  rw [vol_eq hb hs, vol_eq hb' hs, show highs (b ++ [o]) q = highs b q ++ [o].filter (fun o => decide (q ≤ o.price)) from List.filter_append .., isum_append]
  have h1 : 0 ≤ isum ([o].filter fun o => decide (q ≤ o.price)) ∧ isum ([o].filter fun o => decide (q ≤ o.price)) ≤ o.left := by
    rw [List.filter_cons]
    split
    · simp [isum]; omega
    · simp [isum]; omega
  omega
theorem price_more_sell {b s : List Ord} (hb : OkL b) (hs : OkL s) {o : Ord} (hs' : OkL (s ++ [o])) : (price b s).2 ≤ (price b (s ++ [o])).2 ∧ (price b (s ++ [o])).2 ≤ (price b s).2 + o.left := by
  have ho := (okOi o).1 (List.all_eq_true.1 hs'.1 o (by simp))
  refine price_more hb hs hb hs' (by omega) fun q => ?_
  rw [vol_eq hb hs, vol_eq hb hs', show lows (s ++ [o]) q = lows s q ++ [o].filter (fun o => decide (o.price ≤ q)) from List.filter_append .., isum_append]
  have h1 : 0 ≤ isum ([o].filter fun o => decide (o.price ≤ q)) ∧ isum ([o].filter fun o => decide (o.price ≤ q)) ≤ o.left := by
    rw [List.filter_cons]
    split
    · simp [isum]; omega
    · simp [isum]; omega
  omega
end Go.Proofs.Ytoachnhdedpbdaa
