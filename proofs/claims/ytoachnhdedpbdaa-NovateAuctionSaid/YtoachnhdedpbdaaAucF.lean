/- What trades make of two sides: plain law of AuctionFair. -/
import Derived.Test.YtoachnhdedpbdaaAucB
import Derived.Test.YtoachnhdedpbdaaSo16
set_option linter.unusedSimpArgs false
set_option linter.unusedVariables false
namespace Go.Proofs.Ytoachnhdedpbdaa
open Go.RowKit Go.Lib Go.Sort Go.Shelf
def tsum (t : List Trd) : Int := (t.map (·.quantity)).sum
def qB (t : List Trd) (m : Int) : Int := ((t.filter fun x => x.buy == m).map (·.quantity)).sum
def qS (t : List Trd) (m : Int) : Int := ((t.filter fun x => x.sell == m).map (·.quantity)).sum
def qF (a : List Fil) (m : Int) : Int := ((a.filter fun x => x.number == m).map (·.quantity)).sum
theorem qB_cons (x : Trd) (t : List Trd) (m : Int) : qB (x :: t) m = (if x.buy = m then x.quantity else 0) + qB t m := by
  unfold qB
  by_cases h : x.buy = m <;> simp [h]
theorem qS_cons (x : Trd) (t : List Trd) (m : Int) : qS (x :: t) m = (if x.sell = m then x.quantity else 0) + qS t m := by
  unfold qS
  by_cases h : x.sell = m <;> simp [h]
theorem qF_cons (x : Fil) (t : List Fil) (m : Int) : qF (x :: t) m = (if x.number = m then x.quantity else 0) + qF t m := by
  unfold qF
  by_cases h : x.number = m <;> simp [h]
theorem tsum_cons (x : Trd) (t : List Trd) : tsum (x :: t) = x.quantity + tsum t := by simp [tsum]
theorem psum_cons (x : Fil) (t : List Fil) : psum (x :: t) = x.quantity + psum t := by simp [psum]
def pos (a : List Fil) : Prop := ∀ x ∈ a, 1 ≤ x.quantity ∧ x.quantity ≤ 1000000
theorem pos_nil_of {a : List Fil} (h : pos a) (h0 : psum a = 0) : a = [] := by
  cases a with
  | nil => rfl
  | cons x a =>
    exfalso
    have h1 := (h x (List.mem_cons_self ..)).1
    have h2 : 0 ≤ psum a := by
      have h3 : ∀ y ∈ a, 1 ≤ y.quantity := fun y hy => (h y (List.mem_cons_of_mem _ hy)).1
      clear h h0 h1
      induction a with
      | nil => simp [psum]
      | cons y a ih =>
        rw [psum_cons]
        have := ih (fun z hz => h3 z (List.mem_cons_of_mem _ hz))
        have := h3 y (List.mem_cons_self ..)
        omega
    rw [psum_cons] at h0
    omega
/-- What is left of a list of fills when so much of the first one is taken. -/
def cutF (x : Fil) (n : Int) (a : List Fil) : List Fil := if wrap64 (x.quantity - n) = 0 then a else ⟨x.number, wrap64 (x.quantity - n)⟩ :: a
theorem cutF_is {x : Fil} {n : Int} {a : List Fil} (h : pos (x :: a)) (h0 : 0 ≤ n) (h1 : n ≤ x.quantity) :
    psum (cutF x n a) = x.quantity - n + psum a ∧ (∀ m, qF (cutF x n a) m = (if x.number = m then x.quantity - n else 0) + qF a m) ∧ pos (cutF x n a) ∧ (cutF x n a).length ≤ a.length + 1 ∧ (n = x.quantity → (cutF x n a).length = a.length) := by
  have hx := h x (List.mem_cons_self ..)
  have hw : wrap64 (x.quantity - n) = x.quantity - n := by unfold wrap64; omega
  have ha : pos a := fun y hy => h y (List.mem_cons_of_mem _ hy)
  unfold cutF
  rw [hw]
  by_cases e : x.quantity - n = 0
  · rw [if_pos e]
    refine ⟨by omega, fun m => ?_, ha, by omega, fun _ => rfl⟩
    split <;> omega
  · rw [if_neg e]
    refine ⟨by rw [psum_cons], fun m => by rw [qF_cons], ?_, by simp, fun k => absurd k (by omega)⟩
    intro y hy
    rcases List.mem_cons.1 hy with rfl | hy
    · show 1 ≤ x.quantity - n ∧ x.quantity - n ≤ 1000000
      omega
    · exact ha y hy
theorem pair_cons (p : Int) (f : Nat) (x y : Fil) (a b : List Fil) : pair p (f + 1) (x :: a) (y :: b) = ⟨x.number, y.number, min x.quantity y.quantity, p⟩ :: pair p f (cutF x (min x.quantity y.quantity) a) (cutF y (min x.quantity y.quantity) b) := rfl
theorem pair_law (p : Int) : ∀ (f : Nat) (a b : List Fil), a.length + b.length ≤ f → pos a → pos b → psum a = psum b →
    (∀ m, qB (pair p f a b) m = qF a m) ∧ (∀ m, qS (pair p f a b) m = qF b m) ∧ tsum (pair p f a b) = psum a ∧ ∀ x ∈ pair p f a b, 1 ≤ x.quantity ∧ x.quantity ≤ 1000000 ∧ x.price = p
  | 0, a, b, hl, _, _, _ => by
    have ha : a = [] := List.eq_nil_of_length_eq_zero (by omega)
    have hb : b = [] := List.eq_nil_of_length_eq_zero (by omega)
    subst ha hb
    simp [pair, qB, qS, qF, tsum, psum]
  | f + 1, [], b, _, _, hb, hs => by
    have hb0 : b = [] := pos_nil_of hb (by rw [← hs]; rfl)
    subst hb0
    simp [pair, qB, qS, qF, tsum, psum]
  | f + 1, x :: a, [], _, ha, _, hs => by
    have := pos_nil_of ha (by rw [hs]; rfl)
    simp at this
  | f + 1, x :: a, y :: b, hl, ha, hb, hs => by
    rw [pair_cons]
    have hx := ha x (List.mem_cons_self ..)
    have hy := hb y (List.mem_cons_self ..)
    obtain ⟨n, hn⟩ : ∃ n, min x.quantity y.quantity = n := ⟨_, rfl⟩
    rw [hn]
    obtain ⟨a1, a2, a3, a4, a5⟩ := cutF_is ha (n := n) (by omega) (by omega)
    obtain ⟨b1, b2, b3, b4, b5⟩ := cutF_is hb (n := n) (by omega) (by omega)
    rw [psum_cons, psum_cons] at hs
    simp only [List.length_cons] at hl
    have hlen : (cutF x n a).length + (cutF y n b).length ≤ f := by
      rcases Int.le_total x.quantity y.quantity with h | h
      · have := a5 (by omega); omega
      · have := b5 (by omega); omega
    obtain ⟨c1, c2, c3, c4⟩ := pair_law p f _ _ hlen a3 b3 (by rw [a1, b1]; omega)
    refine ⟨fun m => ?_, fun m => ?_, ?_, fun z hz => ?_⟩
    · rw [qB_cons, c1, a2, qF_cons]
      simp only
      split <;> omega
    · rw [qS_cons, c2, b2, qF_cons]
      simp only
      split <;> omega
    · rw [tsum_cons, c3, a1, psum_cons]
      show n + (x.quantity - n + psum a) = x.quantity + psum a
      omega
    · rcases List.mem_cons.1 hz with e | hz
      · rw [e]
        exact ⟨show 1 ≤ n by omega, show n ≤ 1000000 by omega, rfl⟩
      · exact c4 z hz
/-- The fill of a number among unlike ones. -/
theorem qF_at {a : List Fil} (h : (a.map (·.number)).Nodup) {i : Nat} {y : Fil} (hi : a[i]? = some y) : qF a y.number = y.quantity := by
  induction a generalizing i with
  | nil => simp at hi
  | cons x a ih =>
    rw [List.map_cons, List.nodup_cons] at h
    rw [qF_cons]
    cases i with
    | zero =>
      obtain rfl : x = y := by simpa using hi
      rw [if_pos rfl]
      have : a.filter (fun z => z.number == x.number) = [] := by
        rw [List.filter_eq_nil_iff]
        intro z hz e
        exact h.1 (List.mem_map.2 ⟨z, hz, by simpa using e⟩)
      unfold qF
      rw [this]
      simp
    | succ i =>
      have hi' : a[i]? = some y := by simpa using hi
      rw [ih h.2 hi', if_neg]
      · omega
      · intro e
        exact h.1 (List.mem_map.2 ⟨y, List.mem_of_getElem? hi', e.symm⟩)
theorem qF_none {a : List Fil} {m : Int} (h : ∀ x ∈ a, x.number ≠ m) : qF a m = 0 := by
  unfold qF
  have : a.filter (fun z => z.number == m) = [] := by
    rw [List.filter_eq_nil_iff]
    intro z hz e
    exact h z hz (by simpa using e)
  rw [this]
  rfl
/-- What holds of one that stands behind holds of all ahead: those of which it holds come first. -/
theorem filter_ahead {g : Ord → Bool} : ∀ {l : List Ord}, l.Pairwise (fun x y => g y = true → g x = true) → ∃ r, l = l.filter g ++ r
  | [], _ => ⟨[], rfl⟩
  | x :: l, h => by
    have h1 := List.pairwise_cons.1 h
    cases hg : g x
    · refine ⟨x :: l, ?_⟩
      have : (x :: l).filter g = [] := by
        rw [List.filter_eq_nil_iff]
        intro z hz e
        rcases List.mem_cons.1 hz with rfl | hz
        · rw [hg] at e; exact absurd e (by simp)
        · have := h1.1 z hz e; rw [hg] at this; exact absurd this (by simp)
      rw [this]
      rfl
    · obtain ⟨r, hr⟩ := filter_ahead h1.2
      refine ⟨r, ?_⟩
      rw [List.filter_cons_of_pos hg, List.cons_append, ← hr]
/-- How a side stands that is filled from the best one on. -/
theorem side_law {sd H R : List Ord} {q : Int} (hs : sd = H ++ R) (hok : sd.all okO = true) (hu : (sd.map (·.number)).Nodup) (hq : q ≤ 9223372036854775807) {i : Nat} {o : Ord} (hi : sd[i]? = some o) :
    qF (fills H q) o.number ≤ o.left ∧ (0 < qF (fills H q) o.number → o ∈ H) ∧ ∀ (j : Nat) (o' : Ord), j < i → sd[j]? = some o' → qF (fills H q) o'.number < o'.left → ¬ 0 < qF (fills H q) o.number := by
  have hH : H.all okO = true := by
    rw [hs, List.all_append, Bool.and_eq_true] at hok
    exact hok.1
  obtain ⟨law, _⟩ := fills_law H q hH hq
  have hlen := fills_len H q
  have hpre : ∀ k, k < (fills H q).length → sd[k]? = H[k]? := fun k hk => by rw [hs, List.getElem?_append_left (by omega)]
  have hat : ∀ (k : Nat) (x : Ord), k < (fills H q).length → sd[k]? = some x → ∃ y, (fills H q)[k]? = some y ∧ y.number = x.number ∧ 1 ≤ y.quantity ∧ y.quantity ≤ x.left ∧ (k + 1 < (fills H q).length → y.quantity = x.left) ∧ x ∈ H := by
    intro k x hk hx
    rw [hpre k hk] at hx
    obtain ⟨a1, a2, a3, a4⟩ := law k x _ hx (List.getElem?_eq_getElem hk)
    exact ⟨_, List.getElem?_eq_getElem hk, a1, a2, a3, a4, List.mem_of_getElem? hx⟩
  have hnum : ∀ y ∈ fills H q, ∃ k x, k < (fills H q).length ∧ sd[k]? = some x ∧ y.number = x.number := by
    intro y hy
    obtain ⟨k, hk, e⟩ := List.mem_iff_getElem.1 hy
    have hk2 : k < sd.length := by rw [hs, List.length_append]; omega
    obtain ⟨y', h1, h2, _⟩ := hat k _ hk (List.getElem?_eq_getElem hk2)
    rw [List.getElem?_eq_getElem hk, e] at h1
    cases h1
    exact ⟨k, _, hk, List.getElem?_eq_getElem hk2, h2⟩
  have huniq : ∀ (j k : Nat) (x z : Ord), sd[j]? = some x → sd[k]? = some z → x.number = z.number → j = k := by
    intro j k x z h1 h2 e
    obtain ⟨p1, q1⟩ := List.getElem?_eq_some_iff.1 h1
    obtain ⟨p2, q2⟩ := List.getElem?_eq_some_iff.1 h2
    rcases Nat.lt_trichotomy j k with h | h | h
    · have := List.pairwise_iff_getElem.1 hu j k (by simpa using p1) (by simpa using p2) h
      simp only [List.getElem_map, q1, q2] at this
      exact absurd e this
    · exact h
    · have := List.pairwise_iff_getElem.1 hu k j (by simpa using p2) (by simpa using p1) h
      simp only [List.getElem_map, q1, q2] at this
      exact absurd e.symm this
  have hund : ((fills H q).map (·.number)).Nodup := by
    unfold List.Nodup
    rw [List.pairwise_iff_getElem]
    intro j k hj hk hjk e
    simp only [List.getElem_map] at e
    simp only [List.length_map] at hj hk
    have hj2 : j < sd.length := by rw [hs, List.length_append]; omega
    have hk2 : k < sd.length := by rw [hs, List.length_append]; omega
    obtain ⟨y1, g1, g2, _⟩ := hat j _ hj (List.getElem?_eq_getElem hj2)
    obtain ⟨y2, g3, g4, _⟩ := hat k _ hk (List.getElem?_eq_getElem hk2)
    rw [List.getElem?_eq_getElem hj] at g1
    rw [List.getElem?_eq_getElem hk] at g3
    cases g1
    cases g3
    have := huniq j k _ _ (List.getElem?_eq_getElem hj2) (List.getElem?_eq_getElem hk2) (by rw [← g2, ← g4]; exact e)
    omega
  have val : ∀ (k : Nat) (x : Ord), sd[k]? = some x → (k < (fills H q).length ∧ x ∈ H ∧ 1 ≤ qF (fills H q) x.number ∧ qF (fills H q) x.number ≤ x.left ∧ (k + 1 < (fills H q).length → qF (fills H q) x.number = x.left)) ∨ ((fills H q).length ≤ k ∧ qF (fills H q) x.number = 0) := by
    intro k x hx
    rcases Nat.lt_or_ge k (fills H q).length with h | h
    · obtain ⟨y, g1, g2, g3, g4, g5, g6⟩ := hat k x h hx
      have e := qF_at hund g1
      rw [g2] at e
      exact .inl ⟨h, g6, by rw [e]; exact g3, by rw [e]; exact g4, fun k => by rw [e]; exact g5 k⟩
    · refine .inr ⟨h, qF_none fun y hy e => ?_⟩
      obtain ⟨k', x', h1, h2, h3⟩ := hnum y hy
      have := huniq k' k x' x h2 hx (by rw [← h3]; exact e)
      omega
  have hleft : 1 ≤ o.left := ((okOi o).1 (List.all_eq_true.1 hok o (List.mem_of_getElem? hi))).2.2.1
  refine ⟨?_, ?_, ?_⟩
  · rcases val i o hi with h | h
    · exact h.2.2.2.1
    · rw [h.2]; omega
  · intro h0
    rcases val i o hi with h | h
    · exact h.2.1
    · omega
  · intro j o' hj ho' hlt h0
    rcases val j o' ho' with h | h
    · rcases val i o hi with g | g
      · have := h.2.2.2.2 (by omega)
        omega
      · omega
    · rcases val i o hi with g | g
      · omega
      · omega
end Go.Proofs.Ytoachnhdedpbdaa
