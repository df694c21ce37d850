/- AuctionFair in plain words. -/
import Derived.Test.YtoachnhdedpbdaaAucF
set_option linter.unusedSimpArgs false
set_option linter.unusedVariables false
namespace Go.Proofs.Ytoachnhdedpbdaa
open Go.RowKit Go.Lib Go.Sort Go.Shelf
theorem okl_side {l : List Ord} (hm : mayB l = true) (lt : Ord → Ord → Bool) (f : Ord → Bool) : OkL (st lt (l.filter f)) ∧ (st lt (l.filter f)).length ≤ 200 := by
  obtain ⟨h1, h2⟩ := (mayB_iff l).1 hm
  have hp := st_perm lt (l.filter f)
  have hl : (st lt (l.filter f)).length ≤ l.length := by rw [hp.length_eq]; exact List.length_filter_le _ _
  refine ⟨⟨List.all_eq_true.2 fun x hx => ?_, by omega⟩, by omega⟩
  exact List.all_eq_true.1 h2 x (List.mem_filter.1 (hp.mem_iff.1 hx)).1
theorem unl_side {l : List Ord} (hu : (l.map (·.number)).Nodup) (lt : Ord → Ord → Bool) (f : Ord → Bool) : ((st lt (l.filter f)).map (·.number)).Nodup := by
  rw [((st_perm lt (l.filter f)).map _).nodup_iff]
  exact List.Pairwise.sublist ((List.filter_sublist ..).map _) hu
theorem pos_fills {l : List Ord} {q : Int} (h : l.all okO = true) (hq : q ≤ 9223372036854775807) : pos (fills l q) := by
  intro y hy
  obtain ⟨law, _⟩ := fills_law l q h hq
  obtain ⟨k, hk, e⟩ := List.mem_iff_getElem.1 hy
  have hkl : k < l.length := by have := fills_len l q; omega
  obtain ⟨_, a2, a3, _⟩ := law k _ y (List.getElem?_eq_getElem hkl) (by rw [List.getElem?_eq_getElem hk, e])
  have := (okOi l[k]).1 (List.all_eq_true.1 h _ (List.getElem_mem hkl))
  omega
theorem asc_high {l : List Ord} (mk : ByteArray) (p : Int) : (buysL l mk).Pairwise (fun x y => (fun o => decide (p ≤ o.price)) y = true → (fun o : Ord => decide (p ≤ o.price)) x = true) := by
  refine List.Pairwise.imp ?_ (asc_st swoB (l.filter (pick mk true)))
  intro x y h hy
  simp [ltB] at h hy ⊢
  omega
theorem asc_low {l : List Ord} (mk : ByteArray) (p : Int) : (sellsL l mk).Pairwise (fun x y => (fun o => decide (o.price ≤ p)) y = true → (fun o : Ord => decide (o.price ≤ p)) x = true) := by
  refine List.Pairwise.imp ?_ (asc_st swoS (l.filter (pick mk false)))
  intro x y h hy
  simp [ltS] at h hy ⊢
  omega
def qN (b : Bool) (t : List Trd) (m : Int) : Int := if b then qB t m else qS t m
/-- A side is filled from the best one on. -/
def Fair (b : Bool) (sd : List Ord) (t : List Trd) (p : Int) : Prop :=
  ∀ (i : Nat) (o : Ord), sd[i]? = some o → qN b t o.number ≤ o.left ∧ (0 < qN b t o.number → if b then p ≤ o.price else o.price ≤ p) ∧ ∀ (j : Nat) (o' : Ord), j < i → sd[j]? = some o' → qN b t o'.number < o'.left → ¬ 0 < qN b t o.number
theorem fair_law {l : List Ord} (mk : ByteArray) (hm : mayB l = true) (hu : (l.map (·.number)).Nodup) :
    (∀ x ∈ trades (buysL l mk) (sellsL l mk), 1 ≤ x.quantity ∧ x.quantity ≤ 1000000 ∧ x.price = (price (buysL l mk) (sellsL l mk)).1) ∧
    tsum (trades (buysL l mk) (sellsL l mk)) = (price (buysL l mk) (sellsL l mk)).2 ∧
    Fair true (buysL l mk) (trades (buysL l mk) (sellsL l mk)) (price (buysL l mk) (sellsL l mk)).1 ∧
    Fair false (sellsL l mk) (trades (buysL l mk) (sellsL l mk)) (price (buysL l mk) (sellsL l mk)).1 := by
  obtain ⟨hb, hbl⟩ := okl_side hm ltB (pick mk true)
  obtain ⟨hs, hsl⟩ := okl_side hm ltS (pick mk false)
  have hub := unl_side hu ltB (pick mk true)
  have hus := unl_side hu ltS (pick mk false)
  have hah := asc_high (l := l) mk (price (buysL l mk) (sellsL l mk)).1
  have hal := asc_low (l := l) mk (price (buysL l mk) (sellsL l mk)).1
  change OkL (buysL l mk) at hb
  change OkL (sellsL l mk) at hs
  change ((buysL l mk).map (·.number)).Nodup at hub
  change ((sellsL l mk).map (·.number)).Nodup at hus
  generalize buysL l mk = b at *
  generalize sellsL l mk = s at *
  have hbest := best_price hb hs
  unfold Best at hbest
  have hle := price_le hb hs
  unfold trades tradesA tradesB
  generalize (price b s).1 = p at *
  obtain ⟨v, hv⟩ : ∃ v, (price b s).2 = v := ⟨_, rfl⟩
  rw [hv] at hbest hle ⊢
  have hH : (highs b p).all okO = true := List.all_eq_true.2 fun x hx => List.all_eq_true.1 hb.1 x (List.mem_filter.1 hx).1
  have hL : (lows s p).all okO = true := List.all_eq_true.2 fun x hx => List.all_eq_true.1 hs.1 x (List.mem_filter.1 hx).1
  have hpa : pos (fills (highs b p) v) := pos_fills hH (by omega)
  have hpb : pos (fills (lows s p) v) := pos_fills hL (by omega)
  have ha := (fills_law (highs b p) v hH (by omega)).2
  have hbb := (fills_law (lows s p) v hL (by omega)).2
  have hn1 := (isum_nonneg _ hH).1
  have hn2 := (isum_nonneg _ hL).1
  have hvv : psum (fills (highs b p) v) = v ∧ psum (fills (lows s p) v) = v := by
    rw [ha, hbb]
    rcases Int.lt_or_le 0 v with h0 | h0
    · have h1 := (hbest.2.2.1 h0).2
      rw [vol_eq hb hs] at h1
      omega
    · omega
  obtain ⟨c1, c2, c3, c4⟩ := pair_law p ((fills (highs b p) v).length + (fills (lows s p) v).length) _ _ (Nat.le_refl _) hpa hpb (by rw [hvv.1, hvv.2])
  obtain ⟨r1, hr1⟩ := filter_ahead hah
  obtain ⟨r2, hr2⟩ := filter_ahead hal
  refine ⟨c4, by rw [c3, hvv.1], ?_, ?_⟩
  · intro i o hi
    unfold qN
    simp only [if_true, c1]
    obtain ⟨d1, d2, d3⟩ := side_law (H := highs b p) (R := r1) hr1 hb.1 hub (by omega) hi (q := v)
    refine ⟨d1, fun h => by simpa using (List.mem_filter.1 (d2 h)).2, d3⟩
  · intro i o hi
    unfold qN
    simp only [if_false, c2, Bool.false_eq_true]
    obtain ⟨d1, d2, d3⟩ := side_law (H := lows s p) (R := r2) hr2 hs.1 hus (by omega) hi (q := v)
    refine ⟨d1, fun h => by simpa using (List.mem_filter.1 (d2 h)).2, d3⟩
end Go.Proofs.Ytoachnhdedpbdaa
