/- auction.Fills, Trades: what they answer. -/
import Derived.Test.YtoachnhdedpbdaaAuc1
import Derived.Test.YtoachnhdedpbdaaTyFil
set_option linter.unusedSimpArgs false
set_option linter.unusedVariables false
namespace Go.Proofs.Ytoachnhdedpbdaa
open Go.RowKit

/-- How much of each order of a side is filled, in turn. -/
def fills : List Ord → Int → List Fil
  | [], _ => []
  | o :: l, q => if q ≤ 0 then [] else ⟨o.number, min o.left q⟩ :: fills l (wrap64 (q - min o.left q))
/-- The same from the other end: what is filled by the first k, and what is left of the quantity. -/
def fillsTo (l : List Ord) (q : Int) : Nat → List Fil × Int
  | 0 => ([], q)
  | k + 1 => match l[k]? with
    | none => fillsTo l q k
    | some o => ((fillsTo l q k).1 ++ [⟨o.number, min o.left (fillsTo l q k).2⟩], wrap64 ((fillsTo l q k).2 - min o.left (fillsTo l q k).2))
theorem fillsTo_len (l : List Ord) (q : Int) : ∀ k, (fillsTo l q k).1.length ≤ k
  | 0 => by simp [fillsTo]
  | k + 1 => by
    unfold fillsTo
    split
    · exact Nat.le_succ_of_le (fillsTo_len l q k)
    · simp only [List.length_append, List.length_singleton]
      exact Nat.succ_le_succ (fillsTo_len l q k)
/-- Up to k nothing is short: then the rest is that of what is left. -/
theorem fills_at (l : List Ord) (q : Int) : ∀ k, (∀ j, j < k → ¬ (fillsTo l q j).2 ≤ 0) → k ≤ l.length → fills l q = (fillsTo l q k).1 ++ fills (l.drop k) (fillsTo l q k).2
  | 0, _, _ => by simp [fillsTo]
  | k + 1, h, hk => by
    have ih := fills_at l q k (fun j hj => h j (by omega)) (by omega)
    have hlt : k < l.length := by omega
    have hget : l[k]? = some l[k] := List.getElem?_eq_getElem hlt
    rw [ih, List.drop_eq_getElem_cons hlt]
    conv => lhs; rw [fills, if_neg (h k (by omega))]
    conv => rhs; unfold fillsTo; rw [hget]
    simp

set_option maxHeartbeats 2000000 in
theorem fills_any (A : Option Addr) (n c : Nat) (l : List Ord) (q : Int) (w : World) (h1 : Row ordT w A n l) (hs : n * 64 ≤ 140737488355328) :
    Calls Try.prog 46 #[.slice A n c, .int .i64 q] w fun e w' => ∃ v, e = .returned v ∧ Own filT w' w.heap.size v (fills l q) ∧ Bel w w' := by
  have hn := h1.2.1
  go_enter Try.func46, Try.ntmps46
  go_wp2
  go_loopw [1, 4, 6, 7, 10] (fun r v _ _ i wr => ∃ k : Nat, k ≤ n ∧ i = .int .i64 k ∧ r = .int .i64 (fillsTo l q k).2 ∧ Own filT wr w.heap.size v (fillsTo l q k).1 ∧ (∀ j, j < k → ¬ (fillsTo l q j).2 ≤ 0) ∧ Bel w wr) (fun _ _ _ _ i _ => n - (intOf i).toNat)
  case atStart => exact ⟨0, by omega, rfl, rfl, Own.nil_ _ _ _, fun j hj => absurd hj (by omega), Bel.refl _⟩
  case round =>
    obtain ⟨k, hk, rfl, rfl, hO, hall, hbr⟩ := hrel
    have hat := fills_at l q k hall (by rw [h1.1]; exact hk)
    have hlen := fillsTo_len l q k
    by_cases hkn : k < n
    · obtain ⟨ad, number, who, market, buy, price, left, rfl, ho, d0, d1, d2, d3, d4, d5⟩ := (h1.bel hbr).ord hkn
      have hstep : fillsTo l q (k + 1) = ((fillsTo l q k).1 ++ [⟨number, min left (fillsTo l q k).2⟩], wrap64 ((fillsTo l q k).2 - min left (fillsTo l q k).2)) := by
        conv => lhs; unfold fillsTo
        rw [ho]
      have hlast : ∀ j, j < k + 1 → j < k ∨ j = k := by omega
      by_cases hq : (fillsTo l q k).2 ≤ 0
      · have hnil : fills (l.drop k) (fillsTo l q k).2 = [] := by
          rw [List.drop_eq_getElem_cons (by rw [h1.1]; exact hkn), fills, if_pos hq]
        rw [hnil, List.append_nil] at hat
        rw [← hat] at hO
        have HA : Hid (fills l q = (fillsTo l q k).1) := hat
        clear hat hnil hstep hall hlen
        go_wp2
        go_ret
        exact ⟨_, rfl, hO.alloc_ _, hbr.alloc _⟩
      · have hall' : ∀ j, j < k + 1 → ¬ (fillsTo l q j).2 ≤ 0 := fun j hj => by
          rcases hlast j hj with h | h
          · exact hall j h
          · rw [h]; exact hq
        have HA : Hid (∀ j, j < k + 1 → ¬ (fillsTo l q j).2 ≤ 0) := hall'
        have HS : Hid (fillsTo l q (k + 1) = ((fillsTo l q k).1 ++ [⟨number, min left (fillsTo l q k).2⟩], wrap64 ((fillsTo l q k).2 - min left (fillsTo l q k).2))) := hstep
        clear hall' hall hat hstep hlast
        by_cases hlt : (fillsTo l q k).2 < left
        · have hm : min left (fillsTo l q k).2 = (fillsTo l q k).2 := by omega
          have h00 : wrap64 ((fillsTo l q k).2 - (fillsTo l q k).2) = 0 := by unfold wrap64; omega
          rw [hm, h00] at HS
          clear hm h00
          go_wp2_with (at_builtin; refine wpApp (w0 := w) filS rfl _ _ rfl _ (fillsTo l q k).1 [⟨number, (fillsTo l q k).2⟩] _ 1 1 rfl rfl (hO.bel (((Bel.refl _).alloc _).alloc _)) (Row.one (T := filT) _ rfl (by simp)) ((hbr.alloc _).alloc _) (by omega) ?_; intro v1 w1 hO1 hb1 _ _)
          case roundEnd =>
            go_roundw
            case rel => exact ⟨k + 1, by omega, by go_num, by rw [HS.out], by rw [HS.out]; exact hO1, HA.out, hb1⟩
            case measure => simp [intOf]; omega
        · have hm : min left (fillsTo l q k).2 = left := by omega
          rw [hm] at HS
          clear hm
          go_wp2_with (at_builtin; refine wpApp (w0 := w) filS rfl _ _ rfl _ (fillsTo l q k).1 [⟨number, left⟩] _ 1 1 rfl rfl (hO.bel (((Bel.refl _).alloc _).alloc _)) (Row.one (T := filT) _ rfl (by simp)) ((hbr.alloc _).alloc _) (by omega) ?_; intro v1 w1 hO1 hb1 _ _)
          case roundEnd =>
            go_roundw
            case rel => exact ⟨k + 1, by omega, by go_num, by rw [HS.out], by rw [HS.out]; exact hO1, HA.out, hb1⟩
            case measure => simp [intOf]; omega
    · have : k = n := by omega
      subst this
      have hnil : fills (l.drop k) (fillsTo l q k).2 = [] := by rw [← h1.1, List.drop_length, fills]
      rw [hnil, List.append_nil] at hat
      rw [← hat] at hO
      clear hat hnil hall hlen
      go_wp2
      go_ret
      exact ⟨_, rfl, hO, hbr⟩
end Go.Proofs.Ytoachnhdedpbdaa
