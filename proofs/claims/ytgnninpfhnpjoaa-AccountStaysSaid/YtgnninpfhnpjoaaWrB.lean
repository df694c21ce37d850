/- Rows of the call's own that are written: their blocks. -/
import Derived.Test.YtgnninpfhnpjoaaWd
set_option linter.unusedSimpArgs false
set_option linter.unusedVariables false
namespace Go.Proofs.Ytgnninpfhnpjoaa
open Go.RowKit
/-- A block of at least m cells that may be written. -/
def RW (w : World) (g m : Nat) : Prop := ∃ cur t, w.heap[g]? = some (.cells cur t (0, 0)) ∧ m ≤ cur.size
theorem RW.cell {w : World} {g m : Nat} (h : RW w g m) {j : Nat} (hj : j < m) : ∃ v, w.cell? ⟨g, j, none⟩ = some v := by
  obtain ⟨cur, t, hb, hs⟩ := h
  refine ⟨cur[j]'(by omega), ?_⟩
  rw [cell_of_row w g j _ _ _ hb]
  exact Array.getElem?_eq_getElem _
theorem RW.frozen {w : World} {g m : Nat} (h : RW w g m) (j : Nat) : w.frozen? ⟨g, j, none⟩ = false := by
  obtain ⟨cur, t, hb, hs⟩ := h
  exact frozen_of_row w g j _ _ hb
theorem RW.set_ {w : World} {g m : Nat} (h : RW w g m) (g' j : Nat) (u : Value) : RW (w.setCell ⟨g', j, none⟩ u) g m := by
  obtain ⟨cur, t, hb, hs⟩ := h
  by_cases e : g = g'
  · subst e
    exact ⟨_, t, heap_setCell_same w g j cur t u hb, by simpa using hs⟩
  · exact ⟨cur, t, by rw [heap_setCell_other w ⟨g', j, none⟩ g u e]; exact hb, hs⟩
theorem RW.bel {w w1 : World} {g m : Nat} (h : RW w g m) (hb : Bel w w1) : RW w1 g m := by
  obtain ⟨cur, t, k, hs⟩ := h
  exact ⟨cur, t, hb.blk k, hs⟩
def Wrt (w : World) (A : Option Addr) (n base : Nat) : Prop := 0 < n → ∃ g, A = some ⟨g, 0, none⟩ ∧ base ≤ g ∧ RW w g n
theorem Wrt.bel {w w1 : World} {A : Option Addr} {n base : Nat} (h : Wrt w A n base) (hb : Bel w w1) : Wrt w1 A n base := fun hn => by
  obtain ⟨g, e, hg, hr⟩ := h hn
  exact ⟨g, e, hg, hr.bel hb⟩
theorem Wrt.set_ {w : World} {A : Option Addr} {n base : Nat} (h : Wrt w A n base) (g' j : Nat) (u : Value) : Wrt (w.setCell ⟨g', j, none⟩ u) A n base := fun hn => by
  obtain ⟨g, e, hg, hr⟩ := h hn
  exact ⟨g, e, hg, hr.set_ g' j u⟩
theorem Own.wrt {α : Type} {T : Ty α} {w : World} {base : Nat} {v : Value} {xs : List α} (h : Own T w base v xs) : ∃ A c, v = .slice A xs.length c ∧ xs.length ≤ c ∧ Row T w A xs.length xs ∧ Wrt w A (xs.length * T.sz) base := by
  obtain ⟨A, c, rfl, hc, hr⟩ := h.reads
  refine ⟨A, c, rfl, hc, hr, fun hn => ?_⟩
  rcases h.2 with ⟨h1, h0⟩ | ⟨g, cap, cur, h1, h2, h3, h4, h5, h6, h7⟩
  · rw [h0] at hn
    simp at hn
  · injection h1 with e1 e2 e3
    exact ⟨g, e1, h2, cur, T.e, h3, by rw [h6]; exact Nat.mul_le_mul_right _ h4⟩
end Go.Proofs.Ytgnninpfhnpjoaa
