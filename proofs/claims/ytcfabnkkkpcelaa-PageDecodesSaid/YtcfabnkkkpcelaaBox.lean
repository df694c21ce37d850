/- Boxes (as Bx, without the lists of ints). -/
import Derived.Test.YtcfabnkkkpcelaaWd
set_option linter.unusedSimpArgs false
set_option linter.unusedVariables false
namespace Go.Proofs.Ytcfabnkkkpcelaa
open Go.RowKit
theorem sizeAl (W : World) (o : Obj) : (W.alloc o).heap.size = W.heap.size + 1 := by simp
theorem Row.grown_ {α : Type} {T : Ty α} {W w1 : World} {A : Option Addr} {n : Nat} {xs : List α} {row : Option Nat} (h : Row T W A n xs) (hg : W.grownBy w1 row) (hne : ∀ ad, A = some ad → some ad.block ≠ row) : Row T w1 A n xs := by
  refine ⟨h.1, h.2.1, fun hn => ?_⟩
  obtain ⟨ad, e, hc⟩ := h.2.2 hn
  refine ⟨ad, e, fun j x hj i u hu => hg.cell (hc j x hj i u hu) ?_⟩
  have hb : (ad.add (j * T.sz + i)).block = ad.block := by unfold Addr.add; split <;> rfl
  rw [hb]
  exact hne ad e
theorem grownSet (w : World) (g o : Nat) (u : Value) : w.grownBy (w.setCell ⟨g, o, none⟩ u) (some g) := ⟨rfl, rfl, rfl, by simp, fun i hi hne => heap_setCell_other w _ i u (fun e => hne (by rw [e]))⟩
def Bx (W : World) (g : Nat) (t : TypeId) (vs : List Value) : Prop := W.heap[g]? = some (.cells vs.toArray t (0, 0))
theorem Bx.new (W : World) (t : TypeId) (vs : List Value) : Bx (W.alloc (.cells vs.toArray t)) W.heap.size t vs := heap_alloc_new W _
theorem Bx.bel {W W' : World} {g : Nat} {t : TypeId} {vs : List Value} (h : Bx W g t vs) (hb : Bel W W') : Bx W' g t vs := hb.blk h
theorem Bx.alloc {W : World} {g : Nat} {t : TypeId} {vs : List Value} (h : Bx W g t vs) (o : Obj) : Bx (W.alloc o) g t vs := h.bel ((Bel.refl W).alloc o)
theorem Bx.cell {W : World} {g : Nat} {t : TypeId} {vs : List Value} (h : Bx W g t vs) (j : Nat) {v : Value} (hv : vs[j]? = some v) : W.cell? ⟨g, j, none⟩ = some v := by
  rw [cell_of_row W g j _ _ _ h, List.getElem?_toArray, hv]
theorem Bx.frozen {W : World} {g : Nat} {t : TypeId} {vs : List Value} (h : Bx W g t vs) (j : Nat) : W.frozen? ⟨g, j, none⟩ = false := frozen_of_row W g j _ _ h
theorem Bx.set {W : World} {g : Nat} {t : TypeId} {vs : List Value} (h : Bx W g t vs) (j : Nat) (u : Value) : Bx (W.setCell ⟨g, j, none⟩ u) g t (vs.set j u) := by
  have := heap_setCell_same W g j _ t u h
  unfold Bx
  rw [this]
  simp
theorem Bx.far {W : World} {g g' j : Nat} {t : TypeId} {vs : List Value} (h : Bx W g t vs) (hne : g ≠ g') (u : Value) : Bx (W.setCell ⟨g', j, none⟩ u) g t vs := by
  unfold Bx
  rw [heap_setCell_other W ⟨g', j, none⟩ g u hne]
  exact h
theorem Bx.lt {W : World} {g : Nat} {t : TypeId} {vs : List Value} (h : Bx W g t vs) : g < W.heap.size := (Array.getElem?_eq_some_iff.1 h).1
/-- A row that lies in another block. -/
theorem Row.far {α : Type} {T : Ty α} {W : World} {A : Option Addr} {n g j : Nat} {xs : List α} (h : Row T W A n xs) (u : Value) (hne : ∀ ad, A = some ad → ad.block ≠ g) : Row T (W.setCell ⟨g, j, none⟩ u) A n xs :=
  h.grown_ (grownSet W g j u) (fun ad e e' => hne ad e (by injection e'))
/-- A row of the call's own is read, and lies beyond its base. -/
theorem Own.rowAt {α : Type} {T : Ty α} {w : World} {base : Nat} {v : Value} {xs : List α} (h : Own T w base v xs) : ∃ A c, v = .slice A xs.length c ∧ xs.length ≤ c ∧ Row T w A xs.length xs ∧ ∀ ad, A = some ad → base ≤ ad.block := by
  obtain ⟨A, c, rfl, hc, hr⟩ := h.reads
  exact ⟨A, c, rfl, hc, hr, fun ad e => h.base_ ad.block (by rw [e]; rfl)⟩
theorem Bel.setBx {w W : World} (h : Bel w W) {g j : Nat} (hg : w.heap.size ≤ g) (u : Value) : Bel w (W.setCell ⟨g, j, none⟩ u) := h.set_ hg u
end Go.Proofs.Ytcfabnkkkpcelaa
