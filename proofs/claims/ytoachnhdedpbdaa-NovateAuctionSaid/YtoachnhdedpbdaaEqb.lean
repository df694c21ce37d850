/- Texts and their bytes; equality as a Bool. -/
import Derived.Test.YtoachnhdedpbdaaWd
import Derived.Laws.StructEq
namespace Go.Proofs.Ytoachnhdedpbdaa
open Go.RowKit Go.Lib
noncomputable def eqB {α : Type} (x y : α) : Bool := @decide (x = y) (Classical.propDecidable _)
theorem eqB_1 {α : Type} {x y : α} (h : x = y) : eqB x y = true := by
  unfold eqB
  exact @decide_eq_true _ (Classical.propDecidable _) h
theorem eqB_0 {α : Type} {x y : α} (h : x ≠ y) : eqB x y = false := by
  unfold eqB
  exact @decide_eq_false _ (Classical.propDecidable _) h
theorem eqB_of {α : Type} {x y : α} (h : eqB x y = true) : x = y := by
  unfold eqB at h
  exact @of_decide_eq_true _ (Classical.propDecidable _) h
theorem listsIff (a b : ByteArray) : a.toList = b.toList ↔ a = b := by
  rw [ByteArray.toList_eq, ByteArray.toList_eq]
  obtain ⟨⟨x⟩⟩ := a
  obtain ⟨⟨y⟩⟩ := b
  simp
end Go.Proofs.Ytoachnhdedpbdaa
