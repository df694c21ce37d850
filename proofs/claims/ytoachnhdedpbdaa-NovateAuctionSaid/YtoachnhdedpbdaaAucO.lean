/- Orders that may be auctioned. -/
import Derived.Test.YtoachnhdedpbdaaAuc3
set_option linter.unusedSimpArgs false
set_option linter.unusedVariables false
namespace Go.Proofs.Ytoachnhdedpbdaa
open Go.RowKit
def okO (o : Ord) : Bool := decide (1 ≤ o.price) && (decide (o.price ≤ 1000000) && (decide (1 ≤ o.left) && decide (o.left ≤ 1000000)))
def mayB (l : List Ord) : Bool := decide (l.length ≤ 200) && l.all okO

theorem all_take {α : Type} (f : α → Bool) (l : List α) (k : Nat) {x : α} (h : l[k]? = some x) : (l.take (k + 1)).all f = ((l.take k).all f && f x) := by
  rw [List.take_add_one, h, List.all_append]
  simp
theorem all_false {α : Type} (f : α → Bool) (l : List α) (k : Nat) {x : α} (h : l[k]? = some x) (hx : f x = false) : l.all f = false := by
  rw [List.all_eq_false]
  exact ⟨x, List.mem_of_getElem? h, by rw [hx]; decide⟩

end Go.Proofs.Ytoachnhdedpbdaa
