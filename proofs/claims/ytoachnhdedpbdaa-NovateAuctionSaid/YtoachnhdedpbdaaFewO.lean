/- Few orders, of short texts. -/
import Derived.Test.YtoachnhdedpbdaaNv2
import Derived.Test.YtoachnhdedpbdaaTyOrd
namespace Go.Proofs.Ytoachnhdedpbdaa
open Go.RowKit Go.Lib
def ordShort (o : Ord) : Bool := decide (o.who.size ≤ 100) && decide (o.market.size ≤ 100)
def fewO (k : Nat) (l : List Ord) : Bool := decide (l.length ≤ k) && l.all ordShort
theorem fewO_iff {k : Nat} {l : List Ord} : fewO k l = true ↔ l.length ≤ k ∧ ∀ o ∈ l, o.who.size ≤ 100 ∧ o.market.size ≤ 100 := by
  unfold fewO ordShort
  simp only [Bool.and_eq_true, decide_eq_true_eq, List.all_eq_true]
end Go.Proofs.Ytoachnhdedpbdaa
