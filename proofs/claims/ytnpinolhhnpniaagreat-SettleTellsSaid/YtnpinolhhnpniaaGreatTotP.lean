/- Balances of an asset. -/
import Derived.Test.YtnpinolhhnpniaaGreatSum
import Derived.Test.YtnpinolhhnpniaaGreatAccL
import Derived.Test.YtnpinolhhnpniaaGreatTyAcc
import Derived.Test.YtnpinolhhnpniaaGreatLit
set_option linter.unusedSimpArgs false
set_option linter.unusedVariables false
namespace Go.Proofs.YtnpinolhhnpniaaGreat
open Go.RowKit Go.Lib
def balA (l : List Acc) (s : ByteArray) : List Int := (l.filter (fun a => decide (a.asset = s))).map Acc.balance
theorem balA_step {l : List Acc} {k : Nat} {o : Acc} (h : l[k]? = some o) (s : ByteArray) : balA (l.take (k + 1)) s = balA (l.take k) s ++ (if o.asset = s then [o.balance] else []) := by
  unfold balA
  rw [List.take_add_one, h]
  simp only [Option.toList_some, List.filter_append, List.map_append]
  by_cases e : o.asset = s <;> simp [e]
theorem balA_len (l : List Acc) (s : ByteArray) : (balA l s).length ≤ l.length := by
  unfold balA
  rw [List.length_map]
  exact List.length_filter_le _ _
theorem balA_i64 {l : List Acc} (hz : ∀ x ∈ l, -9223372036854775808 ≤ x.balance ∧ x.balance ≤ 9223372036854775807) (s : ByteArray) : ∀ x ∈ balA l s, -9223372036854775808 ≤ x ∧ x ≤ 9223372036854775807 := by
  intro x hx
  obtain ⟨d, hd, rfl⟩ := List.mem_map.1 hx
  exact hz d (List.mem_filter.1 hd).1
end Go.Proofs.YtnpinolhhnpniaaGreat
