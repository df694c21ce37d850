/- OrderNames, walked. -/
import Derived.Test.YtgdonempmblhhaaOd12
set_option linter.unusedSimpArgs false
set_option linter.unusedVariables false
namespace Go.Proofs.Ytgdonempmblhhaa
open Go.RowKit Go.Lib
theorem walkOrderNames (w : World) : Calls Try.prog 7 #[] w fun e w' => e = .returned (.bool true) ∧ Bel w w' := by
  go_enter Try.func7, Try.ntmps7
  go_wp2_with fail
  refine (awake13 _).mono ?_
  rintro e w1 ⟨rfl, b1⟩
  go_wp2
  go_ret
  exact ⟨rfl, b1⟩
end Go.Proofs.Ytgdonempmblhhaa
