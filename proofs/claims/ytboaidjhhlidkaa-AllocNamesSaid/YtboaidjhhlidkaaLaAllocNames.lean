/- AllocNames, walked. -/
import Derived.Test.YtboaidjhhlidkaaAl25
set_option linter.unusedSimpArgs false
set_option linter.unusedVariables false
namespace Go.Proofs.Ytboaidjhhlidkaa
open Go.RowKit
set_option maxRecDepth 10000 in
set_option maxHeartbeats 2000000 in
theorem walkAllocNames (w : World) : Calls Try.prog 7 #[] w fun e w' => e = .returned (.bool true) ∧ Bel w w' := by
  go_enter Try.func7, Try.ntmps7
  go_wp2_with fail
  refine (awake06 w).mono ?_
  rintro e w1 ⟨rfl, b⟩
  have HB := hid_ b
  clear b
  go_wp2
  go_ret
  exact ⟨rfl, HB.out⟩
end Go.Proofs.Ytboaidjhhlidkaa
