/- MarginNames, walked. -/
import Derived.Test.YtlddpkbdmbafbaaAw16
set_option linter.unusedSimpArgs false
set_option linter.unusedVariables false
namespace Go.Proofs.Ytlddpkbdmbafbaa
open Go.RowKit Go.Lib
theorem walkMarginNames (w : World) : Calls Try.prog 4 #[] w fun e w' => e = .returned (.bool true) ∧ Bel w w' := by
  go_enter Try.func4, Try.ntmps4
  go_wp2_with fail
  refine (awake16 _).mono ?_
  rintro e w1 ⟨rfl, b1⟩
  go_wp2
  go_ret
  exact ⟨rfl, b1⟩
end Go.Proofs.Ytlddpkbdmbafbaa
