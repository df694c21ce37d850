/- AccountNames, walked. -/
import Derived.Test.YtgnninpfhnpjoaaAw11
set_option linter.unusedSimpArgs false
set_option linter.unusedVariables false
namespace Go.Proofs.Ytgnninpfhnpjoaa
open Go.RowKit Go.Lib
theorem walkAccountNames (w : World) : Calls Try.prog 8 #[] w fun e w' => e = .returned (.bool true) ∧ Bel w w' := by
  go_enter Try.func8, Try.ntmps8
  go_wp2_with fail
  refine (awake11 _).mono ?_
  rintro e w1 ⟨rfl, b1⟩
  go_wp2
  go_ret
  exact ⟨rfl, b1⟩
end Go.Proofs.Ytgnninpfhnpjoaa
