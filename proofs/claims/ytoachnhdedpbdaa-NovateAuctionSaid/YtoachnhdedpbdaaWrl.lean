/- The world's name; texts' equality. -/
import Derived.WalkKit
import Derived.Lib.Bytealg
import Derived.Lib.Strings
set_option linter.unusedSimpArgs false
set_option linter.unusedVariables false
namespace Go.Proofs.Ytoachnhdedpbdaa
open Go.RowKit Go.Lib
theorem bytesEq (a c : ByteArray) : (a.toList == c.toList) = decide (a = c) := by
  rw [Lib.toList_data, Lib.toList_data]
  by_cases h : a = c
  · rw [decide_eq_true h, h]
    exact beq_self_eq_true _
  · rw [decide_eq_false h]
    refine beq_eq_false_iff_ne.2 (fun e => h ?_)
    obtain ⟨⟨x⟩⟩ := a
    obtain ⟨⟨y⟩⟩ := c
    have e' : x = y := e
    rw [e']
def worldS : ByteArray := ⟨#[119, 111, 114, 108, 100]⟩
theorem worldEq (a : ByteArray) : (a.toList == ([119, 111, 114, 108, 100] : List UInt8)) = decide (a = worldS) := by
  rw [← bytesEq a worldS]
  rw [Lib.toList_data worldS]
  rfl
end Go.Proofs.Ytoachnhdedpbdaa
