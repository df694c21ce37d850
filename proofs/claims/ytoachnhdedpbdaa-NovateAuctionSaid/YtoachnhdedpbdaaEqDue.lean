/- Due: '==' and '!='; -. -/
import Derived.Test.YtoachnhdedpbdaaTyDue
import Derived.Test.YtoachnhdedpbdaaEqb
import Derived.Laws.StructEq
import Derived.Deep.DeepCutAuto
import Derived.Deep.QuietTactic
import Derived.BigQuiet
set_option linter.unusedSimpArgs false
set_option linter.unusedVariables false
namespace Go.Proofs.Ytoachnhdedpbdaa
open Go.RowKit Go.Lib
def dueEq (x y : Due) : Bool := decide (x.who = y.who) && (decide (x.asset = y.asset) && (decide (x.amount = y.amount)))
theorem dueEq_iff (x y : Due) : dueEq x y = true ↔ x = y := by
  obtain ⟨p0, p1, p2⟩ := x
  obtain ⟨q0, q1, q2⟩ := y
  simp [dueEq]
theorem neqDue (a0 : ByteArray) (a1 : ByteArray) (a2 : Int) (b0 : ByteArray) (b1 : ByteArray) (b2 : Int) (w : World) : (binOp .neq 43 (.agg #[.string a0, .string a1, .int .i64 a2]) (.agg #[.string b0, .string b1, .int .i64 b2])).run Try.prog w = .ok (.bool (!dueEq ⟨a0, a1, a2⟩ ⟨b0, b1, b2⟩)) w := by
  have ui64 := Try.underlying2
  have ii64 := Try.isAgg2
  have zi64 := Try.sizeOf2
  have ustring := Try.underlying9
  have istring := Try.isAgg9
  have zstring := Try.sizeOf9
  have hS : Try.prog.underlying 43 = some (.struct (Try.prog.fieldsOf 43)) := by kernel_rfl
  have hp : Try.prog.stoodInHeld 43 = false := by kernel_rfl
  rw [run_neq_struct, show (10000 : Nat) = 9999 + 1 from rfl, run_equalIn_agg w 9999 43 _ _ hS hp]
  simp only [Program.fieldsOf, Try.underlying43]
  go_simp
  simp only [dueEq]
  by_cases h0 : a0 = b0 <;> by_cases h1 : a1 = b1 <;> by_cases h2 : a2 = b2 <;> simp [listsIff, h0, h1, h2]
theorem eqlDue (a0 : ByteArray) (a1 : ByteArray) (a2 : Int) (b0 : ByteArray) (b1 : ByteArray) (b2 : Int) (w : World) : (binOp .eql 43 (.agg #[.string a0, .string a1, .int .i64 a2]) (.agg #[.string b0, .string b1, .int .i64 b2])).run Try.prog w = .ok (.bool (dueEq ⟨a0, a1, a2⟩ ⟨b0, b1, b2⟩)) w := by
  have ui64 := Try.underlying2
  have ii64 := Try.isAgg2
  have zi64 := Try.sizeOf2
  have ustring := Try.underlying9
  have istring := Try.isAgg9
  have zstring := Try.sizeOf9
  have hS : Try.prog.underlying 43 = some (.struct (Try.prog.fieldsOf 43)) := by kernel_rfl
  have hp : Try.prog.stoodInHeld 43 = false := by kernel_rfl
  rw [run_eql_struct, show (10000 : Nat) = 9999 + 1 from rfl, run_equalIn_agg w 9999 43 _ _ hS hp]
  simp only [Program.fieldsOf, Try.underlying43]
  go_simp
  simp only [dueEq]
  by_cases h0 : a0 = b0 <;> by_cases h1 : a1 = b1 <;> by_cases h2 : a2 = b2 <;> simp [listsIff, h0, h1, h2]
end Go.Proofs.Ytoachnhdedpbdaa
