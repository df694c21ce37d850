/- Lists of lists of ints, opened. -/
import Derived.Test.YtboaidjhhlidkaaOpPool
set_option linter.unusedSimpArgs false
set_option linter.unusedVariables false
namespace Go.Proofs.Ytboaidjhhlidkaa
open Go.RowKit Go.ChangeShapes Go.WideShapes Go.ChangeAt Go.Deep
def svWf (W : World) (s : SV) : Prop := ∃ xs, Row intT W s.1 s.2.1 xs
theorem svOpen {H : Type} {enc : TypeId × Value → H} {W : World} (m : Nat) (cs : List Value) (x : DataW H × List MemPlace) (hl : cs.length = svT.sz) (h : DataW.trod enc Try.prog W 0 (fun _ => true) true m svT.e cs = some x) : ∃ a : SV, cs = svT.enc a ∧ svWf W a := by
  match cs, hl with
  | [c0], _ =>
    obtain ⟨A, n, k, xs, rfl, _, hr, _⟩ := open_cell h
    exact ⟨(A, n, k), rfl, xs, hr⟩
theorem rowsAt_of {W : World} : ∀ (ss : List SV), (∀ s ∈ ss, svWf W s) → ∃ ys, RowsAt W ss ys
  | [], _ => ⟨[], rfl, fun k s x hs => by simp at hs⟩
  | s :: ss, h => by
    obtain ⟨y, hy⟩ := h s (List.mem_cons_self ..)
    obtain ⟨ys, h1, h2⟩ := rowsAt_of ss (fun t ht => h t (List.mem_cons_of_mem _ ht))
    refine ⟨y :: ys, by simp [h1], fun k t x ht hx => ?_⟩
    rcases k with _ | k
    · simp at ht hx
      subst ht hx
      exact hy
    · exact h2 k t x (by simpa using ht) (by simpa using hx)
set_option maxRecDepth 100000 in
theorem openLists {H : Type} {enc : TypeId × Value → H} {W : World} {v : Value} {d : DataW H} {p : List MemPlace} {r : Reach} {b0 : Nat} (hv : Value.okWide Try.prog W r b0 59 v) (h : DataW.Trod enc Try.prog W 0 (fun _ => true) true 59 v d p) :
    ∃ A n c ss ys, v = .slice A n c ∧ n ≤ c ∧ Row svT W A n ss ∧ RowsAt W ss ys := by
  obtain ⟨A, n, c, ss, rfl, hc, hr, hw⟩ := open_row svT (svWf W) svOpen Try.underlying59 cellsInts hv h
  obtain ⟨ys, hy⟩ := rowsAt_of ss hw
  exact ⟨A, n, c, ss, ys, rfl, hc, hr, hy⟩
end Go.Proofs.Ytboaidjhhlidkaa
