/- Due, opened. -/
import Derived.Test.YtnpinolhhnpniaaTyDue
import Derived.Test.YtnpinolhhnpniaaOpen
set_option linter.unusedSimpArgs false
set_option linter.unusedVariables false
namespace Go.Proofs.Ytnpinolhhnpniaa
open Go.RowKit Go.ChangeShapes Go.WideShapes Go.ChangeAt Go.Deep
def dueWf (o : Due) : Prop := o.who.size ≤ maxLen ∧ o.asset.size ≤ maxLen ∧ (Lit.int .i64 o.amount).wf = true
set_option maxRecDepth 100000 in
theorem dueOpen {H : Type} {enc : TypeId × Value → H} {W : World} (m : Nat) (cs : List Value) (x : DataW H × List MemPlace) (hl : cs.length = 3) (h : DataW.trod enc Try.prog W 0 (fun _ => true) true m 41 cs = some x) : ∃ o, cs = dueC o ∧ dueWf o := by
  obtain ⟨xs, k, _, _, _, hlen, hf⟩ := DataW.trod_struct Try.underlying41 h
  match cs, hl with
  | [c0, c1, c2], _ =>
    have z2 : Try.prog.cellsOf 2 = 1 := by kernel_rfl
    have z9 : Try.prog.cellsOf 9 = 1 := by kernel_rfl
    have g0 : DataW.trod enc Try.prog W 0 (fun _ => true) true k 9 [c0] = xs[0]? := by
      have g := hf 0 _ rfl
      simpa [z9] using g
    have g1 : DataW.trod enc Try.prog W 0 (fun _ => true) true k 9 [c1] = xs[1]? := by
      have g := hf 1 _ rfl
      simpa [z9] using g
    have g2 : DataW.trod enc Try.prog W 0 (fun _ => true) true k 2 [c2] = xs[2]? := by
      have g := hf 2 _ rfl
      simpa [z2] using g
    match xs, hlen with
    | [y0, y1, y2], _ =>
      have g0 : _ = some y0 := g0
      obtain ⟨a0, e0, _, w0⟩ := DataW.trod_string Try.underlying9 g0
      injection e0 with e0 _
      subst e0
      have g1 : _ = some y1 := g1
      obtain ⟨a1, e1, _, w1⟩ := DataW.trod_string Try.underlying9 g1
      injection e1 with e1 _
      subst e1
      have g2 : _ = some y2 := g2
      obtain ⟨a2, e2, _, w2⟩ := DataW.trod_int Try.underlying2 g2
      injection e2 with e2 _
      subst e2
      exact ⟨⟨a0, a1, a2⟩, rfl, w0, w1, w2⟩
set_option maxRecDepth 100000 in
theorem cellsDue : Try.prog.cellsOf 41 = 3 := by kernel_rfl
set_option maxRecDepth 100000 in
theorem openDues {H : Type} {enc : TypeId × Value → H} {W : World} {v : Value} {d : DataW H} {p : List MemPlace} {r : Reach} {b0 : Nat} (hv : Value.okWide Try.prog W r b0 23 v) (h : DataW.Trod enc Try.prog W 0 (fun _ => true) true 23 v d p) :
    ∃ A n c xs, v = .slice A n c ∧ n ≤ c ∧ Row dueT W A n xs ∧ ∀ x ∈ xs, dueWf x := open_row dueT dueWf dueOpen Try.underlying23 cellsDue hv h
set_option maxRecDepth 100000 in
theorem openDue {H : Type} {enc : TypeId × Value → H} {W : World} {v : Value} {d : DataW H} {p : List MemPlace} {r : Reach} {b0 : Nat} (hv : Value.okWide Try.prog W r b0 41 v) (h : DataW.Trod enc Try.prog W 0 (fun _ => true) true 41 v d p) :
    ∃ o, v = .agg (dueC o).toArray ∧ dueWf o := by
  obtain ⟨cs, rfl, hsz⟩ := okWide_struct Try.underlying41 hv
  obtain ⟨fuel, hf⟩ := h
  rw [cellsDue] at hsz
  have hc : (Value.agg cs).cells = cs := rfl
  rw [hc] at hf
  obtain ⟨o, e, w⟩ := dueOpen fuel cs.toList _ (by rw [Array.length_toList]; exact hsz) hf
  exact ⟨o, by rw [← e], w⟩
end Go.Proofs.Ytnpinolhhnpniaa
