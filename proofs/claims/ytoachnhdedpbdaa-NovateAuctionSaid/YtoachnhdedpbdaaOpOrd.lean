/- Ord, opened. -/
import Derived.Test.YtoachnhdedpbdaaTyOrd
import Derived.Test.YtoachnhdedpbdaaOpen
set_option linter.unusedSimpArgs false
set_option linter.unusedVariables false
namespace Go.Proofs.Ytoachnhdedpbdaa
open Go.RowKit Go.ChangeShapes Go.WideShapes Go.ChangeAt Go.Deep
def ordWf (o : Ord) : Prop := (Lit.int .u64 o.number).wf = true ∧ o.who.size ≤ maxLen ∧ o.market.size ≤ maxLen ∧ (Lit.int .i64 o.price).wf = true ∧ (Lit.int .i64 o.left).wf = true
set_option maxRecDepth 100000 in
theorem ordOpen {H : Type} {enc : TypeId × Value → H} {W : World} (m : Nat) (cs : List Value) (x : DataW H × List MemPlace) (hl : cs.length = 6) (h : DataW.trod enc Try.prog W 0 (fun _ => true) true m 30 cs = some x) : ∃ o, cs = ordC o ∧ ordWf o := by
  obtain ⟨xs, k, _, _, _, hlen, hf⟩ := DataW.trod_struct Try.underlying30 h
  match cs, hl with
  | [c0, c1, c2, c3, c4, c5], _ =>
    have z4 : Try.prog.cellsOf 4 = 1 := by kernel_rfl
    have z2 : Try.prog.cellsOf 2 = 1 := by kernel_rfl
    have z9 : Try.prog.cellsOf 9 = 1 := by kernel_rfl
    have z28 : Try.prog.cellsOf 28 = 1 := by kernel_rfl
    have g0 : DataW.trod enc Try.prog W 0 (fun _ => true) true k 28 [c0] = xs[0]? := by
      have g := hf 0 _ rfl
      simpa [z28] using g
    have g1 : DataW.trod enc Try.prog W 0 (fun _ => true) true k 9 [c1] = xs[1]? := by
      have g := hf 1 _ rfl
      simpa [z9] using g
    have g2 : DataW.trod enc Try.prog W 0 (fun _ => true) true k 9 [c2] = xs[2]? := by
      have g := hf 2 _ rfl
      simpa [z9] using g
    have g3 : DataW.trod enc Try.prog W 0 (fun _ => true) true k 4 [c3] = xs[3]? := by
      have g := hf 3 _ rfl
      simpa [z4] using g
    have g4 : DataW.trod enc Try.prog W 0 (fun _ => true) true k 2 [c4] = xs[4]? := by
      have g := hf 4 _ rfl
      simpa [z2] using g
    have g5 : DataW.trod enc Try.prog W 0 (fun _ => true) true k 2 [c5] = xs[5]? := by
      have g := hf 5 _ rfl
      simpa [z2] using g
    match xs, hlen with
    | [y0, y1, y2, y3, y4, y5], _ =>
      have g0 : _ = some y0 := g0
      obtain ⟨a0, e0, _, w0⟩ := DataW.trod_int Try.underlying28 g0
      injection e0 with e0 _
      subst e0
      have g1 : _ = some y1 := g1
      obtain ⟨a1, e1, _, w1⟩ := DataW.trod_string Try.underlying9 g1
      injection e1 with e1 _
      subst e1
      have g2 : _ = some y2 := g2
      obtain ⟨a2, e2, _, w2⟩ := DataW.trod_string Try.underlying9 g2
      injection e2 with e2 _
      subst e2
      have g3 : _ = some y3 := g3
      obtain ⟨a3, e3, _⟩ := DataW.trod_bool Try.underlying4 g3
      injection e3 with e3 _
      subst e3
      have g4 : _ = some y4 := g4
      obtain ⟨a4, e4, _, w4⟩ := DataW.trod_int Try.underlying2 g4
      injection e4 with e4 _
      subst e4
      have g5 : _ = some y5 := g5
      obtain ⟨a5, e5, _, w5⟩ := DataW.trod_int Try.underlying2 g5
      injection e5 with e5 _
      subst e5
      exact ⟨⟨a0, a1, a2, a3, a4, a5⟩, rfl, w0, w1, w2, w4, w5⟩
set_option maxRecDepth 100000 in
theorem cellsOrd : Try.prog.cellsOf 30 = 6 := by kernel_rfl
set_option maxRecDepth 100000 in
theorem openOrds {H : Type} {enc : TypeId × Value → H} {W : World} {v : Value} {d : DataW H} {p : List MemPlace} {r : Reach} {b0 : Nat} (hv : Value.okWide Try.prog W r b0 22 v) (h : DataW.Trod enc Try.prog W 0 (fun _ => true) true 22 v d p) :
    ∃ A n c xs, v = .slice A n c ∧ n ≤ c ∧ Row ordT W A n xs ∧ ∀ x ∈ xs, ordWf x := open_row ordT ordWf ordOpen Try.underlying22 cellsOrd hv h
set_option maxRecDepth 100000 in
theorem openOrd {H : Type} {enc : TypeId × Value → H} {W : World} {v : Value} {d : DataW H} {p : List MemPlace} {r : Reach} {b0 : Nat} (hv : Value.okWide Try.prog W r b0 30 v) (h : DataW.Trod enc Try.prog W 0 (fun _ => true) true 30 v d p) :
    ∃ o, v = .agg (ordC o).toArray ∧ ordWf o := by
  obtain ⟨cs, rfl, hsz⟩ := okWide_struct Try.underlying30 hv
  obtain ⟨fuel, hf⟩ := h
  rw [cellsOrd] at hsz
  have hc : (Value.agg cs).cells = cs := rfl
  rw [hc] at hf
  obtain ⟨o, e, w⟩ := ordOpen fuel cs.toList _ (by rw [Array.length_toList]; exact hsz) hf
  exact ⟨o, by rw [← e], w⟩
end Go.Proofs.Ytoachnhdedpbdaa
