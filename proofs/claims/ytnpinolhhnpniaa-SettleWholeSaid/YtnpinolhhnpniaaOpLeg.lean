/- Due, opened. -/
import Derived.Test.YtnpinolhhnpniaaTyAcc
import Derived.Test.YtnpinolhhnpniaaOpen
import Derived.Test.YtnpinolhhnpniaaTyLeg
set_option linter.unusedSimpArgs false
set_option linter.unusedVariables false
namespace Go.Proofs.Ytnpinolhhnpniaa
open Go.RowKit Go.ChangeShapes Go.WideShapes Go.ChangeAt Go.Deep
def accWf (o : Acc) : Prop := o.who.size ≤ maxLen ∧ o.asset.size ≤ maxLen ∧ (Lit.int .i64 o.balance).wf = true ∧ (Lit.int .i64 o.held).wf = true
set_option maxRecDepth 100000 in
theorem accOpen {H : Type} {enc : TypeId × Value → H} {W : World} (m : Nat) (cs : List Value) (x : DataW H × List MemPlace) (hl : cs.length = 4) (h : DataW.trod enc Try.prog W 0 (fun _ => true) true m 38 cs = some x) : ∃ o, cs = accC o ∧ accWf o := by
  obtain ⟨xs, k, _, _, _, hlen, hf⟩ := DataW.trod_struct Try.underlying38 h
  match cs, hl with
  | [c0, c1, c2, c3], _ =>
    have z2 : Try.prog.cellsOf 2 = 1 := by kernel_rfl
    have z9 : Try.prog.cellsOf 9 = 1 := by kernel_rfl
    have g0 : DataW.trod enc Try.prog W 0 (fun _ => true) true k 9 [c0] = xs[0]? := by
      have g := hf 0 _ rfl
      simpa [z9] using g
    have g1 : DataW.trod enc Try.prog W 0 (fun _ => true) true k 9 [c1] = xs[1]? := by
      have g := hf 1 _ rfl
      simpa [z9] using g
    have g2 : DataW.trod enc Try.prog W 0 (fun _ => true) true k 2 [c2] = xs[2]? := by
      have g := hf 2 _ rfl
      simpa [z2] using g
    have g3 : DataW.trod enc Try.prog W 0 (fun _ => true) true k 2 [c3] = xs[3]? := by
      have g := hf 3 _ rfl
      simpa [z2] using g
    match xs, hlen with
    | [y0, y1, y2, y3], _ =>
      have g0 : _ = some y0 := g0
      obtain ⟨a0, e0, _, w0⟩ := DataW.trod_string Try.underlying9 g0
      injection e0 with e0 _
      subst e0
      have g1 : _ = some y1 := g1
      obtain ⟨a1, e1, _, w1⟩ := DataW.trod_string Try.underlying9 g1
      injection e1 with e1 _
      subst e1
      have g2 : _ = some y2 := g2
      obtain ⟨a2, e2, _, w2⟩ := DataW.trod_int Try.underlying2 g2
      injection e2 with e2 _
      subst e2
      have g3 : _ = some y3 := g3
      obtain ⟨a3, e3, _, w3⟩ := DataW.trod_int Try.underlying2 g3
      injection e3 with e3 _
      subst e3
      exact ⟨⟨a0, a1, a2, a3⟩, rfl, w0, w1, w2, w3⟩
set_option maxRecDepth 100000 in
theorem cellsAcc : Try.prog.cellsOf 38 = 4 := by kernel_rfl
set_option maxRecDepth 100000 in
theorem openAccs {H : Type} {enc : TypeId × Value → H} {W : World} {v : Value} {d : DataW H} {p : List MemPlace} {r : Reach} {b0 : Nat} (hv : Value.okWide Try.prog W r b0 22 v) (h : DataW.Trod enc Try.prog W 0 (fun _ => true) true 22 v d p) :
    ∃ A n c xs, v = .slice A n c ∧ n ≤ c ∧ Row accT W A n xs ∧ ∀ x ∈ xs, accWf x := open_row accT accWf accOpen Try.underlying22 cellsAcc hv h
set_option maxRecDepth 100000 in
theorem openAcc {H : Type} {enc : TypeId × Value → H} {W : World} {v : Value} {d : DataW H} {p : List MemPlace} {r : Reach} {b0 : Nat} (hv : Value.okWide Try.prog W r b0 38 v) (h : DataW.Trod enc Try.prog W 0 (fun _ => true) true 38 v d p) :
    ∃ o, v = .agg (accC o).toArray ∧ accWf o := by
  obtain ⟨cs, rfl, hsz⟩ := okWide_struct Try.underlying38 hv
  obtain ⟨fuel, hf⟩ := h
  rw [cellsAcc] at hsz
  have hc : (Value.agg cs).cells = cs := rfl
  rw [hc] at hf
  obtain ⟨o, e, w⟩ := accOpen fuel cs.toList _ (by rw [Array.length_toList]; exact hsz) hf
  exact ⟨o, by rw [← e], w⟩
end Go.Proofs.Ytnpinolhhnpniaa
set_option linter.unusedSimpArgs false
set_option linter.unusedVariables false
namespace Go.Proofs.Ytnpinolhhnpniaa
open Go.RowKit Go.ChangeShapes Go.WideShapes Go.ChangeAt Go.Deep
def legWf (o : Due) : Prop := o.who.size ≤ maxLen ∧ o.asset.size ≤ maxLen ∧ (Lit.int .i64 o.amount).wf = true
set_option maxRecDepth 100000 in
theorem legOpen {H : Type} {enc : TypeId × Value → H} {W : World} (m : Nat) (cs : List Value) (x : DataW H × List MemPlace) (hl : cs.length = 3) (h : DataW.trod enc Try.prog W 0 (fun _ => true) true m 42 cs = some x) : ∃ o, cs = legC o ∧ legWf o := by
  obtain ⟨xs, k, _, _, _, hlen, hf⟩ := DataW.trod_struct Try.underlying42 h
  match cs, hl with
  | [c0, c1, c2], _ =>
    have z2 : Try.prog.cellsOf 2 = 1 := by kernel_rfl
    have z9 : Try.prog.cellsOf 9 = 1 := by kernel_rfl
    have g0 : DataW.trod enc Try.prog W 0 (fun _ => true) true k 9 [c0] = xs[0]? := by
      have g := hf 0 _ rfl
      simpa [z9] using g
    have g1 : DataW.trod enc Try.prog W 0 (fun _ => true) true k 9 [c1] = xs[1]? := by
      have g := hf 1 _ rfl
      simpa [z9] using g
    have g2 : DataW.trod enc Try.prog W 0 (fun _ => true) true k 2 [c2] = xs[2]? := by
      have g := hf 2 _ rfl
      simpa [z2] using g
    match xs, hlen with
    | [y0, y1, y2], _ =>
      have g0 : _ = some y0 := g0
      obtain ⟨a0, e0, _, w0⟩ := DataW.trod_string Try.underlying9 g0
      injection e0 with e0 _
      subst e0
      have g1 : _ = some y1 := g1
      obtain ⟨a1, e1, _, w1⟩ := DataW.trod_string Try.underlying9 g1
      injection e1 with e1 _
      subst e1
      have g2 : _ = some y2 := g2
      obtain ⟨a2, e2, _, w2⟩ := DataW.trod_int Try.underlying2 g2
      injection e2 with e2 _
      subst e2
      exact ⟨⟨a0, a1, a2⟩, rfl, w0, w1, w2⟩
set_option maxRecDepth 100000 in
theorem cellsLeg : Try.prog.cellsOf 42 = 3 := by kernel_rfl
set_option maxRecDepth 100000 in
theorem openLegs {H : Type} {enc : TypeId × Value → H} {W : World} {v : Value} {d : DataW H} {p : List MemPlace} {r : Reach} {b0 : Nat} (hv : Value.okWide Try.prog W r b0 26 v) (h : DataW.Trod enc Try.prog W 0 (fun _ => true) true 26 v d p) :
    ∃ A n c xs, v = .slice A n c ∧ n ≤ c ∧ Row legT W A n xs ∧ ∀ x ∈ xs, legWf x := open_row legT legWf legOpen Try.underlying26 cellsLeg hv h
set_option maxRecDepth 100000 in
theorem openLeg {H : Type} {enc : TypeId × Value → H} {W : World} {v : Value} {d : DataW H} {p : List MemPlace} {r : Reach} {b0 : Nat} (hv : Value.okWide Try.prog W r b0 42 v) (h : DataW.Trod enc Try.prog W 0 (fun _ => true) true 42 v d p) :
    ∃ o, v = .agg (legC o).toArray ∧ legWf o := by
  obtain ⟨cs, rfl, hsz⟩ := okWide_struct Try.underlying42 hv
  obtain ⟨fuel, hf⟩ := h
  rw [cellsLeg] at hsz
  have hc : (Value.agg cs).cells = cs := rfl
  rw [hc] at hf
  obtain ⟨o, e, w⟩ := legOpen fuel cs.toList _ (by rw [Array.length_toList]; exact hsz) hf
  exact ⟨o, by rw [← e], w⟩
end Go.Proofs.Ytnpinolhhnpniaa
