/- Pools and lists of ints, opened. -/
import Derived.Test.YtboaidjhhlidkaaAl4
import Derived.Test.YtboaidjhhlidkaaOpen
set_option linter.unusedSimpArgs false
set_option linter.unusedVariables false
namespace Go.Proofs.Ytboaidjhhlidkaa
open Go.RowKit Go.ChangeShapes Go.WideShapes Go.ChangeAt Go.Deep
def intWf (a : Int) : Prop := (Lit.int .i64 a).wf = true
theorem intOpen {H : Type} {enc : TypeId × Value → H} {W : World} (m : Nat) (cs : List Value) (x : DataW H × List MemPlace) (hl : cs.length = intT.sz) (h : DataW.trod enc Try.prog W 0 (fun _ => true) true m intT.e cs = some x) : ∃ a : Int, cs = intT.enc a ∧ intWf a := by
  match cs, hl with
  | [c0], _ =>
    obtain ⟨a, e, _, w⟩ := DataW.trod_int Try.underlying3 h
    injection e with e _
    subst e
    exact ⟨a, rfl, w⟩
theorem cellsInt : Try.prog.cellsOf 3 = 1 := by kernel_rfl
theorem cellsInts : Try.prog.cellsOf 46 = 1 := by kernel_rfl
theorem cellsPool : Try.prog.cellsOf 48 = 3 := by kernel_rfl
/-- A slice of ints in one cell. -/
theorem open_cell {H : Type} {enc : TypeId × Value → H} {W : World} {fuel : Nat} {c : Value} {x : DataW H × List MemPlace}
    (h : DataW.trod enc Try.prog W 0 (fun _ => true) true fuel 46 [c] = some x) :
    ∃ A n k xs, c = .slice A n k ∧ n ≤ k ∧ Row intT W A n xs ∧ ∀ y ∈ xs, intWf y := by
  rcases open_slice Try.underlying46 h with ⟨hcs, _⟩ | ⟨a, len, cap, m, k, D, Pl, hcs, _, hl, hm, hmm, _, hx⟩
  · injection hcs with hcs _
    subst hcs
    exact ⟨_, _, _, [], rfl, by omega, Row.none_ intT W _, fun x hx => by cases hx⟩
  · injection hcs with hcs _
    subst hcs
    simp only [if_true] at hmm
    subst hmm
    have key : ∀ i, i < len → ∃ a', W.cells? 0 (a.add (i * intT.sz)) intT.sz = some (intT.enc a') ∧ intWf a' := by
      intro i hi
      obtain ⟨cs', h1, h2⟩ := hx i (by omega)
      rw [cellsInt] at h1
      obtain ⟨_, hlen, _⟩ := World.cells?_some h1
      obtain ⟨a', rfl, hw⟩ := intOpen _ _ _ hlen h2
      exact ⟨a', h1, hw⟩
    have keyc : ∀ i : Fin len, ∃ a', W.cells? 0 (a.add (i.1 * intT.sz)) intT.sz = some (intT.enc a') ∧ intWf a' := fun i => key i.1 i.2
    obtain ⟨f, hfn⟩ : ∃ f : Fin len → Int, ∀ i, W.cells? 0 (a.add (i.1 * intT.sz)) intT.sz = some (intT.enc (f i)) ∧ intWf (f i) := ⟨fun i => Classical.choose (keyc i), fun i => Classical.choose_spec (keyc i)⟩
    refine ⟨_, _, _, List.ofFn f, rfl, hl, ⟨by simp, by simp only [maxLen] at hm; omega, fun _ => ⟨a, rfl, fun j x hj i u hu => ?_⟩⟩, fun x hx => ?_⟩
    · have hjn : j < len := by have := (List.getElem?_eq_some_iff.1 hj).1; simpa using this
      have hx' : x = f ⟨j, hjn⟩ := by simp [hjn] at hj; exact hj.symm
      subst hx'
      obtain ⟨_, hlen, hall⟩ := World.cells?_some (hfn ⟨j, hjn⟩).1
      have hi := (List.getElem?_eq_some_iff.1 hu).1
      rw [intT.len] at hi
      rw [← addAdd]
      exact (hall i hi).trans hu
    · obtain ⟨i, rfl⟩ := (List.mem_ofFn).1 hx
      exact (hfn i).2
set_option maxRecDepth 100000 in
theorem openPool {H : Type} {enc : TypeId × Value → H} {W : World} {v : Value} {d : DataW H} {p : List MemPlace} {r : Reach} {b0 : Nat} (hv : Value.okWide Try.prog W r b0 48 v) (h : DataW.Trod enc Try.prog W 0 (fun _ => true) true 48 v d p) :
    ∃ hh A n c B m k F L, v = .agg #[.int .i64 hh, .slice A n c, .slice B m k] ∧ intWf hh ∧ n ≤ c ∧ m ≤ k ∧ Row intT W A n F ∧ Row intT W B m L ∧ (∀ y ∈ F, intWf y) ∧ ∀ y ∈ L, intWf y := by
  obtain ⟨cs, rfl, hsz⟩ := okWide_struct Try.underlying48 hv
  obtain ⟨fuel, hf⟩ := h
  rw [cellsPool] at hsz
  have hc : (Value.agg cs).cells = cs := rfl
  rw [hc] at hf
  obtain ⟨xs, k, _, _, _, hlen, hf⟩ := DataW.trod_struct Try.underlying48 hf
  obtain ⟨l, rfl⟩ : ∃ l, cs = List.toArray l := ⟨cs.toList, by simp⟩
  simp only [List.size_toArray] at hsz
  match l, hsz with
  | [c0, c1, c2], _ =>
    have g0 : DataW.trod enc Try.prog W 0 (fun _ => true) true k 3 [c0] = xs[0]? := by
      have g := hf 0 _ rfl
      simpa [cellsInt] using g
    have g1 : DataW.trod enc Try.prog W 0 (fun _ => true) true k 46 [c1] = xs[1]? := by
      have g := hf 1 _ rfl
      simpa [cellsInt, cellsInts] using g
    have g2 : DataW.trod enc Try.prog W 0 (fun _ => true) true k 46 [c2] = xs[2]? := by
      have g := hf 2 _ rfl
      simpa [cellsInt, cellsInts] using g
    match xs, hlen with
    | [y0, y1, y2], _ =>
      have g0 : _ = some y0 := g0
      obtain ⟨a0, e0, _, w0⟩ := DataW.trod_int Try.underlying3 g0
      injection e0 with e0 _
      subst e0
      have g1 : _ = some y1 := g1
      obtain ⟨A, n, c, F, rfl, h1, r1, f1⟩ := open_cell g1
      have g2 : _ = some y2 := g2
      obtain ⟨B, m, d, L, rfl, h2, r2, f2⟩ := open_cell g2
      exact ⟨_, _, _, _, _, _, _, F, L, rfl, w0, h1, h2, r1, r2, f1, f2⟩
end Go.Proofs.Ytboaidjhhlidkaa
