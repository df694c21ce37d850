/- Arguments opened: rows of flat elements. -/
import Derived.Test.YtoachnhdedpbdaaWd
import Derived.ProofKit
import Derived.OpenShut
import Derived.ShutString
import Derived.Deep.Slices
namespace Go.Proofs.Ytoachnhdedpbdaa
open Go.RowKit Go.ChangeShapes Go.WideShapes Go.ChangeAt Go.Deep
variable {α : Type} {T : Ty α}
/-- A string that came in: its size. -/
def StrOk (s : ByteArray) : Prop := s.size ≤ 140737488355327
theorem open_row {H : Type} {enc : TypeId × Value → H} {P : Program} {W : World} (T : Ty α) (Wf : α → Prop) {t : TypeId} {v : Value} {d : DataW H} {p : List MemPlace}
    (hel : ∀ m cs x, cs.length = T.sz → DataW.trod enc P W 0 (fun _ => true) true m T.e cs = some x → ∃ a, cs = T.enc a ∧ Wf a)
    (ht : P.underlying t = some (.slice T.e)) (hc : P.cellsOf T.e = T.sz) {r : Reach} {b0 : Nat} (hv : Value.okWide P W r b0 t v) (h : DataW.Trod enc P W 0 (fun _ => true) true t v d p) :
    ∃ A n c xs, v = .slice A n c ∧ n ≤ c ∧ Row T W A n xs ∧ ∀ x ∈ xs, Wf x := by
  obtain ⟨A, n, c, rfl⟩ := okWide_slice ht hv
  obtain ⟨fuel, hf⟩ := h
  rcases open_slice ht hf with ⟨hcs, _⟩ | ⟨a, len, cap, m, k, D, Pl, hcs, _, hl, hm, hmm, _, hx⟩
  · simp [Value.cells] at hcs
    obtain ⟨rfl, rfl, rfl⟩ := hcs
    exact ⟨_, _, _, [], rfl, by omega, Row.none_ T W _, fun x hx => by cases hx⟩
  · simp [Value.cells] at hcs
    obtain ⟨rfl, rfl, rfl⟩ := hcs
    simp only [if_true] at hmm
    subst hmm
    have key : ∀ i, i < n → ∃ a', W.cells? 0 (a.add (i * T.sz)) T.sz = some (T.enc a') ∧ Wf a' := by
      intro i hi
      obtain ⟨cs', h1, h2⟩ := hx i (by omega)
      rw [hc] at h1
      obtain ⟨_, hlen, _⟩ := World.cells?_some h1
      obtain ⟨a', rfl, hw⟩ := hel _ _ _ hlen h2
      exact ⟨a', h1, hw⟩
    have keyc : ∀ i : Fin n, ∃ a', W.cells? 0 (a.add (i.1 * T.sz)) T.sz = some (T.enc a') ∧ Wf a' := fun i => key i.1 i.2
    obtain ⟨f, hfn⟩ : ∃ f : Fin n → α, ∀ i, W.cells? 0 (a.add (i.1 * T.sz)) T.sz = some (T.enc (f i)) ∧ Wf (f i) := ⟨fun i => Classical.choose (keyc i), fun i => Classical.choose_spec (keyc i)⟩
    refine ⟨_, _, _, List.ofFn f, rfl, hl, ⟨by simp, by simp only [maxLen] at hm; omega, fun _ => ⟨a, rfl, fun j x hj i u hu => ?_⟩⟩, fun x hx => ?_⟩
    · have hjn : j < n := by have := (List.getElem?_eq_some_iff.1 hj).1; simpa using this
      have hx' : x = f ⟨j, hjn⟩ := by simp [hjn] at hj; exact hj.symm
      subst hx'
      obtain ⟨_, hlen, hall⟩ := World.cells?_some (hfn ⟨j, hjn⟩).1
      have hi := (List.getElem?_eq_some_iff.1 hu).1
      rw [T.len] at hi
      rw [← addAdd]
      exact (hall i hi).trans hu
    · obtain ⟨i, rfl⟩ := (List.mem_ofFn).1 hx
      exact (hfn i).2
end Go.Proofs.Ytoachnhdedpbdaa
