/- Rows of ints (TyInt without slices.Clone). -/
import Derived.Test.YtoachnhdedpbdaaProg
import Derived.Test.YtoachnhdedpbdaaWd
import Derived.Lib.SliceRun
set_option linter.unusedSimpArgs false
set_option linter.unusedVariables false
namespace Go.Proofs.Ytoachnhdedpbdaa
open Go.RowKit
def intT : Ty Int where
  e := 3
  sz := 1
  enc := fun x => [.int .i64 x]
  pos := by decide
  len := fun _ => rfl
  one := fun x u hu => by simp at hu; subst hu; rfl
theorem intS : SlT Try.prog 113 intT 8 (.int .i64 0) where
  ut := by kernel_rfl
  info := by kernel_rfl
  zs := rfl
  by0 := by decide
theorem Row.int {w : World} {A : Option Addr} {n : Nat} {l : List Int} (h : Row intT w A n l) {k : Nat} (hk : k < n) :
    ∃ ad x, A = some ad ∧ l[k]? = some x ∧ w.cell? (ad.add k) = some (.int .i64 x) := by
  obtain ⟨ad, x, e, ho, h0, _⟩ := h.at_ hk
  refine ⟨ad, x, e, ho, ?_⟩
  have := h0 _ rfl
  rwa [show k * intT.sz = k from Nat.mul_one k] at this
theorem Row.nonil {α : Type} {T : Ty α} {w : World} {A : Option Addr} {n : Nat} {l : List α} (h : Row T w A n l) (hA : A = none) : n = 0 ∧ l = [] := by
  have : n = 0 := by
    rcases Nat.eq_zero_or_pos n with h0 | h0
    · exact h0
    · obtain ⟨ad, e, _⟩ := h.2.2 h0
      rw [hA] at e
      cases e
  exact ⟨this, List.eq_nil_of_length_eq_zero (by rw [h.1, this])⟩

end Go.Proofs.Ytoachnhdedpbdaa
