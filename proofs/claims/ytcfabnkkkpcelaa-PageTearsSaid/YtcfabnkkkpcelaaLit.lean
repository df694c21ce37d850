/- An empty literal as an own row. -/
import Derived.Test.YtcfabnkkkpcelaaWd
set_option linter.unusedSimpArgs false
set_option linter.unusedVariables false
namespace Go.Proofs.Ytcfabnkkkpcelaa
open Go.RowKit
theorem Own.litE {α : Type} {T : Ty α} (w : World) (base b : Nat) (e : TypeId) (he : e = T.e) (hb : b = w.heap.size) (hw : base ≤ w.heap.size) : Own T (w.alloc (.cells #[] e)) base (.slice (some ⟨b, 0, none⟩) 0 0) [] := by
  subst hb
  subst he
  exact Own.lit (T := T) w base [] hw (by simp)
theorem Row.nonil' {α : Type} {T : Ty α} {w : World} {A : Option Addr} {n : Nat} {l : List α} (h : Row T w A n l) (hA : A = none) : n = 0 ∧ l = [] := by
  rcases Nat.eq_zero_or_pos n with h0 | h0
  · exact ⟨h0, List.eq_nil_of_length_eq_zero (by rw [h.1, h0])⟩
  · obtain ⟨ad, e, _⟩ := h.2.2 h0
    rw [hA] at e
    cases e
end Go.Proofs.Ytcfabnkkkpcelaa
