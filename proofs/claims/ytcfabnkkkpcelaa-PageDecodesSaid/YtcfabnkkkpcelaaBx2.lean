/- Boxes and rows that cannot lie in them. -/
import Derived.Test.YtcfabnkkkpcelaaBox
set_option linter.unusedSimpArgs false
set_option linter.unusedVariables false
namespace Go.Proofs.Ytcfabnkkkpcelaa
open Go.RowKit
variable {α : Type} {T : Ty α}
theorem Bx.mem' {W : World} {g : Nat} {t : TypeId} {vs : List Value} {ad : Addr} {v : Value} (h : Bx W g t vs) (hc : W.cell? ad = some v) (hb : ad.block = g) : v ∈ vs := by
  unfold World.cell? at hc
  unfold Bx at h
  rw [hb, h] at hc
  simp only at hc
  split at hc
  · cases hc
  · rw [List.getElem?_toArray] at hc
    exact List.mem_of_getElem? hc
/-- A row one of whose elements' first cells the box does not hold lies elsewhere. -/
theorem Row.notBx {W : World} {A : Option Addr} {n g : Nat} {t : TypeId} {vs : List Value} {xs : List α} (h : Row T W A n xs) (hb : Bx W g t vs) (hv : ∀ x ∈ xs, ∀ u, (T.enc x)[0]? = some u → u ∉ vs) : 0 < n → ∀ ad, A = some ad → ad.block ≠ g := by
  intro hn ad e hbl
  obtain ⟨ad', e', hc⟩ := h.2.2 hn
  rw [e] at e'
  cases e'
  have hl : 0 < xs.length := by rw [h.1]; exact hn
  have hx := List.getElem?_eq_getElem hl
  have hp : 0 < (T.enc xs[0]).length := by rw [T.len]; exact T.pos
  have hu := List.getElem?_eq_getElem hp
  have hA0 : ad.add (0 * T.sz + 0) = ad := by unfold Addr.add; simp
  have h1 := hc 0 _ hx 0 _ hu
  rw [hA0] at h1
  exact hv _ (List.mem_of_getElem? hx) _ hu (hb.mem' h1 hbl)
theorem Row.setFar' {W : World} {A : Option Addr} {n g j : Nat} {xs : List α} (h : Row T W A n xs) (u : Value) (hne : 0 < n → ∀ ad, A = some ad → ad.block ≠ g) : Row T (W.setCell ⟨g, j, none⟩ u) A n xs := by
  rcases Nat.eq_zero_or_pos n with h0 | h0
  · exact ⟨h.1, h.2.1, fun hp => absurd hp (by omega)⟩
  · exact h.far u (hne h0)
end Go.Proofs.Ytcfabnkkkpcelaa
