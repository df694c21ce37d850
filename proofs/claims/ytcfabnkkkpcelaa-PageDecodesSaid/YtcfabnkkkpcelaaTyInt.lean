/- Rows of ints. -/
import Derived.Test.YtcfabnkkkpcelaaProg
import Derived.Test.YtcfabnkkkpcelaaWd
import Derived.Lib.SliceRun
set_option linter.unusedSimpArgs false
set_option linter.unusedVariables false
namespace Go.Proofs.Ytcfabnkkkpcelaa
open Go.RowKit
def intT : Ty Int where
  e := 3
  sz := 1
  enc := fun x => [.int .i64 x]
  pos := by decide
  len := fun _ => rfl
  one := fun x u hu => by simp at hu; subst hu; rfl
theorem intS : SlT Try.prog 25 intT 8 (.int .i64 0) where
  ut := by kernel_rfl
  info := by kernel_rfl
  zs := rfl
  by0 := by decide
theorem Row.int {w : World} {A : Option Addr} {n : Nat} {l : List Int} (h : Row intT w A n l) {k : Nat} (hk : k < n) :
    ∃ ad x, A = some ad ∧ l[k]? = some x ∧ w.cell? (ad.add k) = some (.int .i64 x) := by
  obtain ⟨ad, x, e, ho, h0, _⟩ := h.at_ hk
  refine ⟨ad, x, e, ho, ?_⟩
  have := h0 _ rfl
  rwa [show k * intT.sz = k from Nat.mul_one k] at this
theorem Row.nonil {α : Type} {T : Ty α} {w : World} {A : Option Addr} {n : Nat} {l : List α} (h : Row T w A n l) (hA : A = none) : n = 0 ∧ l = [] := by
  have : n = 0 := by
    rcases Nat.eq_zero_or_pos n with h0 | h0
    · exact h0
    · obtain ⟨ad, e, _⟩ := h.2.2 h0
      rw [hA] at e
      cases e
  exact ⟨this, List.eq_nil_of_length_eq_zero (by rw [h.1, this])⟩

set_option maxRecDepth 10000 in
set_option maxHeartbeats 1000000 in
theorem clone_any (A : Option Addr) (n c : Nat) (l : List Int) (w : World) (h1 : Row intT w A n l) (hs : n ≤ 17592186044416) :
    Calls Try.prog 37 #[.slice A n c] w fun e w' => ∃ v, e = .returned v ∧ Own intT w' w.heap.size v l ∧ Bel w w' := by
  go_enter Try.func37, Try.ntmps37
  have hnil := fun (w : World) (a : Option Addr) (n c n' c' : Nat) => Lib.run_eql_slice_nil (P := Try.prog) w 25 3 a n c n' c' Try.underlying25
  rcases A with _ | ad
  · obtain ⟨rfl, rfl⟩ := h1.nonil rfl
    go_wp2
    go_ret
    exact ⟨_, rfl, Own.nil_ _ _ _, Bel.refl _⟩
  · go_wp2_with (at_builtin; refine wpApp (w0 := w) intS rfl _ _ rfl _ [] l (some ad) n c rfl rfl (Own.lit (T := intT) w w.heap.size [] (Nat.le_refl _) (by simp)) (h1.bel ((Bel.refl _).alloc _)) ((Bel.refl _).alloc _) (by simp; omega) ?_; intro v1 x1 hO1 hb1 hg1 hat1)
    go_ret
    exact ⟨_, rfl, hO1, hb1⟩
end Go.Proofs.Ytcfabnkkkpcelaa
