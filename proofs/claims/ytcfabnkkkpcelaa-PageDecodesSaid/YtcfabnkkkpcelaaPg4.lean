/- page.Check: words. -/
import Derived.Test.YtcfabnkkkpcelaaPg3
import Derived.Test.YtcfabnkkkpcelaaPgB
import Derived.Test.YtcfabnkkkpcelaaBox
import Derived.Deep.DeepCutAuto
set_option linter.unusedSimpArgs false
set_option linter.unusedVariables false
namespace Go.Proofs.Ytcfabnkkkpcelaa
open Go.RowKit Go.Lib
def PgW (P : Pg) : Prop := i64R P.kind ∧ i64R P.next ∧ epW P ∧ i64R P.root ∧ i64R P.depth ∧ i64R P.count ∧ i64R P.high ∧ (∀ x ∈ P.kids, i64R x) ∧ ∀ x ∈ P.pages, i64R x
theorem heads_eq {P : Pg} (h : PgW P) : (P.epoch != 0 || bits .or .i64 (bits .or .i64 (bits .or .i64 P.root P.depth) P.count) P.high != 0) = !headsB P := by
  obtain ⟨_, _, _, h1, h2, h3, h4, _⟩ := h
  have := orFour h1 h2 h3 h4
  rw [headsB]
  by_cases e : P.epoch = 0
  · by_cases z : bits .or .i64 (bits .or .i64 (bits .or .i64 P.root P.depth) P.count) P.high = 0
    · obtain ⟨a, b, c, d⟩ := this.1 z
      rw [z]
      simp [e, a, b, c, d]
    · have h' : ¬ (P.root = 0 ∧ P.depth = 0 ∧ P.count = 0 ∧ P.high = 0) := fun h => z (this.2 h)
      simp only [e, bne_self_eq_false, Bool.false_or, decide_true, Bool.true_and]
      rw [bne_iff_ne.2 z]
      symm
      rw [Bool.not_eq_true']
      cases hh : (decide (P.root = 0) && (decide (P.depth = 0) && (decide (P.count = 0) && decide (P.high = 0)))) with
      | false => rfl
      | true =>
        simp only [Bool.and_eq_true, decide_eq_true_eq] at hh
        exact absurd hh h'
  · simp [e]
theorem beq_dec {a b : Nat} {t : Bool} (h : decide (a = b) = t) : ((a : Int) == (b : Int)) = t := by
  rw [← h]
  by_cases e : a = b
  · simp [e]
  · rw [decide_eq_false e, beq_eq_false_iff_ne]; omega
theorem gt0 (n : Nat) : decide (0 < n) = !decide (n = 0) := by
  by_cases h : n = 0
  · subst h; rfl
  · rw [decide_eq_true (by omega), decide_eq_false h]; rfl
theorem gt00 (m k : Nat) : decide (0 < (m : Int) + (k : Int)) = !(decide (m = 0) && decide (k = 0)) := by
  by_cases h : m = 0 <;> by_cases h' : k = 0
  · subst h h'; rfl
  · rw [decide_eq_true (show 0 < (m : Int) + (k : Int) by omega), decide_eq_false h']; simp
  · rw [decide_eq_true (show 0 < (m : Int) + (k : Int) by omega), decide_eq_false h]; simp
  · rw [decide_eq_true (show 0 < (m : Int) + (k : Int) by omega), decide_eq_false h]; simp
theorem chk_1 {P : Pg} (h : P.kind = 1) : chkP P = if ok1 P then 0 else 50 := by unfold chkP okP; rw [if_pos h]
theorem chk_2 {P : Pg} (h : P.kind = 2) : chkP P = if ok2 P then 0 else 50 := by unfold chkP okP; rw [if_neg (show ¬ P.kind = 1 by omega), if_pos h]
theorem chk_3 {P : Pg} (h : P.kind = 3) : chkP P = if ok3 P then 0 else 50 := by unfold chkP okP; rw [if_neg (show ¬ P.kind = 1 by omega), if_neg (show ¬ P.kind = 2 by omega), if_pos h]
theorem chk_4 {P : Pg} (h : P.kind = 4) : chkP P = if ok4 P then 0 else 50 := by unfold chkP okP; rw [if_neg (show ¬ P.kind = 1 by omega), if_neg (show ¬ P.kind = 2 by omega), if_neg (show ¬ P.kind = 3 by omega), if_pos h]
theorem chk_5 {P : Pg} (h1 : ¬ P.kind = 1) (h2 : ¬ P.kind = 2) (h3 : ¬ P.kind = 3) (h4 : ¬ P.kind = 4) : chkP P = 50 := by unfold chkP okP; rw [if_neg h1, if_neg h2, if_neg h3, if_neg h4]; rfl
end Go.Proofs.Ytcfabnkkkpcelaa
