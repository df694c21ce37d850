/- What is held, or freed, of accounts that may be: the plain law. -/
import Derived.Test.YtgnninpfhnpjoaaAcH
set_option linter.unusedSimpArgs false
set_option linter.unusedVariables false
namespace Go.Proofs.Ytgnninpfhnpjoaa
open Go.RowKit Go.Lib
theorem mv_may {p : Plc} {m : Int} (h : mvB p m = true) : 1 ≤ m ∧ p.who ≠ worldS ∧ namedB p = true := by
  unfold mvB at h
  simp only [Bool.and_eq_true, Bool.not_eq_true', decide_eq_false_iff_not] at h
  exact ⟨by omega, h.2.1, h.2.2⟩
theorem mv_err {l : List Acc} {p : Plc} {m er d : Int} (h : mvE p m er ≠ 0) : mvO l p m er d = [] := by
  cases hb : mvB p m
  · exact (mv_0 hb).2
  · by_cases he : er = 0
    · subst he
      exact absurd (mv_2 (l := l) (d := d) hb).1 h
    · exact (mv_1 hb he).2
theorem hold_ok {l : List Acc} {p : Plc} {n : Int} (hl : OkL l) (hb : ∀ a ∈ l, -9223372036854775808 ≤ a.balance ∧ a.balance ≤ 9223372036854775807) (hn : n ≤ 9223372036854775807) : OkL (mvO l p n (hoX l p n) n) := by
  cases hm : mvB p n
  · rw [(mv_0 hm).2]
    exact OkL.nil
  · obtain ⟨h1, hw, hnm⟩ := mv_may hm
    have hh := (find_held hl p).2 hw
    have hz := find_i64 hb p
    have hwr : wrap64 ((findA l p).balance - (findA l p).held) = (findA l p).balance - (findA l p).held := by unfold wrap64; omega
    by_cases hx : hoX l p n = 0
    · have hle : n ≤ (findA l p).balance - (findA l p).held := by
        unfold hoX at hx
        rw [hwr] at hx
        split at hx
        · cases hx
        · omega
      rw [hx, (mv_2 (l := l) (d := n) hm).2, show wrap64 ((findA l p).held + n) = (findA l p).held + n by unfold wrap64; omega]
      refine okL_with hl (.inr ⟨?_, hnm, fun k => absurd k hw, fun _ => ?_⟩)
      · show (findA l p).balance ≠ 0
        omega
      · show 0 ≤ (findA l p).held + n ∧ (findA l p).held + n ≤ (findA l p).balance
        omega
    · rw [(mv_1 hm hx).2]
      exact OkL.nil
theorem free_ok {l : List Acc} {p : Plc} {n : Int} (hl : OkL l) (hb : ∀ a ∈ l, -9223372036854775808 ≤ a.balance ∧ a.balance ≤ 9223372036854775807) (hn : n ≤ 9223372036854775807) : OkL (mvO l p n (frX l p n) (wrap64 (-n))) := by
  cases hm : mvB p n
  · rw [(mv_0 hm).2]
    exact OkL.nil
  · obtain ⟨h1, hw, hnm⟩ := mv_may hm
    have hh := (find_held hl p).2 hw
    have hz := find_i64 hb p
    by_cases hx : frX l p n = 0
    · have hle : n ≤ (findA l p).held := by
        unfold frX at hx
        split at hx
        · cases hx
        · omega
      rw [hx, (mv_2 (l := l) (d := wrap64 (-n)) hm).2, show wrap64 ((findA l p).held + wrap64 (-n)) = (findA l p).held - n by unfold wrap64; omega]
      refine okL_with hl (.inr ⟨?_, hnm, fun k => absurd k hw, fun _ => ?_⟩)
      · show (findA l p).balance ≠ 0
        omega
      · show 0 ≤ (findA l p).held - n ∧ (findA l p).held - n ≤ (findA l p).balance
        omega
    · rw [(mv_1 hm hx).2]
      exact OkL.nil
theorem named_size {p : Plc} (h : namedB p = true) : p.who.size ≤ 8 ∧ p.asset.size ≤ 6 := by
  unfold namedB whoB assetB at h
  simp only [Bool.and_eq_true, decide_eq_true_eq] at h
  exact ⟨h.1.1.2.2, h.2.2.2⟩
theorem ok_size {l : List Acc} (h : OkL l) : ∀ a ∈ l, a.who.size ≤ 9223372036854775807 ∧ a.asset.size ≤ 9223372036854775807 := fun a ha => by
  have := named_size (h.all a ha).named
  exact ⟨Nat.le_trans this.1 (by decide), Nat.le_trans this.2 (by decide)⟩
theorem chk_ok {l : List Acc} (h : OkL l) : chkAE l = 0 := by
  unfold chkAE
  rw [okL_iff.2 h]
  rfl
end Go.Proofs.Ytgnninpfhnpjoaa
