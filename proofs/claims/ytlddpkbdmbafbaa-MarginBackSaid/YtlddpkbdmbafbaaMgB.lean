/- An order placed and cancelled leaves the accounts: the plain law. -/
import Derived.Test.YtlddpkbdmbafbaaMg6
import Derived.Test.YtlddpkbdmbafbaaAccL
set_option linter.unusedSimpArgs false
set_option linter.unusedVariables false
namespace Go.Proofs.Ytlddpkbdmbafbaa
open Go.RowKit Go.Lib
theorem needN_pos {o : Ord} (h : chk o = true) : 1 ≤ needN o ∧ needN o ≤ 1000000000000 := by
  obtain ⟨a, c, ha, hc, a1, a2, c1, c2, _⟩ := chk_nums h
  have x1 : 1 ≤ a * c := Nat.mul_le_mul a1 c1
  have x2 : a * c ≤ 1000000 * 1000000 := Nat.mul_le_mul a2 c2
  cases hb : o.buy
  · rw [(need_s h hb).2.1]; omega
  · rw [(need_b h hb).2.1, ha, hc, ← Int.natCast_mul]; omega
theorem plE_no {l : List Acc} {o : Ord} (h : plE l o ≠ 0) : plO l o = [] := by
  unfold plE at h
  unfold plO
  cases hc : chk o
  · simp
  · rw [hc] at h
    simp only [if_true] at h ⊢
    unfold mvO
    rw [if_neg]
    rintro ⟨h1, h2⟩
    apply h
    unfold mvE
    rw [h1, if_pos rfl]
    exact h2
structure Placed (l : List Acc) (o : Ord) (n : Int) : Prop where
  chk : chk o = true
  need : needN o = n
  ok : OkL (plO l o)
  can : caE (plO l o) o = 0
  back : caO (plO l o) o = l
theorem placed {l : List Acc} {o : Ord} (hl : OkL l) (hw : ∀ a ∈ l, a.balance ≤ 9223372036854775807) (h : plE l o = 0) : Placed l o (needN o) := by
  have hc : chk o = true := by
    cases hc : chk o
    · unfold plE at h; rw [hc] at h; simp at h
    · rfl
  obtain ⟨n1, n2⟩ := needN_pos hc
  obtain ⟨n, hn⟩ : ∃ n, needN o = n := ⟨_, rfl⟩
  obtain ⟨p, hp⟩ : ∃ p, ordP o = p := ⟨_, rfl⟩
  have e1 : plE l o = mvE p n (holdX l p n) := by unfold plE; rw [hc, if_pos rfl, hn, hp]
  have e2 : plO l o = mvO l p n (holdX l p n) n := by unfold plO; rw [hc, if_pos rfl, hn, hp]
  rw [e1] at h
  rw [hn] at n1 n2
  have hm : mvB p n = true := by
    cases hm : mvB p n
    · rw [(mv_0 (l := l) (er := holdX l p n) (d := n) hm).1] at h; omega
    · rfl
  have hx : holdX l p n = 0 := by
    rcases Decidable.em (holdX l p n = 0) with hx | hx
    · exact hx
    · rw [(mv_1 (l := l) (d := n) hm hx).1] at h; exact h
  have hm' := hm
  simp only [mvB, Bool.and_eq_true, Bool.not_eq_true', decide_eq_false_iff_not] at hm'
  obtain ⟨_, hnw, hnm⟩ := hm'
  have hh := (find_held hl p).2 hnw
  have hpl := findA_plc l p
  have hb : (findA l p).balance ≤ 9223372036854775807 := by
    rcases find_ok hl p with e | ⟨e, _⟩
    · rw [e]; show (0 : Int) ≤ _; omega
    · exact hw _ e
  unfold holdX at hx
  have hw1 : wrap64 ((findA l p).balance - (findA l p).held) = (findA l p).balance - (findA l p).held := by unfold wrap64; omega
  rw [hw1] at hx
  have hge : n ≤ (findA l p).balance - (findA l p).held := by
    rcases Decidable.em ((findA l p).balance - (findA l p).held < n) with k | k
    · rw [if_pos k] at hx; omega
    · omega
  have hx0 : holdX l p n = 0 := by unfold holdX; rw [hw1, if_neg (by omega)]
  rw [hx0, (mv_2 (l := l) (d := n) hm).2] at e2
  have hw2 : wrap64 ((findA l p).held + n) = (findA l p).held + n := by unfold wrap64; omega
  rw [hw2] at e2
  have hwho : (findA l p).who = p.who := congrArg Plc.who hpl
  have hmem : findA l p ∈ l ∧ OkAcc (findA l p) := by
    rcases find_ok hl p with e | e
    · rw [e] at hge hh
      exact absurd hge (by show ¬ n ≤ (0 : Int) - 0; omega)
    · exact e
  have hok : OkL (plO l o) := by
    rw [e2]
    refine okL_with hl (.inr ⟨hmem.2.nz, hnm, fun k => absurd k hnw, fun _ => ?_⟩)
    show 0 ≤ (findA l p).held + n ∧ (findA l p).held + n ≤ (findA l p).balance
    omega
  have hf : findA (plO l o) p = ⟨p.who, p.asset, (findA l p).balance, (findA l p).held + n⟩ := by
    rw [e2, find_with hl.srt]
    exact (if_pos rfl).trans (if_neg hmem.2.nz)
  have hfr : freeX (plO l o) p n = 0 := by
    unfold freeX
    rw [hf, if_neg]
    show ¬ (findA l p).held + n < n
    omega
  refine ⟨hc, rfl, hok, ?_, ?_⟩
  · unfold caE
    rw [hc, if_pos rfl, hn, hp, hfr]
    exact (mv_2 (l := l) (d := n) hm).1
  · unfold caO
    rw [hc, if_pos rfl, hn, hp, hfr, (mv_2 (l := plO l o) (d := wrap64 (-n)) hm).2, hf]
    have hw3 : wrap64 ((findA l p).held + n + wrap64 (-n)) = (findA l p).held := by unfold wrap64; omega
    show withA (plO l o) ⟨p.who, p.asset, (findA l p).balance, wrap64 ((findA l p).held + n + wrap64 (-n))⟩ = l
    rw [hw3]
    refine acc_ext (srt_with hok.srt _) hl.srt (nz_with hok.srt hok.nz _) hl.nz (fun q => ?_)
    rw [find_with hok.srt]
    split
    · next hq =>
      subst hq
      show (if (findA l p).balance = 0 then _ else _) = findA l p
      rw [if_neg hmem.2.nz]
      have h1 : (findA l p).asset = p.asset := congrArg Plc.asset hpl
      cases hfa : findA l p
      rw [hfa] at hwho h1
      simp only at hwho h1
      rw [hwho, h1]
    · next hq =>
      rw [e2, find_with hl.srt]
      exact if_neg hq
theorem withA_room {l : List Acc} {o : Ord} : (plO l o).length ≤ l.length + 1 := by
  unfold plO mvO
  split
  · split
    · exact with_len _ _
    · simp
  · simp
end Go.Proofs.Ytlddpkbdmbafbaa
