/- What was held and freed, and what may be given away: the plain law. -/
import Derived.Test.YtgnninpfhnpjoaaAcB
set_option linter.unusedSimpArgs false
set_option linter.unusedVariables false
namespace Go.Proofs.Ytgnninpfhnpjoaa
open Go.RowKit Go.Lib
def hoX (l : List Acc) (p : Plc) (m : Int) : Int := if wrap64 ((findA l p).balance - (findA l p).held) < m then 111 else 0
def frX (l : List Acc) (p : Plc) (m : Int) : Int := if (findA l p).held < m then 112 else 0
structure HeldP (l : List Acc) (a : Acc) (n : Int) : Prop where
  lo : 1 ≤ n
  hi : n ≤ a.balance - a.held
  ok : OkL (mvO l a.plc n (hoX l a.plc n) n)
  find : findA (mvO l a.plc n (hoX l a.plc n) n) a.plc = ⟨a.who, a.asset, a.balance, a.held + n⟩
  can : mvE a.plc n (frX (mvO l a.plc n (hoX l a.plc n) n) a.plc n) = 0
  back : mvO (mvO l a.plc n (hoX l a.plc n) n) a.plc n (frX (mvO l a.plc n (hoX l a.plc n) n) a.plc n) (wrap64 (-n)) = l
theorem held_no {l : List Acc} {a : Acc} {n : Int} (hl : OkL l) (ha : a ∈ l) (hw : a.who ≠ worldS) (hb : a.balance ≤ 9223372036854775807) (h : mvE a.plc n (hoX l a.plc n) ≠ 0) :
    (n < 1 ∧ mvE a.plc n (hoX l a.plc n) = 1) ∨ (¬ n < 1 ∧ a.balance - a.held < n ∧ mvE a.plc n (hoX l a.plc n) = 111) := by
  have hf := findA_mem hl.srt ha
  have hok := hl.all a ha
  have hs := hok.some_ hw
  by_cases h1 : n < 1
  · refine .inl ⟨h1, (mv_0 (l := l) (er := hoX l a.plc n) (d := n) ?_).1⟩
    unfold mvB
    rw [decide_eq_true h1]
    rfl
  · have hm : mvB a.plc n = true := by
      unfold mvB
      rw [decide_eq_false h1, decide_eq_false (show ¬ a.plc.who = worldS from hw), hok.named]
      rfl
    have hwr : wrap64 (a.balance - a.held) = a.balance - a.held := by unfold wrap64; omega
    have hx : hoX l a.plc n = if a.balance - a.held < n then 111 else 0 := by unfold hoX; rw [hf, hwr]
    by_cases h2 : a.balance - a.held < n
    · rw [if_pos h2] at hx
      refine .inr ⟨h1, h2, ?_⟩
      rw [hx]
      exact (mv_1 (l := l) (d := n) hm (by decide)).1
    · rw [if_neg h2] at hx
      rw [hx] at h
      exact absurd (mv_2 (l := l) (d := n) hm).1 h
theorem held_yes {l : List Acc} {a : Acc} {n : Int} (hl : OkL l) (ha : a ∈ l) (hw : a.who ≠ worldS) (hb : a.balance ≤ 9223372036854775807) (hn : n ≤ 9223372036854775807) (h : mvE a.plc n (hoX l a.plc n) = 0) : HeldP l a n := by
  have hf := findA_mem hl.srt ha
  have hok := hl.all a ha
  have hs := hok.some_ hw
  have hm : mvB a.plc n = true := by
    cases hm : mvB a.plc n
    · rw [(mv_0 (l := l) (er := hoX l a.plc n) (d := n) hm).1] at h; omega
    · rfl
  have h1 : 1 ≤ n := by
    unfold mvB at hm
    simp only [Bool.and_eq_true, Bool.not_eq_true', decide_eq_false_iff_not] at hm
    omega
  have hwr : wrap64 (a.balance - a.held) = a.balance - a.held := by unfold wrap64; omega
  have hx : hoX l a.plc n = if a.balance - a.held < n then 111 else 0 := by unfold hoX; rw [hf, hwr]
  have h2 : ¬ a.balance - a.held < n := fun k => by
    rw [if_pos k] at hx
    rw [hx, (mv_1 (l := l) (d := n) hm (by decide)).1] at h
    omega
  rw [if_neg h2] at hx
  have hw2 : wrap64 (a.held + n) = a.held + n := by unfold wrap64; omega
  have e1 : mvO l a.plc n (hoX l a.plc n) n = withA l ⟨a.who, a.asset, a.balance, a.held + n⟩ := by
    rw [hx, (mv_2 (l := l) (d := n) hm).2, hf, hw2]
    rfl
  have hokN : OkL (withA l ⟨a.who, a.asset, a.balance, a.held + n⟩) := okL_with hl (.inr ⟨hok.nz, hok.named, fun k => absurd k hw, fun _ => by show 0 ≤ a.held + n ∧ a.held + n ≤ a.balance; omega⟩)
  have hfN : findA (withA l ⟨a.who, a.asset, a.balance, a.held + n⟩) a.plc = ⟨a.who, a.asset, a.balance, a.held + n⟩ := by
    rw [find_with hl.srt]
    exact (if_pos rfl).trans (if_neg hok.nz)
  have hfr : frX (withA l ⟨a.who, a.asset, a.balance, a.held + n⟩) a.plc n = 0 := by
    unfold frX
    rw [hfN, if_neg]
    show ¬ a.held + n < n
    omega
  refine ⟨h1, by omega, by rw [e1]; exact hokN, by rw [e1]; exact hfN, ?_, ?_⟩
  · rw [e1, hfr]
    exact (mv_2 (l := l) (d := n) hm).1
  · rw [e1, hfr, (mv_2 (l := withA l ⟨a.who, a.asset, a.balance, a.held + n⟩) (d := wrap64 (-n)) hm).2, hfN]
    have hw3 : wrap64 (a.held + n + wrap64 (-n)) = a.held := by unfold wrap64; omega
    show withA (withA l ⟨a.who, a.asset, a.balance, a.held + n⟩) ⟨a.who, a.asset, a.balance, wrap64 (a.held + n + wrap64 (-n))⟩ = l
    rw [hw3]
    refine acc_ext (srt_with hokN.srt _) hl.srt (nz_with hokN.srt hokN.nz _) hl.nz (fun q => ?_)
    rw [find_with hokN.srt]
    by_cases hq : q = a.plc
    · subst hq
      rw [hf]
      exact (if_pos rfl).trans (if_neg hok.nz)
    · rw [find_with hl.srt]
      exact (if_neg hq).trans (if_neg hq)
abbrev zzP : Plc := ⟨⟨#[122, 122]⟩, ⟨#[90, 90]⟩⟩
theorem zz_named : namedB zzP = true := by decide +kernel
theorem zz_world : zzP.who ≠ worldS := by decide +kernel
/-- All that is not held can be given away; one more can't. -/
theorem give {h : List Acc} {p : Plc} {b hd x : Int} (hl : OkL h) (hb : ∀ a ∈ h, -9223372036854775808 ≤ a.balance ∧ a.balance ≤ 9223372036854775807) (hp : namedB p = true) (hw : p.who ≠ worldS) (hf : (findA h p).balance = b ∧ (findA h p).held = hd) (h0 : 0 ≤ hd) (h1 : hd ≤ b) (hx : -9223372036854775808 ≤ x ∧ x ≤ 9223372036854775807) (hbx : 0 ≤ b + x ∨ -1 ≤ b + x) (hx0 : x ≤ 0) :
    postE h [⟨p.who, p.asset, x⟩, ⟨zzP.who, zzP.asset, 0⟩] = if b + x < hd then 111 else 0 := by
  have hm : mayPost [⟨p.who, p.asset, x⟩, ⟨zzP.who, zzP.asset, 0⟩] = true := by
    unfold mayPost
    simp only [List.all_cons, List.all_nil, Due.plc]
    rw [show namedB ⟨p.who, p.asset⟩ = true from hp, show namedB ⟨zzP.who, zzP.asset⟩ = true from zz_named]
    rfl
  have hsum : (amts [⟨p.who, p.asset, x⟩, ⟨zzP.who, zzP.asset, 0⟩] p).sum = x := by
    unfold amts
    by_cases e : zzP = p
    · rw [List.filter_cons_of_pos (p := fun d : Due => decide (d.plc = p)) (decide_eq_true rfl), List.filter_cons_of_pos (p := fun d : Due => decide (d.plc = p)) (decide_eq_true (show (Due.mk zzP.who zzP.asset 0).plc = p from e))]
      simp
    · rw [List.filter_cons_of_pos (p := fun d : Due => decide (d.plc = p)) (decide_eq_true rfl), List.filter_cons_of_neg (a := (Due.mk zzP.who zzP.asset 0)) (p := fun d : Due => decide (d.plc = p)) (fun k => e (of_decide_eq_true (p := (Due.mk zzP.who zzP.asset 0).plc = p) k))]
      simp
  have hb2 := find_i64 hb p
  rw [hf.1] at hb2
  have e1 : errAt [⟨p.who, p.asset, x⟩, ⟨zzP.who, zzP.asset, 0⟩] h p = if b + x < hd then 111 else 0 := by
    unfold errAt
    rw [hsum, hf.1, hf.2, if_pos (by unfold sumOk; rw [hsum]; simp only [Bool.and_eq_true, decide_eq_true_eq]; omega), if_pos ((i64B_iff _).2 (by omega))]
    by_cases k : b + x < hd
    · rw [if_pos ⟨hw, k⟩, if_pos k]
    · rw [if_neg (fun q => k q.2), if_neg k]
  have e2 : ∀ q, q ≠ p → q ∈ legP [⟨p.who, p.asset, x⟩, ⟨zzP.who, zzP.asset, 0⟩] → errAt [⟨p.who, p.asset, x⟩, ⟨zzP.who, zzP.asset, 0⟩] h q = 0 := by
    intro q hq hqm
    obtain ⟨d, hd, e⟩ := mem_legP.1 hqm
    have e : q = zzP := by
      simp only [List.mem_cons, List.not_mem_nil, or_false] at hd
      rcases hd with rfl | rfl
      · exact absurd e.symm hq
      · exact e.symm
    have hs2 : (amts [⟨p.who, p.asset, x⟩, ⟨zzP.who, zzP.asset, 0⟩] q).sum = 0 := by
      unfold amts
      rw [List.filter_cons_of_neg (a := (Due.mk p.who p.asset x)) (p := fun d : Due => decide (d.plc = q)) (fun k => hq (of_decide_eq_true (p := (Due.mk p.who p.asset x).plc = q) k).symm), List.filter_cons_of_pos (a := (Due.mk zzP.who zzP.asset 0)) (p := fun d : Due => decide (d.plc = q)) (decide_eq_true (show (Due.mk zzP.who zzP.asset 0).plc = q from e.symm))]
      rfl
    have hq2 := find_i64 hb q
    have hh := (find_held hl q).2 (by rw [e]; exact zz_world)
    rw [errAt_zero, hs2]
    refine ⟨by unfold sumOk; rw [hs2]; rfl, (i64B_iff _).2 (by omega), fun k => ?_⟩
    have := k.2
    omega
  have hpm : p ∈ legP [⟨p.who, p.asset, x⟩, ⟨zzP.who, zzP.asset, 0⟩] := mem_legP.2 ⟨_, List.mem_cons_self .., rfl⟩
  rw [postE_eq hl.srt hm]
  by_cases k : b + x < hd
  · rw [if_pos k] at e1 ⊢
    rcases fstE_one (f := errAt [⟨p.who, p.asset, x⟩, ⟨zzP.who, zzP.asset, 0⟩] h) (e := 111) (l := legP [⟨p.who, p.asset, x⟩, ⟨zzP.who, zzP.asset, 0⟩]) (fun q hqm => by
      by_cases e : q = p
      · exact .inr (by rw [e]; exact e1)
      · exact .inl (e2 q e hqm)) with z | z
    · have := fstE_zero.1 z p hpm
      rw [e1] at this
      omega
    · exact z
  · rw [if_neg k] at e1 ⊢
    rw [fstE_zero]
    intro q hqm
    by_cases e : q = p
    · rw [e]; exact e1
    · exact e2 q e hqm
end Go.Proofs.Ytgnninpfhnpjoaa
