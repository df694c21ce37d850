/- What is held, or freed, of accounts that may be: the plain law. -/
import Derived.Test.YtnpinolhhnpniaaGreatPo1
import Derived.Test.YtnpinolhhnpniaaGreatTotP
import Derived.Test.YtnpinolhhnpniaaGreatPsP
set_option linter.unusedSimpArgs false
set_option linter.unusedVariables false
namespace Go.Proofs.YtnpinolhhnpniaaGreat
def negD (d : Due) : Due := ⟨d.who, d.asset, -d.amount⟩
def backL (legs : List Due) : List Due := legs.map negD
theorem negD_plc (d : Due) : (negD d).plc = d.plc := rfl
theorem back_legP (legs : List Due) : legP (backL legs) = legP legs := by
  unfold legP backL
  rw [List.map_map]
  rfl
theorem back_amts (legs : List Due) (p : Plc) : amts (backL legs) p = (amts legs p).map (fun x => -x) := by
  unfold amts backL
  induction legs with
  | nil => rfl
  | cons d l ih =>
    by_cases e : d.plc = p
    · rw [List.map_cons, List.filter_cons_of_pos (p := fun d : Due => decide (d.plc = p)) (decide_eq_true (show (negD d).plc = p from e)), List.filter_cons_of_pos (p := fun d : Due => decide (d.plc = p)) (decide_eq_true e), List.map_cons, List.map_cons, List.map_cons, ih]
      rfl
    · rw [List.map_cons, List.filter_cons_of_neg (a := negD d) (p := fun d : Due => decide (d.plc = p)) (fun k => e (of_decide_eq_true k)), List.filter_cons_of_neg (a := d) (p := fun d : Due => decide (d.plc = p)) (fun k => e (of_decide_eq_true k)), ih]
theorem sum_neg (l : List Int) : (l.map (fun x => -x)).sum = -l.sum := by
  induction l with
  | nil => rfl
  | cons x l ih => simp only [List.map_cons, List.sum_cons]; rw [ih]; omega
theorem sum_bound {l : List Int} {b : Int} (h : ∀ x ∈ l, -b ≤ x ∧ x ≤ b) (hb : 0 ≤ b) : -(b * l.length) ≤ l.sum ∧ l.sum ≤ b * l.length := by
  induction l with
  | nil => simp
  | cons x l ih =>
    have h1 := h x (by simp)
    have h2 := ih (fun y hy => h y (List.mem_cons_of_mem _ hy))
    simp only [List.sum_cons, List.length_cons]
    have e : b * ((l.length + 1 : Nat) : Int) = b * l.length + b := by rw [Int.natCast_add, Int.mul_add]; simp
    rw [e]
    omega
theorem back_may {legs : List Due} (h : mayPost legs = true) : mayPost (backL legs) = true := by
  unfold mayPost backL at *
  rw [List.length_map, List.all_map]
  exact h
theorem acc_z {l : List Acc} (h : OkL l) (p : Plc) (hz : (findA l p).balance = 0) : findA l p = accZ p := by
  rcases find_ok h p with e | ⟨_, e⟩
  · exact e
  · exact absurd hz e.nz
theorem post_back {l : List Acc} {legs : List Due} (hl : OkL l) (hb : ∀ a ∈ l, -9223372036854775808 ≤ a.balance ∧ a.balance ≤ 9223372036854775807) (hn : legs.length ≤ 100) (ha : ∀ d ∈ legs, -1099511627776 ≤ d.amount ∧ d.amount ≤ 1099511627776) (h : postE l legs = 0) :
    postE (postO l legs) (backL legs) = 0 ∧ postO (postO l legs) (backL legs) = l := by
  have hm := post_may h
  obtain ⟨hs1, hz1, hf1⟩ := postO_find hl.srt h
  have hok := post_ok hl.srt h
  have hl1 : OkL (postO l legs) := postO_ok hl
  have key : ∀ p ∈ legP legs, (findA (postO l legs) p).balance = (findA l p).balance + (amts legs p).sum ∧ (findA (postO l legs) p).held = (findA l p).held ∧ (findA (postO l legs) p).plc = p := by
    intro p hp
    refine ⟨?_, ?_, findA_plc _ _⟩
    · rw [hf1 p, if_pos hp]
      unfold updA
      split
      · next e => rw [e]; rfl
      · rfl
    · rw [hf1 p, if_pos hp]
      unfold updA
      split
      · next e =>
        have h2 := (errAt_zero.1 (hok p hp)).2.2
        rw [e] at h2
        have h3 := find_held hl p
        show (0 : Int) = _
        by_cases hw : p.who = worldS
        · exact (h3.1 hw).symm
        · have h4 := h3.2 hw
          have : ¬ (0 : Int) < (findA l p).held := fun k => h2 ⟨hw, k⟩
          omega
      · rfl
  have hsum : ∀ p, -109951162777600 ≤ (amts legs p).sum ∧ (amts legs p).sum ≤ 109951162777600 := by
    intro p
    have h1 := sum_bound (l := amts legs p) (b := 1099511627776) (fun x hx => by
      obtain ⟨d, hd, rfl⟩ := List.mem_map.1 hx
      exact ha d (List.mem_filter.1 hd).1) (by decide)
    have h2 := amts_len legs p
    omega
  have he : postE (postO l legs) (backL legs) = 0 := by
    rw [postE_eq hs1 (back_may hm), fstE_zero]
    intro p hp
    rw [back_legP] at hp
    obtain ⟨k1, k2, _⟩ := key p hp
    rw [errAt_zero, back_amts, sum_neg, k1, k2]
    have hp1 := hsum p
    refine ⟨?_, ?_, ?_⟩
    · unfold sumOk
      rw [sum_neg]
      simp only [Bool.and_eq_true, decide_eq_true_eq]
      omega
    · rw [i64B_iff]
      have := find_i64 hb p
      omega
    · rintro ⟨hw, hlt⟩
      have := (find_held hl p).2 hw
      omega
  refine ⟨he, ?_⟩
  obtain ⟨hs2, hz2, hf2⟩ := postO_find hs1 he
  refine acc_ext hs2 hl.srt (hz2 (hz1 hl.nz)) hl.nz (fun q => ?_)
  rw [hf2 q, back_legP]
  by_cases hq : q ∈ legP legs
  · rw [if_pos hq]
    obtain ⟨k1, k2, _⟩ := key q hq
    have e1 : (findA (postO l legs) q).balance + (amts (backL legs) q).sum = (findA l q).balance := by
      rw [back_amts, sum_neg, k1]
      omega
    unfold updA newA
    rw [e1, k2]
    split
    · next e => exact (acc_z hl q e).symm
    · have hp := findA_plc l q
      obtain ⟨y, hy⟩ : ∃ y, findA l q = y := ⟨_, rfl⟩
      rw [hy] at hp ⊢
      rw [← hp]
      rfl
  · rw [if_neg hq, hf1 q, if_neg hq]
theorem postGo_len (legs : List Due) : ∀ (ps : List Plc) (l : List Acc), (postGo legs ps l).2.length ≤ l.length + ps.length
  | [], l => by simp [postGo]
  | p :: ps, l => by
    unfold postGo
    split
    · have h1 := postGo_len legs ps (withA l (newA legs l p))
      have h2 := with_len l (newA legs l p)
      rw [List.length_cons]
      omega
    · simp
theorem postO_len (l : List Acc) (legs : List Due) : (postO l legs).length ≤ l.length + legs.length := by
  unfold postO postR
  split
  · have := postGo_len legs (legP legs) l
    have := legP_len legs
    omega
  · simp
theorem postO_i64 {l : List Acc} {legs : List Due} (hs : Srt l) (hb : ∀ a ∈ l, -9223372036854775808 ≤ a.balance ∧ a.balance ≤ 9223372036854775807) (h : postE l legs = 0) : ∀ a ∈ postO l legs, -9223372036854775808 ≤ a.balance ∧ a.balance ≤ 9223372036854775807 := by
  intro a ha
  obtain ⟨hs1, _, hf⟩ := postO_find hs h
  have e := findA_mem hs1 ha
  have h2 := hf a.plc
  rw [e] at h2
  by_cases hp : a.plc ∈ legP legs
  · rw [if_pos hp] at h2
    have h3 := (errAt_zero.1 (post_ok hs h _ hp)).2.1
    rw [i64B_iff] at h3
    rw [h2]
    unfold updA
    split
    · show -9223372036854775808 ≤ (0 : Int) ∧ (0 : Int) ≤ 9223372036854775807
      omega
    · exact h3
  · rw [if_neg hp] at h2
    rw [h2]
    exact find_i64 hb a.plc
end Go.Proofs.YtnpinolhhnpniaaGreat
set_option linter.unusedSimpArgs false
set_option linter.unusedVariables false
namespace Go.Proofs.YtnpinolhhnpniaaGreat
open Go.RowKit Go.Lib
def hoX (l : List Acc) (p : Plc) (m : Int) : Int := if wrap64 ((findA l p).balance - (findA l p).held) < m then 111 else 0
def frX (l : List Acc) (p : Plc) (m : Int) : Int := if (findA l p).held < m then 112 else 0
structure HeldP (l : List Acc) (a : Acc) (n : Int) : Prop where
  lo : 1 ≤ n
  hi : n ≤ a.balance - a.held
  ok : OkL (mvO l a.plc n (hoX l a.plc n) n)
  find : findA (mvO l a.plc n (hoX l a.plc n) n) a.plc = ⟨a.who, a.asset, a.balance, a.held + n⟩
  can : mvE a.plc n (frX (mvO l a.plc n (hoX l a.plc n) n) a.plc n) = 0
  back : mvO (mvO l a.plc n (hoX l a.plc n) n) a.plc n (frX (mvO l a.plc n (hoX l a.plc n) n) a.plc n) (wrap64 (-n)) = l
theorem held_no {l : List Acc} {a : Acc} {n : Int} (hl : OkL l) (ha : a ∈ l) (hw : a.who ≠ worldS) (hb : a.balance ≤ 9223372036854775807) (h : mvE a.plc n (hoX l a.plc n) ≠ 0) :
    (n < 1 ∧ mvE a.plc n (hoX l a.plc n) = 1) ∨ (¬ n < 1 ∧ a.balance - a.held < n ∧ mvE a.plc n (hoX l a.plc n) = 111) := by
  have hf := findA_mem hl.srt ha
  have hok := hl.all a ha
  have hs := hok.some_ hw
  by_cases h1 : n < 1
  · refine .inl ⟨h1, (mv_0 (l := l) (er := hoX l a.plc n) (d := n) ?_).1⟩
    unfold mvB
    rw [decide_eq_true h1]
    rfl
  · have hm : mvB a.plc n = true := by
      unfold mvB
      rw [decide_eq_false h1, decide_eq_false (show ¬ a.plc.who = worldS from hw), hok.named]
      rfl
    have hwr : wrap64 (a.balance - a.held) = a.balance - a.held := by unfold wrap64; omega
    have hx : hoX l a.plc n = if a.balance - a.held < n then 111 else 0 := by unfold hoX; rw [hf, hwr]
    by_cases h2 : a.balance - a.held < n
    · rw [if_pos h2] at hx
      refine .inr ⟨h1, h2, ?_⟩
      rw [hx]
      exact (mv_1 (l := l) (d := n) hm (by decide)).1
    · rw [if_neg h2] at hx
      rw [hx] at h
      exact absurd (mv_2 (l := l) (d := n) hm).1 h
theorem held_yes {l : List Acc} {a : Acc} {n : Int} (hl : OkL l) (ha : a ∈ l) (hw : a.who ≠ worldS) (hb : a.balance ≤ 9223372036854775807) (hn : n ≤ 9223372036854775807) (h : mvE a.plc n (hoX l a.plc n) = 0) : HeldP l a n := by
  have hf := findA_mem hl.srt ha
  have hok := hl.all a ha
  have hs := hok.some_ hw
  have hm : mvB a.plc n = true := by
    cases hm : mvB a.plc n
    · rw [(mv_0 (l := l) (er := hoX l a.plc n) (d := n) hm).1] at h; omega
    · rfl
  have h1 : 1 ≤ n := by
    unfold mvB at hm
    simp only [Bool.and_eq_true, Bool.not_eq_true', decide_eq_false_iff_not] at hm
    omega
  have hwr : wrap64 (a.balance - a.held) = a.balance - a.held := by unfold wrap64; omega
  have hx : hoX l a.plc n = if a.balance - a.held < n then 111 else 0 := by unfold hoX; rw [hf, hwr]
  have h2 : ¬ a.balance - a.held < n := fun k => by
    rw [if_pos k] at hx
    rw [hx, (mv_1 (l := l) (d := n) hm (by decide)).1] at h
    omega
  rw [if_neg h2] at hx
  have hw2 : wrap64 (a.held + n) = a.held + n := by unfold wrap64; omega
  have e1 : mvO l a.plc n (hoX l a.plc n) n = withA l ⟨a.who, a.asset, a.balance, a.held + n⟩ := by
    rw [hx, (mv_2 (l := l) (d := n) hm).2, hf, hw2]
    rfl
  have hokN : OkL (withA l ⟨a.who, a.asset, a.balance, a.held + n⟩) := okL_with hl (.inr ⟨hok.nz, hok.named, fun k => absurd k hw, fun _ => by show 0 ≤ a.held + n ∧ a.held + n ≤ a.balance; omega⟩)
  have hfN : findA (withA l ⟨a.who, a.asset, a.balance, a.held + n⟩) a.plc = ⟨a.who, a.asset, a.balance, a.held + n⟩ := by
    rw [find_with hl.srt]
    exact (if_pos rfl).trans (if_neg hok.nz)
  have hfr : frX (withA l ⟨a.who, a.asset, a.balance, a.held + n⟩) a.plc n = 0 := by
    unfold frX
    rw [hfN, if_neg]
    show ¬ a.held + n < n
    omega
  refine ⟨h1, by omega, by rw [e1]; exact hokN, by rw [e1]; exact hfN, ?_, ?_⟩
  · rw [e1, hfr]
    exact (mv_2 (l := l) (d := n) hm).1
  · rw [e1, hfr, (mv_2 (l := withA l ⟨a.who, a.asset, a.balance, a.held + n⟩) (d := wrap64 (-n)) hm).2, hfN]
    have hw3 : wrap64 (a.held + n + wrap64 (-n)) = a.held := by unfold wrap64; omega
    show withA (withA l ⟨a.who, a.asset, a.balance, a.held + n⟩) ⟨a.who, a.asset, a.balance, wrap64 (a.held + n + wrap64 (-n))⟩ = l
    rw [hw3]
    refine acc_ext (srt_with hokN.srt _) hl.srt (nz_with hokN.srt hokN.nz _) hl.nz (fun q => ?_)
    rw [find_with hokN.srt]
    by_cases hq : q = a.plc
    · subst hq
      rw [hf]
      exact (if_pos rfl).trans (if_neg hok.nz)
    · rw [find_with hl.srt]
      exact (if_neg hq).trans (if_neg hq)
abbrev zzP : Plc := ⟨⟨#[122, 122]⟩, ⟨#[90, 90]⟩⟩
theorem zz_named : namedB zzP = true := by decide +kernel
theorem zz_world : zzP.who ≠ worldS := by decide +kernel
/-- All that is not held can be given away; one more can't. -/
theorem give {h : List Acc} {p : Plc} {b hd x : Int} (hl : OkL h) (hb : ∀ a ∈ h, -9223372036854775808 ≤ a.balance ∧ a.balance ≤ 9223372036854775807) (hp : namedB p = true) (hw : p.who ≠ worldS) (hf : (findA h p).balance = b ∧ (findA h p).held = hd) (h0 : 0 ≤ hd) (h1 : hd ≤ b) (hx : -9223372036854775808 ≤ x ∧ x ≤ 9223372036854775807) (hbx : 0 ≤ b + x ∨ -1 ≤ b + x) (hx0 : x ≤ 0) :
    postE h [⟨p.who, p.asset, x⟩, ⟨zzP.who, zzP.asset, 0⟩] = if b + x < hd then 111 else 0 := by
  have hm : mayPost [⟨p.who, p.asset, x⟩, ⟨zzP.who, zzP.asset, 0⟩] = true := by
    unfold mayPost
    simp only [List.all_cons, List.all_nil, Due.plc]
    rw [show namedB ⟨p.who, p.asset⟩ = true from hp, show namedB ⟨zzP.who, zzP.asset⟩ = true from zz_named]
    rfl
  have hsum : (amts [⟨p.who, p.asset, x⟩, ⟨zzP.who, zzP.asset, 0⟩] p).sum = x := by
    unfold amts
    by_cases e : zzP = p
    · rw [List.filter_cons_of_pos (p := fun d : Due => decide (d.plc = p)) (decide_eq_true rfl), List.filter_cons_of_pos (p := fun d : Due => decide (d.plc = p)) (decide_eq_true (show (Due.mk zzP.who zzP.asset 0).plc = p from e))]
      simp
    · rw [List.filter_cons_of_pos (p := fun d : Due => decide (d.plc = p)) (decide_eq_true rfl), List.filter_cons_of_neg (a := (Due.mk zzP.who zzP.asset 0)) (p := fun d : Due => decide (d.plc = p)) (fun k => e (of_decide_eq_true (p := (Due.mk zzP.who zzP.asset 0).plc = p) k))]
      simp
  have hb2 := find_i64 hb p
  rw [hf.1] at hb2
  have e1 : errAt [⟨p.who, p.asset, x⟩, ⟨zzP.who, zzP.asset, 0⟩] h p = if b + x < hd then 111 else 0 := by
    unfold errAt
    rw [hsum, hf.1, hf.2, if_pos (by unfold sumOk; rw [hsum]; simp only [Bool.and_eq_true, decide_eq_true_eq]; omega), if_pos ((i64B_iff _).2 (by omega))]
    by_cases k : b + x < hd
    · rw [if_pos ⟨hw, k⟩, if_pos k]
    · rw [if_neg (fun q => k q.2), if_neg k]
  have e2 : ∀ q, q ≠ p → q ∈ legP [⟨p.who, p.asset, x⟩, ⟨zzP.who, zzP.asset, 0⟩] → errAt [⟨p.who, p.asset, x⟩, ⟨zzP.who, zzP.asset, 0⟩] h q = 0 := by
    intro q hq hqm
    obtain ⟨d, hd, e⟩ := mem_legP.1 hqm
    have e : q = zzP := by
      simp only [List.mem_cons, List.not_mem_nil, or_false] at hd
      rcases hd with rfl | rfl
      · exact absurd e.symm hq
      · exact e.symm
    have hs2 : (amts [⟨p.who, p.asset, x⟩, ⟨zzP.who, zzP.asset, 0⟩] q).sum = 0 := by
      unfold amts
      rw [List.filter_cons_of_neg (a := (Due.mk p.who p.asset x)) (p := fun d : Due => decide (d.plc = q)) (fun k => hq (of_decide_eq_true (p := (Due.mk p.who p.asset x).plc = q) k).symm), List.filter_cons_of_pos (a := (Due.mk zzP.who zzP.asset 0)) (p := fun d : Due => decide (d.plc = q)) (decide_eq_true (show (Due.mk zzP.who zzP.asset 0).plc = q from e.symm))]
      rfl
    have hq2 := find_i64 hb q
    have hh := (find_held hl q).2 (by rw [e]; exact zz_world)
    rw [errAt_zero, hs2]
    refine ⟨by unfold sumOk; rw [hs2]; rfl, (i64B_iff _).2 (by omega), fun k => ?_⟩
    have := k.2
    omega
  have hpm : p ∈ legP [⟨p.who, p.asset, x⟩, ⟨zzP.who, zzP.asset, 0⟩] := mem_legP.2 ⟨_, List.mem_cons_self .., rfl⟩
  rw [postE_eq hl.srt hm]
  by_cases k : b + x < hd
  · rw [if_pos k] at e1 ⊢
    rcases fstE_one (f := errAt [⟨p.who, p.asset, x⟩, ⟨zzP.who, zzP.asset, 0⟩] h) (e := 111) (l := legP [⟨p.who, p.asset, x⟩, ⟨zzP.who, zzP.asset, 0⟩]) (fun q hqm => by
      by_cases e : q = p
      · exact .inr (by rw [e]; exact e1)
      · exact .inl (e2 q e hqm)) with z | z
    · have := fstE_zero.1 z p hpm
      rw [e1] at this
      omega
    · exact z
  · rw [if_neg k] at e1 ⊢
    rw [fstE_zero]
    intro q hqm
    by_cases e : q = p
    · rw [e]; exact e1
    · exact e2 q e hqm
end Go.Proofs.YtnpinolhhnpniaaGreat
set_option linter.unusedSimpArgs false
set_option linter.unusedVariables false
namespace Go.Proofs.YtnpinolhhnpniaaGreat
open Go.RowKit Go.Lib
/-! ### 1. Legs of the same sums -/
theorem errAt_sum {legs legs' : List Due} {l : List Acc} {p : Plc} (h : (amts legs p).sum = (amts legs' p).sum) : errAt legs l p = errAt legs' l p := by
  unfold errAt
  rw [sumOk_congr h, h]
theorem newA_sum {legs legs' : List Due} {l : List Acc} {p : Plc} (h : (amts legs p).sum = (amts legs' p).sum) : newA legs l p = newA legs' l p := by
  unfold newA
  rw [h]
theorem postGo_sum {legs legs' : List Due} (h : ∀ p, (amts legs p).sum = (amts legs' p).sum) : ∀ (ps : List Plc) (l : List Acc), postGo legs ps l = postGo legs' ps l
  | [], _ => rfl
  | p :: ps, l => by
    unfold postGo
    rw [errAt_sum (h p), newA_sum (h p), postGo_sum h ps]
theorem postR_sum {legs legs' : List Due} {l : List Acc} (hm : mayPost legs = mayPost legs') (hp : ∀ p, p ∈ legP legs ↔ p ∈ legP legs') (hs : ∀ p, (amts legs p).sum = (amts legs' p).sum) : postE l legs = postE l legs' ∧ postO l legs = postO l legs' := by
  have e : postR l legs = postR l legs' := by
    unfold postR
    rw [hm, up_ext (up_legP legs) (up_legP legs') hp, postGo_sum hs]
  unfold postE postO
  rw [e]
  exact ⟨rfl, rfl⟩
theorem may_mem {a b : List Due} (h1 : (1 ≤ a.length ∧ a.length ≤ 200) ↔ (1 ≤ b.length ∧ b.length ≤ 200)) (h : ∀ p, p ∈ a.map Due.plc ↔ p ∈ b.map Due.plc) : mayPost a = mayPost b := by
  have key : ∀ a : List Due, mayPost a = true ↔ (1 ≤ a.length ∧ a.length ≤ 200) ∧ ∀ p ∈ a.map Due.plc, namedB p = true := by
    intro a
    unfold mayPost
    simp only [Bool.and_eq_true, decide_eq_true_eq, List.all_eq_true, List.mem_map, forall_exists_index, and_imp, forall_apply_eq_imp_iff₂]
    exact ⟨fun ⟨x, y, z⟩ => ⟨⟨x, y⟩, z⟩, fun ⟨⟨x, y⟩, z⟩ => ⟨x, y, z⟩⟩
  have : mayPost a = true ↔ mayPost b = true := by
    rw [key, key, h1]
    constructor
    · exact fun ⟨x, y⟩ => ⟨x, fun p hp => y p ((h p).2 hp)⟩
    · exact fun ⟨x, y⟩ => ⟨x, fun p hp => y p ((h p).1 hp)⟩
  cases ha : mayPost a <;> cases hb : mayPost b <;> simp_all
theorem mem_legP' {legs : List Due} {p : Plc} : p ∈ legP legs ↔ p ∈ legs.map Due.plc := by
  unfold legP
  exact mem_plcs
theorem post_turn (l : List Acc) (legs : List Due) (k : Nat) : postE l legs = postE l (turnL legs k) ∧ postO l legs = postO l (turnL legs k) :=
  postR_sum (may_mem (by rw [turn_len]) (turn_mem legs k)) (fun p => by rw [mem_legP', mem_legP', turn_mem legs k]) (turn_sum legs k)
theorem post_parts (l : List Acc) (x : Due) (n : Int) (t : List Due) (hn : t.length ≤ 100) : postE l (x :: t) = postE l (partsL x n t) ∧ postO l (x :: t) = postO l (partsL x n t) := by
  have hmem : ∀ p, p ∈ (x :: t).map Due.plc ↔ p ∈ (partsL x n t).map Due.plc := by
    intro p
    show p ∈ x.plc :: t.map Due.plc ↔ p ∈ x.plc :: x.plc :: t.map Due.plc
    simp
  exact postR_sum (may_mem (by unfold partsL; simp only [List.length_cons]; omega) hmem) (fun p => by rw [mem_legP', mem_legP', hmem]) (parts_sum x n t)
/-! ### 2. Totals -/
theorem bal_append (a b : List Acc) (s : ByteArray) : balA (a ++ b) s = balA a s ++ balA b s := by
  unfold balA
  rw [List.filter_append, List.map_append]
theorem bal_one (a : Acc) (s : ByteArray) : (balA [a] s).sum = if a.asset = s then a.balance else 0 := by
  unfold balA
  by_cases e : a.asset = s <;> simp [List.filter_cons, e]
theorem bal_with {l : List Acc} (hs : Srt l) (a : Acc) (s : ByteArray) : (balA (withA l a) s).sum = (balA l s).sum + (if a.asset = s then a.balance - (findA l a.plc).balance else 0) := by
  obtain ⟨L, M, R, hC⟩ := srt_cut hs a.plc
  rw [hC.with_, hC.find]
  conv => rhs; rw [hC.eq]
  simp only [bal_append, List.sum_append]
  have h1 : (balA (if a.balance = 0 then [] else [a]) s).sum = if a.asset = s then a.balance else 0 := by
    split
    · next e => rw [e]; split <;> rfl
    · exact bal_one a s
  rw [h1]
  cases M with
  | none =>
    show _ = _ + (([] : List Int).sum + _) + (if a.asset = s then a.balance - 0 else 0)
    split <;> simp <;> omega
  | some x =>
    have hx : x.asset = a.asset := congrArg Plc.asset (hC.at_ x rfl)
    show _ = _ + ((balA [x] s).sum + _) + (if a.asset = s then a.balance - x.balance else 0)
    rw [bal_one, hx]
    split <;> omega
theorem postGo_bal (legs : List Due) (s : ByteArray) : ∀ (ps : List Plc) (l : List Acc), Up ps → Srt l → (∀ p ∈ ps, errAt legs l p = 0) → (balA (postGo legs ps l).2 s).sum = (balA l s).sum + sumAt legs s ps
  | [], l, _, _, _ => by simp [postGo, sumAt]
  | p :: ps, l, hu, hs, h => by
    obtain ⟨u1, u2⟩ := List.pairwise_cons.1 hu
    have hsame : ∀ q ∈ ps, findA (withA l (newA legs l p)) q = findA l q := fun q hq => by
      rw [find_with hs, if_neg (fun e => ltP_ne (u1 q hq) e.symm)]
    unfold postGo
    rw [if_pos (h p (by simp)), postGo_bal legs s ps _ u2 (srt_with hs _) (fun q hq => (errAt_congr (hsame q hq)).trans (h q (by simp [hq]))), bal_with hs]
    show _ + (if p.asset = s then (findA l p).balance + (amts legs p).sum - (findA l p).balance else 0) + _ = _
    unfold sumAt
    simp only [List.map_cons, List.sum_cons]
    split <;> omega
/-- A sum over places, each once, that hold all legs': the legs' sum. -/
theorem bal_post {l : List Acc} {legs : List Due} (hs : Srt l) (h : postE l legs = 0) (s : ByteArray) : (balA (postO l legs) s).sum = (balA l s).sum + (assL legs s).sum := by
  have hm := post_may h
  have hok := post_ok hs h
  have := postGo_bal legs s (legP legs) l (up_legP legs) hs hok
  unfold postO postR
  rw [if_pos hm, this, sumAt_legs s (up_legP legs) legs (fun d hd => mem_legP.2 ⟨d, hd, rfl⟩)]
/-- Legs, each with its opposite for another. -/
def allS (other : ByteArray) (legs : List Due) : List Due := legs.flatMap (fun d => [d, ⟨other, d.asset, -d.amount⟩])
theorem allS_len (other : ByteArray) : ∀ legs : List Due, (allS other legs).length = 2 * legs.length
  | [] => rfl
  | d :: legs => by
    have := allS_len other legs
    unfold allS at this ⊢
    rw [List.flatMap_cons, List.length_append, this]
    simp
    omega
theorem allS_ass (other s : ByteArray) : ∀ legs : List Due, (assL (allS other legs) s).sum = 0
  | [] => rfl
  | d :: legs => by
    have ih := allS_ass other s legs
    unfold allS assL at ih ⊢
    rw [List.flatMap_cons, List.filter_append, List.map_append, List.sum_append, ih]
    by_cases e : d.asset = s <;> simp [List.filter_cons, e]
    omega
theorem allS_step {legs : List Due} {k : Nat} {o : Due} (other : ByteArray) (h : legs[k]? = some o) : allS other (legs.take k) ++ [o, ⟨other, o.asset, -o.amount⟩] = allS other (legs.take (k + 1)) := by
  unfold allS
  rw [List.take_add_one, h, List.flatMap_append]
  simp
theorem sums_total {l : List Acc} {legs : List Due} (other : ByteArray) (hs : Srt l) (h : postE l (allS other legs) = 0) (s : ByteArray) : sumV (balA l s) = sumV (balA (postO l (allS other legs)) s) ∧ sumE (balA l s) = sumE (balA (postO l (allS other legs)) s) := by
  have h1 := bal_post hs h s
  rw [allS_ass, Int.add_zero] at h1
  unfold sumV sumE
  rw [sumOk_congr h1, h1]
  exact ⟨rfl, rfl⟩
/-- Each account changes by just its legs' sum. -/
theorem post_each {l : List Acc} {legs : List Due} (hl : OkL l) (h : postE l legs = 0) {d : Due} (hd : d ∈ legs) : sumV (amts legs d.plc ++ [(findA l d.plc).balance]) = (findA (postO l legs) d.plc).balance ∧ sumE (amts legs d.plc ++ [(findA l d.plc).balance]) = 0 ∧ (findA (postO l legs) d.plc).held = (findA l d.plc).held := by
  have hp : d.plc ∈ legP legs := mem_legP.2 ⟨d, hd, rfl⟩
  have hz := errAt_zero.1 (post_ok hl.srt h _ hp)
  have hf := (postO_find hl.srt h).2.2 d.plc
  rw [if_pos hp] at hf
  have hsum : (amts legs d.plc ++ [(findA l d.plc).balance]).sum = (findA l d.plc).balance + (amts legs d.plc).sum := by simp; omega
  have hok : sumOk (amts legs d.plc ++ [(findA l d.plc).balance]) = true := by
    have := (i64B_iff _).1 hz.2.1
    unfold sumOk
    rw [hsum]
    simp only [Bool.and_eq_true, decide_eq_true_eq]
    exact this
  unfold sumV sumE
  rw [if_pos hok, if_pos hok, hsum, hf]
  unfold updA
  split
  · next e =>
    refine ⟨e, rfl, ?_⟩
    have h2 := hz.2.2
    rw [e] at h2
    have h3 := find_held hl d.plc
    show (0 : Int) = _
    by_cases hw : d.plc.who = worldS
    · exact (h3.1 hw).symm
    · have h4 := h3.2 hw
      have : ¬ (0 : Int) < (findA l d.plc).held := fun k => h2 ⟨hw, k⟩
      omega
  · exact ⟨rfl, rfl, rfl⟩
end Go.Proofs.YtnpinolhhnpniaaGreat
set_option linter.unusedSimpArgs false
set_option linter.unusedVariables false
namespace Go.Proofs.YtnpinolhhnpniaaGreat
open Go.RowKit Go.Lib
theorem mv_may {p : Plc} {m : Int} (h : mvB p m = true) : 1 ≤ m ∧ p.who ≠ worldS ∧ namedB p = true := by
  unfold mvB at h
  simp only [Bool.and_eq_true, Bool.not_eq_true', decide_eq_false_iff_not] at h
  exact ⟨by omega, h.2.1, h.2.2⟩
theorem mv_err {l : List Acc} {p : Plc} {m er d : Int} (h : mvE p m er ≠ 0) : mvO l p m er d = [] := by
  cases hb : mvB p m
  · exact (mv_0 hb).2
  · by_cases he : er = 0
    · subst he
      exact absurd (mv_2 (l := l) (d := d) hb).1 h
    · exact (mv_1 hb he).2
theorem hold_ok {l : List Acc} {p : Plc} {n : Int} (hl : OkL l) (hb : ∀ a ∈ l, -9223372036854775808 ≤ a.balance ∧ a.balance ≤ 9223372036854775807) (hn : n ≤ 9223372036854775807) : OkL (mvO l p n (hoX l p n) n) := by
  cases hm : mvB p n
  · rw [(mv_0 hm).2]
    exact OkL.nil
  · obtain ⟨h1, hw, hnm⟩ := mv_may hm
    have hh := (find_held hl p).2 hw
    have hz := find_i64 hb p
    have hwr : wrap64 ((findA l p).balance - (findA l p).held) = (findA l p).balance - (findA l p).held := by unfold wrap64; omega
    by_cases hx : hoX l p n = 0
    · have hle : n ≤ (findA l p).balance - (findA l p).held := by
        unfold hoX at hx
        rw [hwr] at hx
        split at hx
        · cases hx
        · omega
      rw [hx, (mv_2 (l := l) (d := n) hm).2, show wrap64 ((findA l p).held + n) = (findA l p).held + n by unfold wrap64; omega]
      refine okL_with hl (.inr ⟨?_, hnm, fun k => absurd k hw, fun _ => ?_⟩)
      · show (findA l p).balance ≠ 0
        omega
      · show 0 ≤ (findA l p).held + n ∧ (findA l p).held + n ≤ (findA l p).balance
        omega
    · rw [(mv_1 hm hx).2]
      exact OkL.nil
theorem free_ok {l : List Acc} {p : Plc} {n : Int} (hl : OkL l) (hb : ∀ a ∈ l, -9223372036854775808 ≤ a.balance ∧ a.balance ≤ 9223372036854775807) (hn : n ≤ 9223372036854775807) : OkL (mvO l p n (frX l p n) (wrap64 (-n))) := by
  cases hm : mvB p n
  · rw [(mv_0 hm).2]
    exact OkL.nil
  · obtain ⟨h1, hw, hnm⟩ := mv_may hm
    have hh := (find_held hl p).2 hw
    have hz := find_i64 hb p
    by_cases hx : frX l p n = 0
    · have hle : n ≤ (findA l p).held := by
        unfold frX at hx
        split at hx
        · cases hx
        · omega
      rw [hx, (mv_2 (l := l) (d := wrap64 (-n)) hm).2, show wrap64 ((findA l p).held + wrap64 (-n)) = (findA l p).held - n by unfold wrap64; omega]
      refine okL_with hl (.inr ⟨?_, hnm, fun k => absurd k hw, fun _ => ?_⟩)
      · show (findA l p).balance ≠ 0
        omega
      · show 0 ≤ (findA l p).held - n ∧ (findA l p).held - n ≤ (findA l p).balance
        omega
    · rw [(mv_1 hm hx).2]
      exact OkL.nil
theorem named_size {p : Plc} (h : namedB p = true) : p.who.size ≤ 8 ∧ p.asset.size ≤ 6 := by
  unfold namedB whoB assetB at h
  simp only [Bool.and_eq_true, decide_eq_true_eq] at h
  exact ⟨h.1.1.2.2, h.2.2.2⟩
theorem ok_size {l : List Acc} (h : OkL l) : ∀ a ∈ l, a.who.size ≤ 9223372036854775807 ∧ a.asset.size ≤ 9223372036854775807 := fun a ha => by
  have := named_size (h.all a ha).named
  exact ⟨Nat.le_trans this.1 (by decide), Nat.le_trans this.2 (by decide)⟩
theorem chk_ok {l : List Acc} (h : OkL l) : chkAE l = 0 := by
  unfold chkAE
  rw [okL_iff.2 h]
  rfl
end Go.Proofs.YtnpinolhhnpniaaGreat
