/- Legs and then their opposites: the plain law. -/
import Derived.Test.YtgnninpfhnpjoaaPo1
set_option linter.unusedSimpArgs false
set_option linter.unusedVariables false
namespace Go.Proofs.Ytgnninpfhnpjoaa
def negD (d : Due) : Due := ⟨d.who, d.asset, -d.amount⟩
def backL (legs : List Due) : List Due := legs.map negD
theorem negD_plc (d : Due) : (negD d).plc = d.plc := rfl
theorem back_legP (legs : List Due) : legP (backL legs) = legP legs := by
  unfold legP backL
  rw [List.map_map]
  rfl
theorem back_amts (legs : List Due) (p : Plc) : amts (backL legs) p = (amts legs p).map (fun x => -x) := by
  unfold amts backL
  induction legs with
  | nil => rfl
  | cons d l ih =>
    by_cases e : d.plc = p
    · rw [List.map_cons, List.filter_cons_of_pos (p := fun d : Due => decide (d.plc = p)) (decide_eq_true (show (negD d).plc = p from e)), List.filter_cons_of_pos (p := fun d : Due => decide (d.plc = p)) (decide_eq_true e), List.map_cons, List.map_cons, List.map_cons, ih]
      rfl
    · rw [List.map_cons, List.filter_cons_of_neg (a := negD d) (p := fun d : Due => decide (d.plc = p)) (fun k => e (of_decide_eq_true k)), List.filter_cons_of_neg (a := d) (p := fun d : Due => decide (d.plc = p)) (fun k => e (of_decide_eq_true k)), ih]
theorem sum_neg (l : List Int) : (l.map (fun x => -x)).sum = -l.sum := by
  induction l with
  | nil => rfl
  | cons x l ih => simp only [List.map_cons, List.sum_cons]; rw [ih]; omega
theorem sum_bound {l : List Int} {b : Int} (h : ∀ x ∈ l, -b ≤ x ∧ x ≤ b) (hb : 0 ≤ b) : -(b * l.length) ≤ l.sum ∧ l.sum ≤ b * l.length := by
  induction l with
  | nil => simp
  | cons x l ih =>
    have h1 := h x (by simp)
    have h2 := ih (fun y hy => h y (List.mem_cons_of_mem _ hy))
    simp only [List.sum_cons, List.length_cons]
    have e : b * ((l.length + 1 : Nat) : Int) = b * l.length + b := by rw [Int.natCast_add, Int.mul_add]; simp
    rw [e]
    omega
theorem back_may {legs : List Due} (h : mayPost legs = true) : mayPost (backL legs) = true := by
  unfold mayPost backL at *
  rw [List.length_map, List.all_map]
  exact h
theorem acc_z {l : List Acc} (h : OkL l) (p : Plc) (hz : (findA l p).balance = 0) : findA l p = accZ p := by
  rcases find_ok h p with e | ⟨_, e⟩
  · exact e
  · exact absurd hz e.nz
theorem post_back {l : List Acc} {legs : List Due} (hl : OkL l) (hb : ∀ a ∈ l, -9223372036854775808 ≤ a.balance ∧ a.balance ≤ 9223372036854775807) (hn : legs.length ≤ 100) (ha : ∀ d ∈ legs, -1099511627776 ≤ d.amount ∧ d.amount ≤ 1099511627776) (h : postE l legs = 0) :
    postE (postO l legs) (backL legs) = 0 ∧ postO (postO l legs) (backL legs) = l := by
  have hm := post_may h
  obtain ⟨hs1, hz1, hf1⟩ := postO_find hl.srt h
  have hok := post_ok hl.srt h
  have hl1 : OkL (postO l legs) := postO_ok hl
  have key : ∀ p ∈ legP legs, (findA (postO l legs) p).balance = (findA l p).balance + (amts legs p).sum ∧ (findA (postO l legs) p).held = (findA l p).held ∧ (findA (postO l legs) p).plc = p := by
    intro p hp
    refine ⟨?_, ?_, findA_plc _ _⟩
    · rw [hf1 p, if_pos hp]
      unfold updA
      split
      · next e => rw [e]; rfl
      · rfl
    · rw [hf1 p, if_pos hp]
      unfold updA
      split
      · next e =>
        have h2 := (errAt_zero.1 (hok p hp)).2.2
        rw [e] at h2
        have h3 := find_held hl p
        show (0 : Int) = _
        by_cases hw : p.who = worldS
        · exact (h3.1 hw).symm
        · have h4 := h3.2 hw
          have : ¬ (0 : Int) < (findA l p).held := fun k => h2 ⟨hw, k⟩
          omega
      · rfl
  have hsum : ∀ p, -109951162777600 ≤ (amts legs p).sum ∧ (amts legs p).sum ≤ 109951162777600 := by
    intro p
    have h1 := sum_bound (l := amts legs p) (b := 1099511627776) (fun x hx => by
      obtain ⟨d, hd, rfl⟩ := List.mem_map.1 hx
      exact ha d (List.mem_filter.1 hd).1) (by decide)
    have h2 := amts_len legs p
    omega
  have he : postE (postO l legs) (backL legs) = 0 := by
    rw [postE_eq hs1 (back_may hm), fstE_zero]
    intro p hp
    rw [back_legP] at hp
    obtain ⟨k1, k2, _⟩ := key p hp
    rw [errAt_zero, back_amts, sum_neg, k1, k2]
    have hp1 := hsum p
    refine ⟨?_, ?_, ?_⟩
    · unfold sumOk
      rw [sum_neg]
      simp only [Bool.and_eq_true, decide_eq_true_eq]
      omega
    · rw [i64B_iff]
      have := find_i64 hb p
      omega
    · rintro ⟨hw, hlt⟩
      have := (find_held hl p).2 hw
      omega
  refine ⟨he, ?_⟩
  obtain ⟨hs2, hz2, hf2⟩ := postO_find hs1 he
  refine acc_ext hs2 hl.srt (hz2 (hz1 hl.nz)) hl.nz (fun q => ?_)
  rw [hf2 q, back_legP]
  by_cases hq : q ∈ legP legs
  · rw [if_pos hq]
    obtain ⟨k1, k2, _⟩ := key q hq
    have e1 : (findA (postO l legs) q).balance + (amts (backL legs) q).sum = (findA l q).balance := by
      rw [back_amts, sum_neg, k1]
      omega
    unfold updA newA
    rw [e1, k2]
    split
    · next e => exact (acc_z hl q e).symm
    · have hp := findA_plc l q
      obtain ⟨y, hy⟩ : ∃ y, findA l q = y := ⟨_, rfl⟩
      rw [hy] at hp ⊢
      rw [← hp]
      rfl
  · rw [if_neg hq, hf1 q, if_neg hq]
theorem postGo_len (legs : List Due) : ∀ (ps : List Plc) (l : List Acc), (postGo legs ps l).2.length ≤ l.length + ps.length
  | [], l => by simp [postGo]
  | p :: ps, l => by
    unfold postGo
    split
    · have h1 := postGo_len legs ps (withA l (newA legs l p))
      have h2 := with_len l (newA legs l p)
      rw [List.length_cons]
      omega
    · simp
theorem postO_len (l : List Acc) (legs : List Due) : (postO l legs).length ≤ l.length + legs.length := by
  unfold postO postR
  split
  · have := postGo_len legs (legP legs) l
    have := legP_len legs
    omega
  · simp
theorem postO_i64 {l : List Acc} {legs : List Due} (hs : Srt l) (hb : ∀ a ∈ l, -9223372036854775808 ≤ a.balance ∧ a.balance ≤ 9223372036854775807) (h : postE l legs = 0) : ∀ a ∈ postO l legs, -9223372036854775808 ≤ a.balance ∧ a.balance ≤ 9223372036854775807 := by
  intro a ha
  obtain ⟨hs1, _, hf⟩ := postO_find hs h
  have e := findA_mem hs1 ha
  have h2 := hf a.plc
  rw [e] at h2
  by_cases hp : a.plc ∈ legP legs
  · rw [if_pos hp] at h2
    have h3 := (errAt_zero.1 (post_ok hs h _ hp)).2.1
    rw [i64B_iff] at h3
    rw [h2]
    unfold updA
    split
    · show -9223372036854775808 ≤ (0 : Int) ∧ (0 : Int) ≤ 9223372036854775807
      omega
    · exact h3
  · rw [if_neg hp] at h2
    rw [h2]
    exact find_i64 hb a.plc
end Go.Proofs.Ytgnninpfhnpjoaa
