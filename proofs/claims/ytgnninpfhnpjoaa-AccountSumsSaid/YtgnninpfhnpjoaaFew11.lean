/- few of layer 11's statements. -/
import Derived.Test.YtgnninpfhnpjoaaAc8
import Derived.Test.YtgnninpfhnpjoaaTyLeg
set_option linter.unusedSimpArgs false
set_option linter.unusedVariables false
namespace Go.Proofs.Ytgnninpfhnpjoaa
open Go.RowKit Go.Lib
def accShort (a : Acc) : Bool := decide (a.who.size ≤ 100) && decide (a.asset.size ≤ 100)
def legShort (a : Due) : Bool := decide (a.who.size ≤ 100) && decide (a.asset.size ≤ 100)
def few11 (l : List Acc) (legs : List Due) : Bool := decide (l.length ≤ 200) && (decide (legs.length ≤ 210) && (l.all accShort && legs.all legShort))
theorem few11_iff {l : List Acc} {legs : List Due} : few11 l legs = true ↔ l.length ≤ 200 ∧ legs.length ≤ 210 ∧ (∀ a ∈ l, a.who.size ≤ 100 ∧ a.asset.size ≤ 100) ∧ ∀ a ∈ legs, a.who.size ≤ 100 ∧ a.asset.size ≤ 100 := by
  unfold few11 accShort legShort
  simp only [Bool.and_eq_true, decide_eq_true_eq, List.all_eq_true]
theorem few11_no {l : List Acc} {legs : List Due} (h : ¬ (l.length ≤ 200 ∧ legs.length ≤ 210 ∧ l.all accShort = true ∧ legs.all legShort = true)) : few11 l legs = false := by
  cases h2 : few11 l legs
  · rfl
  · unfold few11 at h2
    simp only [Bool.and_eq_true, decide_eq_true_eq] at h2
    exact absurd h2 h
theorem few11_yes {l : List Acc} {legs : List Due} (h : l.length ≤ 200 ∧ legs.length ≤ 210 ∧ l.all accShort = true ∧ legs.all legShort = true) : few11 l legs = true := by
  unfold few11
  simp only [Bool.and_eq_true, decide_eq_true_eq]
  exact h
set_option maxRecDepth 10000 in
set_option maxHeartbeats 2000000 in
theorem few11_any (A : Option Addr) (n c : Nat) (l : List Acc) (B : Option Addr) (m d : Nat) (legs : List Due) (w : World) (hA : Row accT w A n l) (hB : Row legT w B m legs) :
    Calls Try.prog 30 #[.slice A n c, .slice B m d] w fun e w' => e = .returned (.bool (few11 l legs)) ∧ Bel w w' := by
  have hn63 := hA.2.1
  have hm63 := hB.2.1
  have HA := hid_ hA
  have HB := hid_ hB
  have HLA := hid_ hA.1
  have HLB := hid_ hB.1
  obtain ⟨q, hq⟩ : ∃ q, few11 l legs = q := ⟨_, rfl⟩
  rw [hq]
  have HQ := hid_ hq
  clear hq hA hB
  go_enter Try.func30, Try.ntmps30
  by_cases h1 : 200 < n
  · have HF : Hid (q = false) := hid_ (by rw [← HQ.out]; exact few11_no (fun h => by have := h.1; rw [HLA.out] at this; omega))
    go_wp2
    go_ret
    exact ⟨by rw [HF.out]; rfl, Bel.refl _⟩
  have d1 : decide (200 < n) = false := decide_eq_false h1
  by_cases h2 : 210 < m
  · have HF : Hid (q = false) := hid_ (by rw [← HQ.out]; exact few11_no (fun h => by have := h.2.1; rw [HLB.out] at this; omega))
    go_wp2
    go_ret
    exact ⟨by rw [HF.out]; rfl, Bel.refl _⟩
  have d2 : decide (210 < m) = false := decide_eq_false h2
  have HN : Hid (n ≤ 200 ∧ m ≤ 210) := hid_ (by omega)
  go_wp2_with fail
  clear d1 d2 h1 h2
  go_loop [5] (fun i => ∃ k : Nat, k ≤ n ∧ i = .int .i64 k ∧ Hid ((l.take k).all accShort = true)) (fun i => n - (intOf i).toNat)
  case atStart => exact ⟨0, Nat.zero_le _, rfl, hid_ rfl⟩
  case round =>
    obtain ⟨j, hj, rfl, hx⟩ := hrel
    by_cases hjm : j < n
    · obtain ⟨ad, who, asset, balance, held, rfl, ho, e0, e1, e2, e3⟩ := HA.out.acc hjm
      have HS := hid_ (all_take' accShort l j ho)
      have HFA := hid_ (all_false' accShort l j ho)
      have HO := hid_ ho
      clear ho
      have i0 : (0 : Int) ≤ (j : Int) := by omega
      have i1 : (j : Int) < (n : Int) := by omega
      by_cases q1 : (100 : Int) < (who.size : Int)
      · have HF : Hid (q = false) := hid_ (by rw [← HQ.out]; exact few11_no (fun h => by rw [HFA.out (by unfold accShort; rw [decide_eq_false (show ¬ who.size ≤ 100 by omega)]; rfl)] at h; simp at h))
        clear hx HS HFA HO
        go_wp2
        go_ret
        exact ⟨by rw [HF.out]; rfl, Bel.refl _⟩
      by_cases q2 : (100 : Int) < (asset.size : Int)
      · have HF : Hid (q = false) := hid_ (by rw [← HQ.out]; exact few11_no (fun h => by rw [HFA.out (by unfold accShort; rw [decide_eq_false (show ¬ asset.size ≤ 100 by omega), Bool.and_false])] at h; simp at h))
        clear hx HS HFA HO
        go_wp2
        go_ret
        exact ⟨by rw [HF.out]; rfl, Bel.refl _⟩
      · have HX : Hid ((l.take (j + 1)).all accShort = true) := hid_ (by rw [HS.out, hx.out]; unfold accShort; rw [decide_eq_true (show who.size ≤ 100 by omega), decide_eq_true (show asset.size ≤ 100 by omega)]; rfl)
        clear hx HS HFA HO
        go_wp2
        case roundEnd =>
          go_round
          case rel => exact ⟨j + 1, by omega, by go_num, HX⟩
          case measure => simp [intOf]; omega
    · obtain rfl : j = n := by omega
      have HX1 : Hid (l.all accShort = true) := hid_ (by
        have h2 := hx.out
        rw [List.take_of_length_le (by rw [HLA.out]; exact Nat.le_refl _)] at h2
        exact h2)
      clear hx hjm
      go_wp2_with fail
      go_loop [6] (fun i => ∃ k : Nat, k ≤ m ∧ i = .int .i64 k ∧ Hid ((legs.take k).all legShort = true)) (fun i => m - (intOf i).toNat)
      case atStart => exact ⟨0, Nat.zero_le _, rfl, hid_ rfl⟩
      case round =>
        obtain ⟨j, hj, rfl, hx⟩ := hrel
        by_cases hjm : j < m
        · obtain ⟨ad, who, asset, amount, rfl, ho, e0, e1, e2⟩ := HB.out.leg hjm
          have HS := hid_ (all_take' legShort legs j ho)
          have HFA := hid_ (all_false' legShort legs j ho)
          have HO := hid_ ho
          clear ho
          have i0 : (0 : Int) ≤ (j : Int) := by omega
          have i1 : (j : Int) < (m : Int) := by omega
          by_cases q1 : (100 : Int) < (who.size : Int)
          · have HF : Hid (q = false) := hid_ (by rw [← HQ.out]; exact few11_no (fun h => by rw [HFA.out (by unfold legShort; rw [decide_eq_false (show ¬ who.size ≤ 100 by omega)]; rfl)] at h; simp at h))
            clear hx HS HFA HO
            go_wp2
            go_ret
            exact ⟨by rw [HF.out]; rfl, Bel.refl _⟩
          by_cases q2 : (100 : Int) < (asset.size : Int)
          · have HF : Hid (q = false) := hid_ (by rw [← HQ.out]; exact few11_no (fun h => by rw [HFA.out (by unfold legShort; rw [decide_eq_false (show ¬ asset.size ≤ 100 by omega), Bool.and_false])] at h; simp at h))
            clear hx HS HFA HO
            go_wp2
            go_ret
            exact ⟨by rw [HF.out]; rfl, Bel.refl _⟩
          · have HX : Hid ((legs.take (j + 1)).all legShort = true) := hid_ (by rw [HS.out, hx.out]; unfold legShort; rw [decide_eq_true (show who.size ≤ 100 by omega), decide_eq_true (show asset.size ≤ 100 by omega)]; rfl)
            clear hx HS HFA HO
            go_wp2
            case roundEnd =>
              go_round
              case rel => exact ⟨j + 1, by omega, by go_num, HX⟩
              case measure => simp [intOf]; omega
        · obtain rfl : j = m := by omega
          have HX2 : Hid (legs.all legShort = true) := hid_ (by
            have h2 := hx.out
            rw [List.take_of_length_le (by rw [HLB.out]; exact Nat.le_refl _)] at h2
            exact h2)
          clear hx hjm
          have HF : Hid (q = true) := hid_ (by
            rw [← HQ.out]
            exact few11_yes ⟨by rw [HLA.out]; exact HN.out.1, by rw [HLB.out]; exact HN.out.2, HX1.out, HX2.out⟩)
          go_wp2
          go_ret
          exact ⟨by rw [HF.out]; rfl, Bel.refl _⟩
end Go.Proofs.Ytgnninpfhnpjoaa
