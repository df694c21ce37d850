/- few of layer 16's statements. -/
import Derived.Test.YtlddpkbdmbafbaaAc8
import Derived.Test.YtlddpkbdmbafbaaFewO
set_option linter.unusedSimpArgs false
set_option linter.unusedVariables false
namespace Go.Proofs.Ytlddpkbdmbafbaa
open Go.RowKit Go.Lib
def few16 (l : List Acc) (os : List Ord) (k : Nat) : Bool := decide (l.length ≤ 100) && (decide (os.length ≤ 100) && (decide (k ≤ 100) && (okL l && os.all ordShort)))
theorem few16_iff {l : List Acc} {os : List Ord} {k : Nat} : few16 l os k = true ↔ l.length ≤ 100 ∧ os.length ≤ 100 ∧ k ≤ 100 ∧ OkL l ∧ ∀ o ∈ os, o.who.size ≤ 100 ∧ o.market.size ≤ 100 := by
  unfold few16 ordShort
  simp only [Bool.and_eq_true, decide_eq_true_eq, List.all_eq_true, okL_iff]
theorem few16_no {l : List Acc} {os : List Ord} {k : Nat} (h : ¬ (l.length ≤ 100 ∧ os.length ≤ 100 ∧ k ≤ 100 ∧ okL l = true ∧ os.all ordShort = true)) : few16 l os k = false := by
  cases h2 : few16 l os k
  · rfl
  · unfold few16 at h2
    simp only [Bool.and_eq_true, decide_eq_true_eq] at h2
    exact absurd h2 h
theorem few16_yes {l : List Acc} {os : List Ord} {k : Nat} (h : l.length ≤ 100 ∧ os.length ≤ 100 ∧ k ≤ 100 ∧ okL l = true ∧ os.all ordShort = true) : few16 l os k = true := by
  unfold few16
  simp only [Bool.and_eq_true, decide_eq_true_eq]
  exact h
set_option maxRecDepth 10000 in
set_option maxHeartbeats 2000000 in
theorem few16_any (A : Option Addr) (n c : Nat) (l : List Acc) (B : Option Addr) (m d : Nat) (os : List Ord) (C : Option Addr) (k e : Nat) (w : World) (hA : Row accT w A n l) (hB : Row ordT w B m os) (hz : ∀ a ∈ l, a.who.size ≤ 9223372036854775807 ∧ a.asset.size ≤ 9223372036854775807) (hk : k ≤ 9223372036854775807) :
    Calls Try.prog 24 #[.slice A n c, .slice B m d, .slice C k e] w fun e w' => e = .returned (.bool (few16 l os k)) ∧ Bel w w' := by
  have hn63 := hA.2.1
  have hm63 := hB.2.1
  have HA := hid_ hA
  have HB := hid_ hB
  have HZ := hid_ hz
  have HLA := hid_ hA.1
  have HLB := hid_ hB.1
  obtain ⟨q, hq⟩ : ∃ q, few16 l os k = q := ⟨_, rfl⟩
  rw [hq]
  have HQ := hid_ hq
  clear hq hA hB hz
  go_enter Try.func24, Try.ntmps24
  by_cases h1 : 100 < n
  · have HF : Hid (q = false) := hid_ (by rw [← HQ.out]; exact few16_no (fun h => by have := h.1; rw [HLA.out] at this; omega))
    go_wp2
    go_ret
    exact ⟨by rw [HF.out]; rfl, Bel.refl _⟩
  have d1 : decide (100 < n) = false := decide_eq_false h1
  by_cases h2 : 100 < m
  · have HF : Hid (q = false) := hid_ (by rw [← HQ.out]; exact few16_no (fun h => by have := h.2.1; rw [HLB.out] at this; omega))
    go_wp2
    go_ret
    exact ⟨by rw [HF.out]; rfl, Bel.refl _⟩
  have d2 : decide (100 < m) = false := decide_eq_false h2
  by_cases h3 : 100 < k
  · have HF : Hid (q = false) := hid_ (by rw [← HQ.out]; exact few16_no (fun h => by have := h.2.2.1; omega))
    go_wp2
    go_ret
    exact ⟨by rw [HF.out]; rfl, Bel.refl _⟩
  have d3 : decide (100 < k) = false := decide_eq_false h3
  have HN : Hid (n ≤ 100 ∧ m ≤ 100 ∧ k ≤ 100) := hid_ (by omega)
  go_wp2_with fail
  refine (checkA_any A n c l w HA.out HZ.out).mono ?_
  rintro e w1 ⟨rfl, b1⟩
  have B1 := hid_ b1
  have HB1 := hid_ (HB.out.bel b1)
  clear b1 HB HA HZ d1 d2 d3 h1 h2 h3
  obtain ⟨ok, hok⟩ : ∃ ok, okL l = ok := ⟨_, rfl⟩
  cases ok
  · have HF : Hid (q = false) := hid_ (by rw [← HQ.out]; exact few16_no (fun h => by rw [hok] at h; simp at h))
    rw [show chkAE l = 110 by unfold chkAE; rw [hok]; rfl]
    clear hok
    go_wp2
    go_ret
    exact ⟨by rw [HF.out]; rfl, B1.out⟩
  rw [show chkAE l = 0 by unfold chkAE; rw [hok]; rfl]
  have HOK := hid_ hok
  clear hok
  go_wp2_with fail
  go_loop [7] (fun i => ∃ k : Nat, k ≤ m ∧ i = .int .i64 k ∧ Hid ((os.take k).all ordShort = true)) (fun i => m - (intOf i).toNat)
  case atStart => exact ⟨0, Nat.zero_le _, rfl, hid_ rfl⟩
  case round =>
    obtain ⟨j, hj, rfl, hx⟩ := hrel
    by_cases hjm : j < m
    · obtain ⟨ad, number, who, market, buy, price, left, rfl, ho, e0, e1, e2, e3, e4, e5⟩ := HB1.out.ord hjm
      have HS := hid_ (all_take' ordShort os j ho)
      have HFA := hid_ (all_false' ordShort os j ho)
      have HO := hid_ ho
      clear ho
      have i0 : (0 : Int) ≤ (j : Int) := by omega
      have i1 : (j : Int) < (m : Int) := by omega
      by_cases q1 : (100 : Int) < (who.size : Int)
      · have HF : Hid (q = false) := hid_ (by rw [← HQ.out]; exact few16_no (fun h => by rw [HFA.out (by unfold ordShort; rw [decide_eq_false (show ¬ who.size ≤ 100 by omega)]; rfl)] at h; simp at h))
        clear hx HS HFA HO
        go_wp2
        go_ret
        exact ⟨by rw [HF.out]; rfl, B1.out⟩
      by_cases q2 : (100 : Int) < (market.size : Int)
      · have HF : Hid (q = false) := hid_ (by rw [← HQ.out]; exact few16_no (fun h => by rw [HFA.out (by unfold ordShort; rw [decide_eq_false (show ¬ market.size ≤ 100 by omega), Bool.and_false])] at h; simp at h))
        clear hx HS HFA HO
        go_wp2
        go_ret
        exact ⟨by rw [HF.out]; rfl, B1.out⟩
      · have HX : Hid ((os.take (j + 1)).all ordShort = true) := hid_ (by rw [HS.out, hx.out]; unfold ordShort; rw [decide_eq_true (show who.size ≤ 100 by omega), decide_eq_true (show market.size ≤ 100 by omega)]; rfl)
        clear hx HS HFA HO
        go_wp2
        case roundEnd =>
          go_round
          case rel => exact ⟨j + 1, by omega, by go_num, HX⟩
          case measure => simp [intOf]; omega
    · obtain rfl : j = m := by omega
      have HF : Hid (q = true) := hid_ (by
        rw [← HQ.out]
        have h2 := hx.out
        rw [List.take_of_length_le (by rw [HLB.out]; omega)] at h2
        exact few16_yes ⟨by rw [HLA.out]; exact HN.out.1, by rw [HLB.out]; exact HN.out.2.1, HN.out.2.2, HOK.out, h2⟩)
      clear hx
      go_wp2
      go_ret
      exact ⟨by rw [HF.out]; rfl, B1.out⟩
end Go.Proofs.Ytlddpkbdmbafbaa
