/- cambistlaw15.few: at most 200 orders, of short texts. -/
import Derived.Test.YtoachnhdedpbdaaFewO
set_option linter.unusedSimpArgs false
set_option linter.unusedVariables false
namespace Go.Proofs.Ytoachnhdedpbdaa
open Go.RowKit Go.Lib
set_option maxRecDepth 10000 in
set_option maxHeartbeats 1000000 in
theorem few15_any (A : Option Addr) (n c : Nat) (l : List Ord) (w : World) (h1 : Row ordT w A n l) :
    Calls Try.prog 7 #[.slice A n c] w fun e w' => e = .returned (.bool (fewO 200 l)) ∧ Bel w w' := by
  have hn := h1.2.1
  have HL := hid_ h1.1
  obtain ⟨q, hq⟩ : ∃ q, fewO 200 l = q := ⟨_, rfl⟩
  rw [hq]
  have HQ := hid_ hq
  clear hq
  go_enter Try.func7, Try.ntmps7
  by_cases hbig : 200 < n
  · have HF : Hid (q = false) := hid_ (by rw [← HQ.out]; unfold fewO; rw [HL.out, decide_eq_false (show ¬ n ≤ 200 by omega)]; rfl)
    go_wp2
    go_ret
    exact ⟨by rw [HF.out]; rfl, Bel.refl _⟩
  · go_wp2_with fail
    go_loop [3] (fun i => ∃ k : Nat, k ≤ n ∧ i = .int .i64 k ∧ Hid ((l.take k).all ordShort = true)) (fun i => n - (intOf i).toNat)
    case atStart => exact ⟨0, Nat.zero_le _, rfl, hid_ rfl⟩
    case round =>
      obtain ⟨k, hk, rfl, hx⟩ := hrel
      by_cases hkn : k < n
      · obtain ⟨ad, number, who, market, buy, price, left, rfl, ho, d0, d1, d2, d3, d4, d5⟩ := h1.ord hkn
        have HS := hid_ (all_take' ordShort l k ho)
        have HFA := hid_ (all_false' ordShort l k ho)
        have HO := hid_ ho
        clear ho
        have i0 : (0 : Int) ≤ (k : Int) := by omega
        have i1 : (k : Int) < (n : Int) := by omega
        by_cases q1 : (100 : Int) < (who.size : Int)
        · have HF : Hid (q = false) := hid_ (by rw [← HQ.out]; unfold fewO; rw [HFA.out (by unfold ordShort; rw [decide_eq_false (show ¬ who.size ≤ 100 by omega)]; rfl), Bool.and_false])
          clear hx HS HFA HO
          go_wp2
          go_ret
          exact ⟨by rw [HF.out]; rfl, Bel.refl _⟩
        by_cases q2 : (100 : Int) < (market.size : Int)
        · have HF : Hid (q = false) := hid_ (by rw [← HQ.out]; unfold fewO; rw [HFA.out (by unfold ordShort; rw [decide_eq_false (show ¬ market.size ≤ 100 by omega), Bool.and_false]), Bool.and_false])
          clear hx HS HFA HO
          go_wp2
          go_ret
          exact ⟨by rw [HF.out]; rfl, Bel.refl _⟩
        · have HX : Hid ((l.take (k + 1)).all ordShort = true) := hid_ (by rw [HS.out, hx.out]; unfold ordShort; rw [decide_eq_true (show who.size ≤ 100 by omega), decide_eq_true (show market.size ≤ 100 by omega)]; rfl)
          clear hx HS HFA HO
          go_wp2
          case roundEnd =>
            go_round
            case rel => exact ⟨k + 1, by omega, by go_num, HX⟩
            case measure => simp [intOf]; omega
      · obtain rfl : k = n := by omega
        have HF : Hid (q = true) := hid_ (by
          rw [← HQ.out]
          unfold fewO
          have h2 := hx.out
          rw [List.take_of_length_le (by rw [HL.out]; omega)] at h2
          rw [h2, HL.out, decide_eq_true (show k ≤ 200 by omega)]
          rfl)
        clear hx
        go_wp2
        go_ret
        exact ⟨by rw [HF.out]; rfl, Bel.refl _⟩
end Go.Proofs.Ytoachnhdedpbdaa
