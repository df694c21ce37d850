/- alloc: the document's fine; Ints; where a page is laid. -/
import Derived.Test.YtboaidjhhlidkaaAl1
set_option linter.unusedSimpArgs false
set_option linter.unusedVariables false
namespace Go.Proofs.Ytboaidjhhlidkaa
open Go.RowKit
set_option maxRecDepth 10000 in
set_option maxHeartbeats 1000000 in
theorem fineR_any (A : Option Addr) (n c : Nat) (l : List Int) (high : Int) (w : World) (h1 : Row intT w A n l) :
    Calls Try.prog 73 #[.slice A n c, .int .i64 high] w fun e w' => e = .returned (.bool (fineB high 1 l)) ∧ Bel w w' := by
  have hn := h1.2.1
  go_enter Try.func73, Try.ntmps73
  go_wp2
  go_loopw [5] (fun i wr => ∃ (k : Nat) (last : Int), k ≤ n ∧ i = .int .i64 k ∧ fineB high 1 l = fineB high last (l.drop k) ∧ ((k = 0 ∧ last = 1) ∨ ∃ j, k = j + 1 ∧ l[j]? = some last ∧ 2 ≤ last) ∧ Bel w wr) (fun i _ => n - (intOf i).toNat)
  case atStart => exact ⟨0, 1, by omega, rfl, rfl, .inl ⟨rfl, rfl⟩, Bel.refl _⟩
  case round =>
    obtain ⟨k, last, hk, rfl, hx, hl, hbr⟩ := hrel
    by_cases hkn : k < n
    · have hr := h1.bel hbr
      obtain ⟨ad, y, rfl, ho, d0⟩ := hr.int hkn
      rw [fineB_drop high last l k ho] at hx
      have HX := hid_ hx
      have HO := hid_ ho
      have HB := hid_ hbr
      have g1 : k < n := hkn
      rcases hl with ⟨hk0, rfl⟩ | ⟨j, hkj, hj, h2⟩
      · have g2 : decide (0 < k) = false := by simp; omega
        have HK := hid_ hk0
        clear hx ho hbr hr hk0
        by_cases q1 : y < 2
        · go_wp2_with fail
          go_quiet (fail)
          go_wp2
          go_ret
          exact ⟨by rw [HX.out, decide_eq_false (show ¬ (1:Int) < y by omega)]; rfl, HB.out.drewN _⟩
        · have e1 : decide (y < 2) = false := by simp; omega
          by_cases q2 : high ≤ y
          · go_wp2_with fail
            go_quiet (fail)
            go_wp2
            go_ret
            exact ⟨by rw [HX.out, decide_eq_false (show ¬ y < high by omega), Bool.false_and, Bool.and_false]; rfl, HB.out.drewN _⟩
          · have e2 : decide (high ≤ y) = false := by simp; omega
            go_wp2_with fail
            go_quiet (fail)
            go_wp2
            case roundEnd =>
              go_roundw
              case rel => exact ⟨k + 1, y, by omega, by go_num, by rw [HX.out, decide_eq_true (show (1:Int) < y by omega), decide_eq_true (show y < high by omega)]; rfl, .inr ⟨k, rfl, HO.out, by omega⟩, HB.out.drewN _⟩
              case measure => simp [intOf]; omega
      · obtain ⟨ad', y', hae, ho', d1⟩ := hr.int (show j < n by omega)
        injection hae with hae
        subst hae
        rw [hj] at ho'
        injection ho' with ho'
        subst ho'
        have hw : IntKind.i64.wrap ((k : Int) - 1) = (j : Int) := by rw [show (k : Int) - 1 = (j : Int) by omega]; exact IntWalk.i64_in _ (by omega)
        have g3 : j < n := by omega
        have g4 : 0 < k := by omega
        have HK := hid_ hkj
        clear hx ho hbr hr hj hkj
        by_cases q1 : y < 2
        · go_wp2_with fail
          go_quiet (fail)
          go_wp2
          go_ret
          exact ⟨by rw [HX.out, decide_eq_false (show ¬ last < y by omega)]; rfl, HB.out.drewN _⟩
        · have e1 : decide (y < 2) = false := by simp; omega
          by_cases q2 : high ≤ y
          · go_wp2_with fail
            go_quiet (fail)
            go_wp2
            go_ret
            exact ⟨by rw [HX.out, decide_eq_false (show ¬ y < high by omega), Bool.false_and, Bool.and_false]; rfl, HB.out.drewN _⟩
          · have e2 : decide (high ≤ y) = false := by simp; omega
            by_cases q3 : y ≤ last
            · go_wp2_with fail
              go_quiet (fail)
              go_wp2
              go_ret
              exact ⟨by rw [HX.out, decide_eq_false (show ¬ last < y by omega)]; rfl, HB.out.drewN _⟩
            · have e3 : decide (y ≤ last) = false := by simp; omega
              go_wp2_with fail
              go_quiet (fail)
              go_wp2
              case roundEnd =>
                go_roundw
                case rel => exact ⟨k + 1, y, by omega, by go_num, by rw [HX.out, decide_eq_true (show last < y by omega), decide_eq_true (show y < high by omega)]; rfl, .inr ⟨k, rfl, HO.out, by omega⟩, HB.out.drewN _⟩
                case measure => simp [intOf]; omega
    · have : k = n := by omega
      subst this
      have hfull : l.drop k = [] := by rw [← h1.1, List.drop_length]
      rw [hfull, fineB] at hx
      have HX := hid_ hx
      clear hx hl
      go_wp2
      go_ret
      exact ⟨by rw [HX.out]; rfl, hbr⟩
end Go.Proofs.Ytboaidjhhlidkaa
