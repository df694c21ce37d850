/- page.place, Check's closure, rise: the walks. -/
import Derived.Test.YtcfabnkkkpcelaaPgTy
set_option linter.unusedSimpArgs false
set_option linter.unusedVariables false
namespace Go.Proofs.Ytcfabnkkkpcelaa
open Go.RowKit
theorem place_any (x : Int) (w : World) : Calls Try.prog 19 #[.int .i64 x] w fun e w' => e = .returned (.bool (placeB x)) ∧ w = w' := by
  unfold placeB
  go_enter Try.func19, Try.ntmps19
  by_cases h1 : 2 ≤ x
  · by_cases h2 : x < 4096
    · go_wp2
      go_ret
      exact ⟨by simp [h1, h2], rfl⟩
    · go_wp2
      go_ret
      exact ⟨by simp [h1, h2], rfl⟩
  · go_wp2
    go_ret
    exact ⟨by rw [decide_eq_false (show ¬ 2 ≤ x by omega)]; rfl, rfl⟩
theorem bad_any (x : Int) (w : World) : Calls Try.prog 31 #[.int .i64 x] w fun e w' => e = .returned (.bool (!placeB x)) ∧ w = w' := by
  go_enter Try.func31, Try.ntmps31
  go_wp2_with (go_at_call 19; refine (place_any x _).mono ?_; rintro e w1 ⟨rfl, rfl⟩)
  go_ret
  exact ⟨rfl, rfl⟩
set_option maxRecDepth 10000 in
set_option maxHeartbeats 1000000 in
theorem rise_any (A : Option Addr) (n c : Nat) (l : List ByteArray) (w : World) (h1 : Row strT w A n l) :
    Calls Try.prog 33 #[.slice A n c] w fun e w' => e = .returned (.bool (riseB l)) ∧ w = w' := by
  have hn := h1.2.1
  have hln := h1.1
  go_enter Try.func33, Try.ntmps33
  go_wp2
  go_loop [3, 4, 7] (fun _ _ i => ∃ k : Nat, k ≤ n ∧ i = .int .i64 k ∧ ∀ j, j < k → riseAt l j = true) (fun _ _ i => n - (intOf i).toNat)
  case atStart => exact ⟨0, by omega, rfl, fun j hj => absurd hj (by omega)⟩
  case round =>
    obtain ⟨k, hk, rfl, hx⟩ := hrel
    by_cases hkn : k < n
    · obtain ⟨ad, y, rfl, ho, d0⟩ := h1.str hkn
      have hy : l.getD k .empty = y := by rw [List.getD_eq_getElem?_getD, ho]; rfl
      have HX := hid_ hx
      have no : riseAt l k = false → riseB l = false := fun e => all_range_no (by omega) e
      have yes : riseAt l k = true → ∀ j, j < k + 1 → riseAt l j = true := fun e j hj => by
        rcases Nat.lt_or_ge j k with h | h
        · exact HX.out j h
        · have : j = k := by omega
          rw [this]; exact e
      have hat : riseAt l k = (keyB y && (decide (k = 0) || lessB (l.getD (k - 1) .empty) y)) := by rw [riseAt, hy]
      have NO := hid_ no
      have YES := hid_ yes
      have HAT := hid_ hat
      clear hx ho hy no yes hat
      by_cases q1 : y.size < 1
      · go_wp2
        go_ret
        exact ⟨by rw [NO.out (by rw [HAT.out, keyB, decide_eq_false (show ¬ 1 ≤ y.size by omega)]; rfl)]; rfl, rfl⟩
      · by_cases q2 : 48 < y.size
        · go_wp2
          go_ret
          exact ⟨by rw [NO.out (by rw [HAT.out, keyB, decide_eq_false (show ¬ y.size ≤ 48 by omega), Bool.and_false]; rfl)]; rfl, rfl⟩
        · have hkey : keyB y = true := by rw [keyB, decide_eq_true (show 1 ≤ y.size by omega), decide_eq_true (show y.size ≤ 48 by omega)]; rfl
          have HKEY := hid_ hkey
          clear hkey
          rcases Nat.eq_zero_or_pos k with q3 | q3
          · have q3' : ¬ 0 < k := by omega
            have EK := hid_ q3
            clear q3
            go_wp2
            case roundEnd =>
              go_round
              case rel => exact ⟨k + 1, by omega, by go_num, YES.out (by rw [HAT.out, HKEY.out, EK.out]; rfl)⟩
              case measure => simp [intOf]; omega
          · obtain ⟨ad', z, e, ho', d1⟩ := h1.str (show k - 1 < n by omega)
            injection e with e
            subst e
            have hz : l.getD (k - 1) .empty = z := by rw [List.getD_eq_getElem?_getD, ho']; rfl
            have hat2 : riseAt l k = lessB z y := by rw [HAT.out, HKEY.out, hz, decide_eq_false (show ¬ k = 0 by omega)]; rfl
            have HAT2 := hid_ hat2
            clear hat2 hz ho'
            cases q5 : Op.bytesLess y.toList z.toList with
            | true =>
              have q4 : lessB z y = false := by rw [lessB, q5]; rfl
              go_wp2
              go_ret
              exact ⟨by rw [NO.out (by rw [HAT2.out, q4])]; rfl, rfl⟩
            | false =>
              cases q6 : (y.toList == z.toList) with
              | true =>
                have q4 : lessB z y = false := by rw [lessB, q5, q6]; rfl
                go_wp2
                go_ret
                exact ⟨by rw [NO.out (by rw [HAT2.out, q4])]; rfl, rfl⟩
              | false =>
                have q4 : lessB z y = true := by rw [lessB, q5, q6]; rfl
                go_wp2
                case roundEnd =>
                  go_round
                  case rel => exact ⟨k + 1, by omega, by go_num, YES.out (by rw [HAT2.out, q4])⟩
                  case measure => simp [intOf]; omega
    · have : k = n := by omega
      subst this
      have HX := hid_ hx
      clear hx
      go_wp2
      go_ret
      exact ⟨by rw [riseB, hln, all_range HX.out]; rfl, rfl⟩
end Go.Proofs.Ytcfabnkkkpcelaa
