/- The document's names. -/
import Derived.Test.YtnpinolhhnpniaaGreatNv2
import Derived.Test.YtnpinolhhnpniaaGreatWrl
set_option linter.unusedSimpArgs false
set_option linter.unusedVariables false
namespace Go.Proofs.YtnpinolhhnpniaaGreat
open Go.RowKit Go.Lib
theorem in_any (c : UInt8) (lo hi : Nat) (w : World) :
    Calls Tryz.prog 73 #[.int .u8 (c.toNat : Int), .int .u8 (lo : Int), .int .u8 (hi : Int)] w fun e w' => e = .returned (.bool (inB lo hi c)) ∧ w = w' := by
  obtain ⟨n, hn⟩ : ∃ n, c.toNat = n := ⟨_, rfl⟩
  have hI : inB lo hi c = (decide (lo ≤ n) && decide (n ≤ hi)) := by unfold inB; rw [hn]
  rw [hn]
  have HI := hid_ hI
  clear hI hn
  go_enter Tryz.func73, Tryz.ntmps73
  by_cases h1 : (lo : Int) ≤ (n : Int)
  · by_cases h2 : (n : Int) ≤ (hi : Int)
    · have HF : Hid (inB lo hi c = true) := hid_ (by rw [HI.out, decide_eq_true (show lo ≤ n by omega), decide_eq_true (show n ≤ hi by omega)]; rfl)
      go_wp2
      go_ret
      exact ⟨by rw [HF.out]; rfl, rfl⟩
    · have HF : Hid (inB lo hi c = false) := hid_ (by rw [HI.out, decide_eq_false (show ¬ n ≤ hi by omega), Bool.and_false])
      go_wp2
      go_ret
      exact ⟨by rw [HF.out]; rfl, rfl⟩
  · have HF : Hid (inB lo hi c = false) := hid_ (by rw [HI.out, decide_eq_false (show ¬ lo ≤ n by omega), Bool.false_and])
    go_wp2
    go_ret
    exact ⟨by rw [HF.out]; rfl, rfl⟩
theorem getB (s : ByteArray) (j : Nat) (h : j < s.size) : s.data.toList[j]? = some s[j] := by
  have : j < s.data.toList.length := by simpa using h
  rw [List.getElem?_eq_getElem this]
  rfl
set_option maxRecDepth 10000 in
set_option maxHeartbeats 1000000 in
theorem assetR_any (s : ByteArray) (w : World) (hs : s.size ≤ 4294967280) :
    Calls Tryz.prog 59 #[.string s] w fun e w' => e = .returned (.bool (assetB s)) ∧ w = w' := by
  have hs63 : s.size ≤ 9223372036854775807 := by omega
  clear hs
  go_enter Tryz.func59, Tryz.ntmps59
  go_wp2_with fail
  go_loop [3] (fun i => ∃ j : Nat, j ≤ s.size ∧ i = .int .i64 j ∧ Hid ((s.data.toList.take j).all (inB 65 90) = true)) (fun i => s.size - (intOf i).toNat)
  case atStart => exact ⟨0, Nat.zero_le _, rfl, rfl⟩
  case round =>
    obtain ⟨j, hj, rfl, hx⟩ := hrel
    by_cases hjn : j < s.size
    · have ho := getB s j hjn
      have hst := all_take' (inB 65 90) s.data.toList j ho
      have htr := all_false' (inB 65 90) s.data.toList j ho
      have HST := hid_ hst
      have HTR := hid_ htr
      clear hst htr ho
      go_wp2_with fail
      refine (in_any s[j] 65 90 w).mono ?_
      rintro e _ ⟨rfl, rfl⟩
      obtain ⟨b, hbb⟩ : ∃ b, inB 65 90 s[j] = b := ⟨_, rfl⟩
      rw [hbb]
      have HBB := hid_ hbb
      clear hbb
      cases b
      · have HF : Hid (assetB s = false) := hid_ (by unfold assetB; rw [HTR.out HBB.out]; rfl)
        clear HTR HST
        go_wp2
        go_ret
        exact ⟨by rw [HF.out]; rfl, rfl⟩
      · have HF : Hid ((s.data.toList.take (j + 1)).all (inB 65 90) = true) := hid_ (by rw [HST.out, hx.out, HBB.out]; rfl)
        clear HTR HST hx
        go_wp2
        case roundEnd =>
          go_round
          case rel => exact ⟨j + 1, by omega, by go_num, HF⟩
          case measure => simp [intOf]; omega
    · have hjn' : j = s.size := by omega
      subst hjn'
      have hfull : s.data.toList.take s.size = s.data.toList := by
        have : s.data.toList.length = s.size := by simp
        rw [← this, List.take_length]
      have HF : Hid (assetB s = (decide (1 ≤ s.size) && decide (s.size ≤ 6))) := hid_ (by
        have h1 := hx.out
        rw [hfull] at h1
        unfold assetB
        rw [h1]
        rfl)
      clear hx hfull
      by_cases h1 : (1 : Int) ≤ (s.size : Int)
      · by_cases h2 : (s.size : Int) ≤ 6
        · have HF2 : Hid (assetB s = true) := hid_ (by rw [HF.out, decide_eq_true (show 1 ≤ s.size by omega), decide_eq_true (show s.size ≤ 6 by omega)]; rfl)
          clear HF
          go_wp2
          go_ret
          exact ⟨by rw [HF2.out]; rfl, rfl⟩
        · have HF2 : Hid (assetB s = false) := hid_ (by rw [HF.out, decide_eq_false (show ¬ s.size ≤ 6 by omega), Bool.and_false])
          clear HF
          go_wp2
          go_ret
          exact ⟨by rw [HF2.out]; rfl, rfl⟩
      · have HF2 : Hid (assetB s = false) := hid_ (by rw [HF.out, decide_eq_false (show ¬ 1 ≤ s.size by omega), Bool.false_and])
        clear HF
        go_wp2
        go_ret
        exact ⟨by rw [HF2.out]; rfl, rfl⟩
end Go.Proofs.YtnpinolhhnpniaaGreat
