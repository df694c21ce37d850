/- The document's Who. -/
import Derived.Test.YtoachnhdedpbdaaNv2
import Derived.Test.YtoachnhdedpbdaaWrl
set_option linter.unusedSimpArgs false
set_option linter.unusedVariables false
namespace Go.Proofs.Ytoachnhdedpbdaa
open Go.RowKit Go.Lib
theorem in_any (c : UInt8) (lo hi : Nat) (w : World) :
    Calls Try.prog 103 #[.int .u8 (c.toNat : Int), .int .u8 (lo : Int), .int .u8 (hi : Int)] w fun e w' => e = .returned (.bool (inB lo hi c)) ∧ w = w' := by
  obtain ⟨n, hn⟩ : ∃ n, c.toNat = n := ⟨_, rfl⟩
  have hI : inB lo hi c = (decide (lo ≤ n) && decide (n ≤ hi)) := by unfold inB; rw [hn]
  rw [hn]
  have HI := hid_ hI
  clear hI hn
  go_enter Try.func103, Try.ntmps103
  by_cases h1 : (lo : Int) ≤ (n : Int)
  · by_cases h2 : (n : Int) ≤ (hi : Int)
    · have HF : Hid (inB lo hi c = true) := hid_ (by rw [HI.out, decide_eq_true (show lo ≤ n by omega), decide_eq_true (show n ≤ hi by omega)]; rfl)
      go_wp2
      go_ret
      exact ⟨by rw [HF.out]; rfl, rfl⟩
    · have HF : Hid (inB lo hi c = false) := hid_ (by rw [HI.out, decide_eq_false (show ¬ n ≤ hi by omega), Bool.and_false])
      go_wp2
      go_ret
      exact ⟨by rw [HF.out]; rfl, rfl⟩
  · have HF : Hid (inB lo hi c = false) := hid_ (by rw [HI.out, decide_eq_false (show ¬ lo ≤ n by omega), Bool.false_and])
    go_wp2
    go_ret
    exact ⟨by rw [HF.out]; rfl, rfl⟩
theorem getB (s : ByteArray) (j : Nat) (h : j < s.size) : s.data.toList[j]? = some s[j] := by
  have : j < s.data.toList.length := by simpa using h
  rw [List.getElem?_eq_getElem this]
  rfl
set_option maxRecDepth 10000 in
set_option maxHeartbeats 1000000 in
theorem assetR_any (s : ByteArray) (w : World) (hs : s.size ≤ 4294967280) :
    Calls Try.prog 94 #[.string s] w fun e w' => e = .returned (.bool (assetB s)) ∧ w = w' := by
  have hs63 : s.size ≤ 9223372036854775807 := by omega
  clear hs
  go_enter Try.func94, Try.ntmps94
  go_wp2_with fail
  go_loop [3] (fun i => ∃ j : Nat, j ≤ s.size ∧ i = .int .i64 j ∧ Hid ((s.data.toList.take j).all (inB 65 90) = true)) (fun i => s.size - (intOf i).toNat)
  case atStart => exact ⟨0, Nat.zero_le _, rfl, rfl⟩
  case round =>
    obtain ⟨j, hj, rfl, hx⟩ := hrel
    by_cases hjn : j < s.size
    · have ho := getB s j hjn
      have hst := all_take' (inB 65 90) s.data.toList j ho
      have htr := all_false' (inB 65 90) s.data.toList j ho
      have HST := hid_ hst
      have HTR := hid_ htr
      clear hst htr ho
      go_wp2_with fail
      refine (in_any s[j] 65 90 w).mono ?_
      rintro e _ ⟨rfl, rfl⟩
      obtain ⟨b, hbb⟩ : ∃ b, inB 65 90 s[j] = b := ⟨_, rfl⟩
      rw [hbb]
      have HBB := hid_ hbb
      clear hbb
      cases b
      · have HF : Hid (assetB s = false) := hid_ (by unfold assetB; rw [HTR.out HBB.out]; rfl)
        clear HTR HST
        go_wp2
        go_ret
        exact ⟨by rw [HF.out]; rfl, rfl⟩
      · have HF : Hid ((s.data.toList.take (j + 1)).all (inB 65 90) = true) := hid_ (by rw [HST.out, hx.out, HBB.out]; rfl)
        clear HTR HST hx
        go_wp2
        case roundEnd =>
          go_round
          case rel => exact ⟨j + 1, by omega, by go_num, HF⟩
          case measure => simp [intOf]; omega
    · have hjn' : j = s.size := by omega
      subst hjn'
      have hfull : s.data.toList.take s.size = s.data.toList := by
        have : s.data.toList.length = s.size := by simp
        rw [← this, List.take_length]
      have HF : Hid (assetB s = (decide (1 ≤ s.size) && decide (s.size ≤ 6))) := hid_ (by
        have h1 := hx.out
        rw [hfull] at h1
        unfold assetB
        rw [h1]
        rfl)
      clear hx hfull
      by_cases h1 : (1 : Int) ≤ (s.size : Int)
      · by_cases h2 : (s.size : Int) ≤ 6
        · have HF2 : Hid (assetB s = true) := hid_ (by rw [HF.out, decide_eq_true (show 1 ≤ s.size by omega), decide_eq_true (show s.size ≤ 6 by omega)]; rfl)
          clear HF
          go_wp2
          go_ret
          exact ⟨by rw [HF2.out]; rfl, rfl⟩
        · have HF2 : Hid (assetB s = false) := hid_ (by rw [HF.out, decide_eq_false (show ¬ s.size ≤ 6 by omega), Bool.and_false])
          clear HF
          go_wp2
          go_ret
          exact ⟨by rw [HF2.out]; rfl, rfl⟩
      · have HF2 : Hid (assetB s = false) := hid_ (by rw [HF.out, decide_eq_false (show ¬ 1 ≤ s.size by omega), Bool.false_and])
        clear HF
        go_wp2
        go_ret
        exact ⟨by rw [HF2.out]; rfl, rfl⟩
end Go.Proofs.Ytoachnhdedpbdaa
set_option linter.unusedSimpArgs false
set_option linter.unusedVariables false
namespace Go.Proofs.Ytoachnhdedpbdaa
open Go.RowKit Go.Lib
/-- What holds of the first j bytes of a name. -/
def PreB (l : List UInt8) (j : Nat) : Prop := (l.take j).all wordB = true ∧ (0 < j → (l.take 1).all letB = true)
theorem preB_let {l : List UInt8} {j : Nat} {c : UInt8} (h : PreB l j) (hc : l[j]? = some c) (hl : inB 97 122 c = true) : PreB l (j + 1) := by
  refine ⟨?_, fun _ => ?_⟩
  · rw [all_take' wordB l j hc, h.1]
    unfold wordB
    rw [hl]
    rfl
  · rcases Nat.eq_zero_or_pos j with h0 | h0
    · subst h0
      have := all_take' letB l 0 hc
      rw [show 0 + 1 = 1 from rfl] at this
      rw [this]
      unfold letB
      rw [hl]
      rfl
    · exact h.2 h0
theorem preB_digit {l : List UInt8} {j : Nat} {c : UInt8} (h : PreB l j) (hc : l[j]? = some c) (h0 : 0 < j) (hl : inB 48 57 c = true) : PreB l (j + 1) := by
  refine ⟨?_, fun _ => h.2 h0⟩
  rw [all_take' wordB l j hc, h.1]
  unfold wordB
  rw [hl, Bool.or_true]
  rfl
theorem who_bad {s : ByteArray} {j : Nat} {c : UInt8} (hc : s.data.toList[j]? = some c) (hl : inB 97 122 c = false) (hd : j = 0 ∨ inB 48 57 c = false) : whoB s = false := by
  rcases hd with h0 | hd
  · subst h0
    have h1 := all_take' letB s.data.toList 0 hc
    rw [show 0 + 1 = 1 from rfl] at h1
    unfold whoB
    rw [h1]
    have : letB c = false := hl
    rw [this, Bool.and_false, Bool.and_false]
  · have : s.data.toList.all wordB = false := all_false' wordB s.data.toList j hc (by unfold wordB; rw [hl, hd]; rfl)
    unfold whoB
    rw [this]
    rfl
theorem who_good {s : ByteArray} (h : PreB s.data.toList s.size) (h1 : 1 ≤ s.size) (h2 : s.size ≤ 8) : whoB s = true := by
  have hfull : s.data.toList.take s.size = s.data.toList := by
    have : s.data.toList.length = s.size := by simp
    rw [← this, List.take_length]
  have h3 := h.1
  rw [hfull] at h3
  unfold whoB
  rw [h3, h.2 (by omega), decide_eq_true h1, decide_eq_true h2]
  rfl
theorem who_size {s : ByteArray} (h : ¬ (1 ≤ s.size ∧ s.size ≤ 8)) : whoB s = false := by
  unfold whoB
  by_cases h1 : 1 ≤ s.size
  · rw [decide_eq_false (show ¬ s.size ≤ 8 by omega), Bool.and_false, Bool.and_false, Bool.false_and]
  · rw [decide_eq_false h1, Bool.false_and, Bool.and_false, Bool.false_and]
set_option maxRecDepth 10000 in
set_option maxHeartbeats 1000000 in
theorem whoR_any (s : ByteArray) (w : World) (hs : s.size ≤ 4294967280) :
    Calls Try.prog 85 #[.string s] w fun e w' => e = .returned (.bool (whoB s)) ∧ w = w' := by
  have hs63 : s.size ≤ 9223372036854775807 := by omega
  clear hs
  go_enter Try.func85, Try.ntmps85
  by_cases h1 : (s.size : Int) < 1
  · have HF : Hid (whoB s = false) := hid_ (who_size (by omega))
    go_wp2
    go_ret
    exact ⟨by rw [HF.out]; rfl, rfl⟩
  by_cases h2 : (8 : Int) < (s.size : Int)
  · have HF : Hid (whoB s = false) := hid_ (who_size (by omega))
    go_wp2
    go_ret
    exact ⟨by rw [HF.out]; rfl, rfl⟩
  have H1 : Hid (1 ≤ s.size ∧ s.size ≤ 8) := hid_ ⟨by omega, by omega⟩
  go_wp2_with fail
  go_loop [3] (fun i => ∃ j : Nat, j ≤ s.size ∧ i = .int .i64 j ∧ Hid (PreB s.data.toList j)) (fun i => s.size - (intOf i).toNat)
  case atStart => exact ⟨0, Nat.zero_le _, rfl, hid_ ⟨rfl, fun h => absurd h (by omega)⟩⟩
  case round =>
    clear h1 h2
    obtain ⟨j, hj, rfl, hx⟩ := hrel
    by_cases hjn : j < s.size
    · have HO := hid_ (getB s j hjn)
      go_wp2_with fail
      refine (in_any s[j] 97 122 w).mono ?_
      rintro e _ ⟨rfl, rfl⟩
      obtain ⟨b1, hb1⟩ : ∃ b, inB 97 122 s[j] = b := ⟨_, rfl⟩
      rw [hb1]
      have HB1 := hid_ hb1
      clear hb1
      go_wp2_with fail
      refine (in_any s[j] 48 57 w).mono ?_
      rintro e _ ⟨rfl, rfl⟩
      obtain ⟨b2, hb2⟩ : ∃ b, inB 48 57 s[j] = b := ⟨_, rfl⟩
      rw [hb2]
      have HB2 := hid_ hb2
      clear hb2
      cases b1
      · by_cases h0 : j = 0
        · have HF : Hid (whoB s = false) := hid_ (who_bad HO.out HB1.out (.inl h0))
          clear HB1 HB2 HO hx
          subst h0
          cases b2
          all_goals go_wp2
          all_goals go_ret
          all_goals exact ⟨by rw [HF.out]; rfl, rfl⟩
        · have e0 : ((j : Int) == 0) = false := by simp; omega
          cases b2
          · have HF : Hid (whoB s = false) := hid_ (who_bad HO.out HB1.out (.inr HB2.out))
            clear HB1 HB2 HO hx
            go_wp2
            go_ret
            exact ⟨by rw [HF.out]; rfl, rfl⟩
          · have HF : Hid (PreB s.data.toList (j + 1)) := hid_ (preB_digit hx.out HO.out (by omega) HB2.out)
            clear HB1 HB2 HO hx
            go_wp2
            case roundEnd =>
              go_round
              case rel => exact ⟨j + 1, by omega, by go_num, HF⟩
              case measure => simp [intOf]; omega
      · have HF : Hid (PreB s.data.toList (j + 1)) := hid_ (preB_let hx.out HO.out HB1.out)
        clear HB1 HB2 HO hx
        cases b2
        all_goals go_wp2
        all_goals (
          go_round
          case rel => exact ⟨j + 1, by omega, by go_num, HF⟩
          case measure => simp [intOf]; omega)
    · have hjn' : j = s.size := by omega
      subst hjn'
      have HF : Hid (whoB s = true) := hid_ (who_good hx.out H1.out.1 H1.out.2)
      clear hx
      go_wp2
      go_ret
      exact ⟨by rw [HF.out]; rfl, rfl⟩
end Go.Proofs.Ytoachnhdedpbdaa
