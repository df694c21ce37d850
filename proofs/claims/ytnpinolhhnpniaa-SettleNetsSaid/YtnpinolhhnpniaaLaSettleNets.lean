/- SettleNets, walked. -/
import Derived.Test.YtnpinolhhnpniaaStL
set_option linter.unusedSimpArgs false
set_option linter.unusedVariables false
namespace Go.Proofs.Ytnpinolhhnpniaa
open Go.RowKit Go.Lib
set_option maxRecDepth 10000 in
set_option maxHeartbeats 4000000 in
theorem walkSettleNets (w : World) (A : Option Addr) (n c : Nat) (l : List Acc) (ha : n ≤ c ∧ Row accT w A n l ∧ ∀ x ∈ l, accWf x) (B : Option Addr) (m d : Nat) (ds : List Due) (hb : m ≤ d ∧ Row dueT w B m ds ∧ ∀ x ∈ ds, dueWf x) :
    Calls Try.prog 3 #[.slice A n c, .slice B m d] w fun e w' => e = .returned (.bool true) ∧ Bel w w' := by
  obtain ⟨_, hA, hwa⟩ := ha
  obtain ⟨_, hB, hwb⟩ := hb
  have HWA := hid_ hwa
  have HWB := hid_ hwb
  have HLA := hid_ hA.1
  have FA := hid_ hA
  have FD := hid_ hB
  clear hA hB hwa hwb
  go_enter Try.func3, Try.ntmps3
  go_wp2_with fail
  refine (awake18 _).mono ?_
  rintro e v1 ⟨rfl, b⟩
  have FB := hid_ b
  have FA := hid_ (FA.out.bel b)
  have FD := hid_ (FD.out.bel b)
  clear b
  go_wp2_with fail
  refine (few18_any A n c l B m d ds _ FA.out FD.out (wf_sz HWA.out)).mono ?_
  rintro e v2 ⟨rfl, b⟩
  have FB := hid_ (FB.out.trans b)
  have FA := hid_ (FA.out.bel b)
  have FD := hid_ (FD.out.bel b)
  clear b
  obtain ⟨fb, hfb⟩ : ∃ fb, few18 l ds = fb := ⟨_, rfl⟩
  rw [hfb]
  cases fb
  · clear hfb
    go_wp2
    go_ret
    exact ⟨rfl, FB.out⟩
  have HQ := hid_ (few18_in hfb HWA.out HWB.out)
  have HN : Hid (n ≤ 9000) := hid_ (by rw [← HLA.out]; have := HQ.out.1; omega)
  clear hfb
  go_wp2_with fail
  refine (settle_any A n c l B m d ds _ FA.out HQ.out.2.1 HQ.out.2.2.1 HN.out FD.out HQ.out.2.2.2).mono ?_
  rintro e v3 ⟨x, u, rfl, r, o, b⟩
  have FB := hid_ (FB.out.trans b)
  have FA := hid_ (FA.out.bel b)
  have FD := hid_ (FD.out.bel b)
  have RX := hid_ r
  clear b r o
  go_wp2_with fail
  refine (sgross_any A n c l B m d ds _ FA.out HQ.out.2.1 HQ.out.2.2.1 HN.out FD.out HQ.out.2.2.2).mono ?_
  rintro e v4 ⟨y, rfl, r, b⟩
  have FB := hid_ (FB.out.trans b)
  have RX := hid_ (RX.out.bel b)
  have RY := hid_ r
  clear b r
  obtain ⟨e1, he1⟩ : ∃ e1, stE l ds = e1 := ⟨_, rfl⟩
  rw [he1]
  by_cases h1 : e1 = 0
  · obtain ⟨e2, he2⟩ : ∃ e2, sgE l ds = e2 := ⟨_, rfl⟩
    rw [he2]
    by_cases h2 : e2 = 0
    · subst h1 h2
      have HS := hid_ (settle_nets HQ.out.2.1 HQ.out.2.2.1 he1 he2)
      clear he1 he2
      obtain ⟨A1, n1, c1, rfl, hc1, r1⟩ := RX.out
      obtain ⟨A2, n2, c2, rfl, hc2, r2⟩ := RY.out
      have RX := hid_ r1
      have RY := hid_ r2
      clear r1 r2
      go_wp2_with fail
      refine (sameAcc_any A1 n1 c1 (stO l ds) A2 n2 c2 (sgO l ds) v4 RX.out RY.out).mono ?_
      rintro e v5 ⟨rfl, b⟩
      have FB := hid_ (FB.out.trans b)
      have RX := hid_ (RX.out.bel b)
      clear b
      rw [show eqB (stO l ds) (sgO l ds) = true from by rw [HS.out.1]; exact eqB_1 rfl]
      go_wp2_with fail
      refine (checkA_any A1 n1 c1 (stO l ds) v5 RX.out (ok_size HS.out.2)).mono ?_
      rintro e v6 ⟨rfl, b⟩
      have FB := hid_ (FB.out.trans b)
      clear b
      rw [chk_ok HS.out.2]
      go_wp2
      go_ret
      exact ⟨rfl, FB.out⟩
    · have q : (e2 != 0) = true := by simp [h2]
      subst h1
      clear he1 he2 h2
      go_wp2
      go_ret
      exact ⟨rfl, FB.out⟩
  · have q : (e1 != 0) = true := by simp [h1]
    clear he1 h1
    go_wp2
    go_ret
    exact ⟨rfl, FB.out⟩
end Go.Proofs.Ytnpinolhhnpniaa
