/- SettleTwo, walked. -/
import Derived.Test.YtnpinolhhnpniaaStL
import Derived.Deep.QuietTactic
set_option linter.unusedSimpArgs false
set_option linter.unusedVariables false
namespace Go.Proofs.Ytnpinolhhnpniaa
open Go.RowKit Go.Lib
theorem DueI.app {a b : List Due} (ha : DueI a) (hb : DueI b) (hn : a.length + b.length ≤ 9000) : DueI (a ++ b) := ⟨by rw [List.length_append]; exact hn, fun x hx => by
  rcases List.mem_append.1 hx with h | h
  · exact ha.sz x h
  · exact hb.sz x h⟩
theorem stO_len (l : List Acc) (ds : List Due) : (stO l ds).length ≤ l.length + ds.length + ds.length := by
  unfold stO
  split
  · unfold poO
    have h1 := sfO_len l ds
    have h2 : (slO ds).length ≤ ds.length := by
      unfold slO
      split
      · exact net_len ds
      · simp
    split
    · omega
    · have h3 := postO_len (sfO l ds) (slO ds)
      omega
  · simp
set_option maxRecDepth 10000 in
set_option maxHeartbeats 4000000 in
theorem walkSettleTwo (w : World) (A : Option Addr) (n c : Nat) (l : List Acc) (ha : n ≤ c ∧ Row accT w A n l ∧ ∀ x ∈ l, accWf x) (B : Option Addr) (m d : Nat) (ds1 : List Due) (hb : m ≤ d ∧ Row dueT w B m ds1 ∧ ∀ x ∈ ds1, dueWf x) (C : Option Addr) (q r : Nat) (bs : List Due) (hc : q ≤ r ∧ Row dueT w C q bs ∧ ∀ x ∈ bs, dueWf x) :
    Calls Try.prog 4 #[.slice A n c, .slice B m d, .slice C q r] w fun e w' => e = .returned (.bool true) ∧ Bel w w' := by
  obtain ⟨_, hA, hwa⟩ := ha
  obtain ⟨_, hB, hwb⟩ := hb
  obtain ⟨_, hC, hwc⟩ := hc
  have HWA := hid_ hwa
  have HWB := hid_ hwb
  have HWC := hid_ hwc
  have HLA := hid_ hA.1
  have HLB := hid_ hB.1
  have HLC := hid_ hC.1
  have hm63 := hB.2.1
  have hq63 := hC.2.1
  have FA := hid_ hA
  have FD := hid_ hB
  have FE := hid_ hC
  clear hA hB hC hwa hwb hwc
  go_enter Try.func4, Try.ntmps4
  go_wp2_with fail
  refine (awake18 _).mono ?_
  rintro e v1 ⟨rfl, b⟩
  have FB := hid_ b
  have FA := hid_ (FA.out.bel b)
  have FD := hid_ (FD.out.bel b)
  have FE := hid_ (FE.out.bel b)
  clear b
  go_wp2_with fail
  refine (few18_any A n c l B m d ds1 _ FA.out FD.out (wf_sz HWA.out)).mono ?_
  rintro e v2 ⟨rfl, b⟩
  have FB := hid_ (FB.out.trans b)
  have FA := hid_ (FA.out.bel b)
  have FD := hid_ (FD.out.bel b)
  have FE := hid_ (FE.out.bel b)
  clear b
  obtain ⟨fb, hfb⟩ : ∃ fb, few18 l ds1 = fb := ⟨_, rfl⟩
  rw [hfb]
  cases fb
  · clear hfb
    go_wp2
    go_ret
    exact ⟨rfl, FB.out⟩
  have HQ := hid_ (few18_in hfb HWA.out HWB.out)
  clear hfb
  go_wp2_with fail
  refine (few18_any A n c l C q r bs _ FA.out FE.out (wf_sz HWA.out)).mono ?_
  rintro e v3 ⟨rfl, b⟩
  have FB := hid_ (FB.out.trans b)
  have FA := hid_ (FA.out.bel b)
  have FD := hid_ (FD.out.bel b)
  have FE := hid_ (FE.out.bel b)
  clear b
  obtain ⟨fb, hfb⟩ : ∃ fb, few18 l bs = fb := ⟨_, rfl⟩
  rw [hfb]
  cases fb
  · clear hfb
    go_wp2
    go_ret
    exact ⟨rfl, FB.out⟩
  have HQ2 := hid_ (few18_in hfb HWA.out HWC.out)
  clear hfb
  by_cases g1 : 50 < m
  · go_wp2
    go_ret
    exact ⟨rfl, FB.out⟩
  have g1d : decide (50 < m) = false := decide_eq_false g1
  by_cases g2 : 50 < q
  · go_wp2
    go_ret
    exact ⟨rfl, FB.out⟩
  have g2d : decide (50 < q) = false := decide_eq_false g2
  have HS : Hid (n ≤ 100 ∧ m ≤ 50 ∧ q ≤ 50) := hid_ ⟨by rw [← HLA.out]; exact HQ.out.1, by omega, by omega⟩
  go_wp2_with fail
  refine (settle_any A n c l B m d ds1 _ FA.out HQ.out.2.1 HQ.out.2.2.1 (Nat.le_trans HS.out.1 (by omega)) FD.out HQ.out.2.2.2).mono ?_
  rintro e v4 ⟨x, u, rfl, rx, o, b⟩
  have FB := hid_ (FB.out.trans b)
  have FA := hid_ (FA.out.bel b)
  have FD := hid_ (FD.out.bel b)
  have FE := hid_ (FE.out.bel b)
  have RX := hid_ rx
  clear b rx o g1 g2 g1d g2d
  obtain ⟨e1, he1⟩ : ∃ e1, stE l ds1 = e1 := ⟨_, rfl⟩
  rw [he1]
  by_cases h1 : e1 = 0
  · subst h1
    have H1 := hid_ he1
    have HM := hid_ (settle_moved HQ.out.2.1 HQ.out.2.2.1 he1).1
    clear he1
    obtain ⟨A1, n1, c1, rfl, hc1, r1⟩ := RX.out
    have RX := hid_ r1
    have HN1 : Hid (n1 ≤ 9000) := hid_ (by
      have h := stO_len l ds1
      rw [r1.1, HLA.out, HLB.out] at h
      have h2 := HS.out
      omega)
    clear r1
    go_wp2_with fail
    refine (settle_any A1 n1 c1 (stO l ds1) C q r bs v4 RX.out HM.out.ok HM.out.bal HN1.out FE.out HQ2.out.2.2.2).mono ?_
    rintro e v5 ⟨y, u2, rfl, ry, o, b⟩
    have FB := hid_ (FB.out.trans b)
    have FA := hid_ (FA.out.bel b)
    have FD := hid_ (FD.out.bel b)
    have FE := hid_ (FE.out.bel b)
    have RY := hid_ ry
    clear b ry o RX
    obtain ⟨e2, he2⟩ : ∃ e2, stE (stO l ds1) bs = e2 := ⟨_, rfl⟩
    rw [he2]
    have HE2 := hid_ he2
    clear he2
    obtain ⟨W0, hW0⟩ : ∃ W0, v5 = W0 := ⟨_, rfl⟩
    rw [hW0] at FA FD FE FB RY ⊢
    clear hW0
    go_wp2_with (first
      | (at_builtin; refine wpApp (w0 := W0) dueS rfl _ _ rfl _ [] ds1 B m d rfl rfl (Own.litE (T := dueT) W0 W0.heap.size _ _ rfl rfl (Nat.le_refl _)) (FD.out.bel ((Bel.refl W0).alloc _)) ((Bel.refl W0).alloc _) (by have h1 := HS.out; have h2 := HLB.out; have h3 := HLC.out; simp only [List.length_nil]; omega) ?_; intro v8 x8 hO8 hb8 _ _)
      | (at_builtin; refine wpApp (w0 := W0) dueS rfl _ _ rfl _ ([] ++ ds1) bs C q r rfl rfl hO8 (FE.out.bel hb8) hb8 (by have h1 := HS.out; have h2 := HLB.out; have h3 := HLC.out; simp only [List.length_append, List.length_nil]; omega) ?_; intro v9 x9 hO9 hb9 _ _))
    have hO9 : Own dueT x9 W0.heap.size v9 (ds1 ++ bs) := by simpa using hO9
    obtain ⟨L8, k8, rfl, hk8, rl8⟩ := hO9.reads
    have hb9 : Bel W0 x9 := hb9
    have FB := hid_ (FB.out.trans hb9)
    have FA := hid_ (FA.out.bel hb9)
    have RY := hid_ (RY.out.bel hb9)
    have RL := hid_ rl8
    have HDI : Hid (DueI (ds1 ++ bs)) := hid_ (HQ.out.2.2.2.app HQ2.out.2.2.2 (by have h1 := HS.out; have h2 := HLB.out; have h3 := HLC.out; omega))
    clear hO8 hb8 hO9 hb9 hk8 rl8 FD FE
    refine (settle_any A n c l L8 _ k8 (ds1 ++ bs) x9 FA.out HQ.out.2.1 HQ.out.2.2.1 (Nat.le_trans HS.out.1 (by omega)) RL.out HDI.out).mono ?_
    rintro e v6 ⟨z, u3, rfl, rz, o, b⟩
    have FB := hid_ (FB.out.trans b)
    have RY := hid_ (RY.out.bel b)
    have RZ := hid_ rz
    clear b rz o FA RL
    obtain ⟨e3, he3⟩ : ∃ e3, stE l (ds1 ++ bs) = e3 := ⟨_, rfl⟩
    rw [he3]
    by_cases h2 : e2 = 0
    · by_cases h3 : e3 = 0
      · subst h2 h3
        have HF := hid_ (settle_two HQ.out.2.1 HQ.out.2.2.1 H1.out HE2.out he3)
        clear he3
        obtain ⟨A2, n2, c2, rfl, hc2, r2⟩ := RY.out
        obtain ⟨A3, n3, c3, rfl, hc3, r3⟩ := RZ.out
        have RY := hid_ r2
        have RZ := hid_ r3
        clear r2 r3
        go_wp2_with fail
        refine (sameAcc_any A2 n2 c2 (stO (stO l ds1) bs) A3 n3 c3 (stO l (ds1 ++ bs)) v6 RY.out RZ.out).mono ?_
        rintro e v7 ⟨rfl, b⟩
        have FB := hid_ (FB.out.trans b)
        clear b
        rw [show eqB (stO (stO l ds1) bs) (stO l (ds1 ++ bs)) = true from by rw [HF.out]; exact eqB_1 rfl]
        go_wp2
        go_ret
        exact ⟨rfl, FB.out⟩
      · have q : (e3 != 0) = true := by simp [h3]
        subst h2
        clear he3 h3
        go_wp2
        go_ret
        exact ⟨rfl, FB.out⟩
    · have q : (e2 != 0) = true := by simp [h2]
      clear he3 h2
      go_wp2
      go_ret
      exact ⟨rfl, FB.out⟩
  · have q : (e1 != 0) = true := by simp [h1]
    clear he1 h1
    go_wp2
    go_ret
    exact ⟨rfl, FB.out⟩
end Go.Proofs.Ytnpinolhhnpniaa
