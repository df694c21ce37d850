/- AccountBack, walked. -/
import Derived.Test.YtgnninpfhnpjoaaAw11
import Derived.Test.YtgnninpfhnpjoaaAcB
import Derived.Test.YtgnninpfhnpjoaaFew11
import Derived.Test.YtgnninpfhnpjoaaSameAcc
import Derived.Test.YtgnninpfhnpjoaaOpAcc
import Derived.Test.YtgnninpfhnpjoaaOpLeg
set_option linter.unusedSimpArgs false
set_option linter.unusedVariables false
namespace Go.Proofs.Ytgnninpfhnpjoaa
open Go.RowKit Go.Lib
theorem backL_step {legs : List Due} {k : Nat} {o : Due} (h : legs[k]? = some o) : backL (legs.take k) ++ [negD o] = backL (legs.take (k + 1)) := by
  unfold backL
  rw [List.take_add_one, h]
  simp
theorem i64w_wf {x : Int} (h : (Lit.int .i64 x).wf = true) : i64w x := by
  simp [Lit.wf, IntKind.min, IntKind.max, IntKind.signed, IntKind.bits] at h
  exact h
set_option maxRecDepth 10000 in
set_option maxHeartbeats 4000000 in
theorem walkAccountBack (w : World) (A : Option Addr) (n c : Nat) (l : List Acc) (ha : n ≤ c ∧ Row accT w A n l ∧ ∀ x ∈ l, accWf x) (B : Option Addr) (m d : Nat) (legs : List Due) (hb : m ≤ d ∧ Row legT w B m legs ∧ ∀ x ∈ legs, legWf x) : Calls Try.prog 14 #[.slice A n c, .slice B m d] w fun e w' => e = .returned (.bool true) ∧ Bel w w' := by
  obtain ⟨hnc, hA, hwa⟩ := ha
  obtain ⟨hmd, hB, hwb⟩ := hb
  have hm63 := hB.2.1
  have HNC := hid_ hnc
  have HWA := hid_ hwa
  have HWB := hid_ hwb
  have HLA := hid_ hA.1
  have HLB := hid_ hB.1
  have FA := hid_ hA
  have FL := hid_ hB
  have FB := hid_ (Bel.refl w)
  clear hA hB hwa hwb hnc hmd
  go_enter Try.func14, Try.ntmps14
  go_wp2_with fail
  refine (awake11 _).mono ?_
  rintro e v1 ⟨rfl, b⟩
  have bb := b
  have f1A := hid_ (FA.out.bel bb)
  have f1L := hid_ (FL.out.bel bb)
  have f1B := hid_ (FB.out.trans bb)
  clear b bb FA FL FB
  go_wp2_with fail
  refine (few11_any A n c l B m d legs _ f1A.out f1L.out).mono ?_
  rintro e v2 ⟨rfl, b⟩
  have bb := b
  have f2A := hid_ (f1A.out.bel bb)
  have f2L := hid_ (f1L.out.bel bb)
  have f2B := hid_ (f1B.out.trans bb)
  clear b bb f1A f1L f1B
  obtain ⟨fb, hfb⟩ : ∃ fb, few11 l legs = fb := ⟨_, rfl⟩
  rw [hfb]
  cases fb
  · clear hfb
    go_wp2
    go_ret
    exact ⟨rfl, f2B.out⟩
  have HQ := hid_ (few11_iff.1 hfb)
  clear hfb
  by_cases h1 : 100 < m
  · skip
    go_wp2
    go_ret
    exact ⟨rfl, f2B.out⟩
  have d1 : decide (100 < m) = false := decide_eq_false h1
  have HM : Hid (m ≤ 100) := hid_ (by omega)
  go_wp2_with fail
  refine (checkA_any A n c l _ f2A.out (fun a ha => by have := HQ.out.2.2.1 a ha; omega)).mono ?_
  rintro e v3 ⟨rfl, b⟩
  have bb := b
  have f3A := hid_ (f2A.out.bel bb)
  have f3L := hid_ (f2L.out.bel bb)
  have f3B := hid_ (f2B.out.trans bb)
  clear b bb f2A f2L f2B
  clear d1 h1
  obtain ⟨ok, hok⟩ : ∃ ok, okL l = ok := ⟨_, rfl⟩
  cases ok
  · rw [show chkAE l = 110 by unfold chkAE; rw [hok]; rfl]
    clear hok
    go_wp2
    go_ret
    exact ⟨rfl, f3B.out⟩
  rw [show chkAE l = 0 by unfold chkAE; rw [hok]; rfl]
  have HOK := hid_ (okL_iff.1 hok)
  clear hok
  go_wp2_with fail
  obtain ⟨w3, hw3⟩ : ∃ w3, v3 = w3 := ⟨_, rfl⟩
  rw [hw3] at f3A f3L f3B ⊢
  clear hw3
  go_loopw [6, 7] (fun v i wr => ∃ j : Nat, j ≤ m ∧ i = .int .i64 j ∧ Hid (Own legT wr w3.heap.size v (backL (legs.take j))) ∧ Hid (∀ x ∈ legs.take j, -1099511627776 ≤ x.amount ∧ x.amount ≤ 1099511627776) ∧ Hid (Bel w3 wr)) (fun _ i _ => m - (intOf i).toNat)
  case atStart => exact ⟨0, Nat.zero_le _, rfl, hid_ (Own.nil_ _ _ _), hid_ (by simp), hid_ (Bel.refl _)⟩
  case round =>
    obtain ⟨j, hj, rfl, hO, hAm, hBr⟩ := hrel
    by_cases hjm : j < m
    · obtain ⟨ad, g0, g1, g2, rfl, ho, z0, z1, z2⟩ := f3L.out.leg hjm
      have e0 := hBr.out.cell_ z0
      have e1 := hBr.out.cell_ z1
      have e2 := hBr.out.cell_ z2
      have HO := hid_ ho
      clear ho
      have i0 : (0 : Int) ≤ (j : Int) := by omega
      have i1 : (j : Int) < (m : Int) := by omega
      have HBF := hid_ (f3B.out.trans hBr.out)
      by_cases q1 : (1099511627776 : Int) < g2
      · clear hO hAm hBr
        go_wp2
        go_ret
        exact ⟨rfl, HBF.out⟩
      have dq1 : decide ((1099511627776 : Int) < g2) = false := decide_eq_false q1
      by_cases q2 : g2 < (-1099511627776 : Int)
      · clear hO hAm hBr
        go_wp2
        go_ret
        exact ⟨rfl, HBF.out⟩
      have dq2 : decide (g2 < (-1099511627776 : Int)) = false := decide_eq_false q2
      have hneg : IntKind.i64.wrap (-g2) = -g2 := by rw [IntKind.wrap_i64]; omega
      have HNG := hid_ hneg
      clear hneg
      have HAM : Hid (∀ x ∈ legs.take (j + 1), -1099511627776 ≤ x.amount ∧ x.amount ≤ 1099511627776) := hid_ (by
        intro x hx
        rw [List.take_add_one, HO.out] at hx
        rcases List.mem_append.1 hx with hx | hx
        · exact hAm.out x hx
        · simp at hx
          subst hx
          show -1099511627776 ≤ g2 ∧ g2 ≤ 1099511627776
          omega)
      have HSL : Hid (((backL (legs.take j)).length + 1) * 40 ≤ 140737488355328) := hid_ (by
        have h1 : (backL (legs.take j)).length ≤ j := by unfold backL; rw [List.length_map, List.length_take]; omega
        have := HM.out
        omega)
      have R1 : Row legT (wr.alloc (.cells #[.string g0, .string g1, .int .i64 (IntKind.i64.wrap (-g2))] 52)) (some ⟨wr.heap.size, 0, none⟩) 1 [⟨g0, g1, IntKind.i64.wrap (-g2)⟩] := Row.one (T := legT) ⟨g0, g1, IntKind.i64.wrap (-g2)⟩ rfl rfl
      have HR1 := hid_ R1
      clear R1 q1 q2 hAm
      go_upto_region 10 with (fail)
      clear dq1 dq2
      have hBR := hBr.out
      have hKP : ∀ W, Bel w3 W → (fun W => Bel w3 W ∧ W.cell? (ad.add (j * 3)) = some (.string g0) ∧ W.cell? ⟨(ad.add (j * 3)).block, (ad.add (j * 3)).off + 1, none⟩ = some (.string g1) ∧ W.cell? ⟨(ad.add (j * 3)).block, (ad.add (j * 3)).off + 2, none⟩ = some (.int .i64 g2)) W := fun W b => ⟨b, b.cell_ z0, b.cell_ z1, b.cell_ z2⟩
      have HKP := hid_ hKP
      clear hKP
      go_region_held3 (fun W => Bel w3 W ∧ W.cell? (ad.add (j * 3)) = some (.string g0) ∧ W.cell? ⟨(ad.add (j * 3)).block, (ad.add (j * 3)).off + 1, none⟩ = some (.string g1) ∧ W.cell? ⟨(ad.add (j * 3)).block, (ad.add (j * 3)).off + 2, none⟩ = some (.int .i64 g2)) ((refine HKP.out _ ?_; repeat first | with_reducible exact hBR | with_reducible exact hb1 | with_reducible apply Bel.drew | with_reducible apply Bel.alloc))
        (first | (refine stepApp (w0 := w3) legS rfl _ _ rfl _ (backL (legs.take j)) [⟨g0, g1, IntKind.i64.wrap (-g2)⟩] (some ⟨wr.heap.size, 0, none⟩) 1 1 rfl rfl (hO.out.bel (by repeat first | with_reducible exact Bel.refl _ | with_reducible apply Bel.drew | with_reducible apply Bel.alloc)) (HR1.out.bel (by repeat first | with_reducible exact Bel.refl _ | with_reducible apply Bel.drew | with_reducible apply Bel.alloc)) (hBr.out.trans (by repeat first | with_reducible exact Bel.refl _ | with_reducible apply Bel.drew | with_reducible apply Bel.alloc)) HSL.out ?_; intro v1 x1 hO1 hb1 hg1 hat1))
      all_goals have HN1 : Hid (Own legT x1 w3.heap.size v1 (backL (legs.take (j + 1)))) := hid_ (by rw [← backL_step HO.out]; rw [HNG.out] at hO1; exact hO1)
      all_goals have HB1 := hid_ hb1
      all_goals clear hO1 hb1 hg1 hat1 hO hBr hBR HKP e0 e1 e2 z0 z1 z2
      all_goals (
        go_wp2
        case roundEnd =>
          go_round
          case rel => exact ⟨j + 1, by omega, by go_num, HN1, HAM, HB1⟩
          case measure => simp [intOf]; omega)
    · obtain rfl : j = m := by omega
      have hO2 := hO.out
      have hA2 := hAm.out
      rw [show legs.take j = legs from List.take_of_length_le (by rw [HLB.out]; exact Nat.le_refl _)] at hO2 hA2
      have HAM := hid_ hA2
      obtain ⟨X, k, rfl, hk, rx⟩ := hO2.reads
      have hbl : (backL legs).length = j := by unfold backL; rw [List.length_map]; exact HLB.out
      rw [hbl] at hk rx ⊢
      have FA := hid_ (f3A.out.bel hBr.out)
      have FL := hid_ (f3L.out.bel hBr.out)
      have FX := hid_ rx
      have FB := hid_ (f3B.out.trans hBr.out)
      have HWL : Hid (∀ a ∈ l, i64w a.balance) := hid_ (fun a ha => i64w_wf (HWA.out a ha).2.2.1)
      clear hO hO2 hA2 hAm hk rx hbl hBr hjm
      go_wp2_with fail
      refine (post_any A n c l B j d legs wr FA.out HOK.out.srt (by have := HQ.out.1; rw [HLA.out] at this; omega) FL.out (fun x hx => ⟨by have := HQ.out.2.2.2 x hx; omega, by have := HQ.out.2.2.2 x hx; omega, i64w_wf (HWB.out x hx).2.2⟩) HWL.out).mono ?_
      rintro e w4 ⟨v, rfl, o, b4⟩
      have F4A := hid_ (FA.out.bel b4)
      have F4X := hid_ (FX.out.bel b4)
      have F4B := hid_ (FB.out.trans b4)
      obtain ⟨A5, c5, rfl, hc5, r5⟩ := o.reads
      have R5 := hid_ r5
      clear o b4 hc5 r5 FA FL FX FB
      obtain ⟨pe, hpe⟩ : ∃ pe, postE l legs = pe := ⟨_, rfl⟩
      rw [hpe]
      by_cases h0 : pe = 0
      case neg =>
        have i0 : (pe == 0) = false := by simp [h0]
        clear hpe h0
        go_wp2
        go_ret
        exact ⟨rfl, F4B.out⟩
      subst h0
      have HPE := hid_ hpe
      have HPB := hid_ (post_back HOK.out HWL.out (by rw [HLB.out]; exact HM.out) HAM.out hpe)
      have HL5 : Hid ((postO l legs).length ≤ 90000) := hid_ (by have h1 := postO_len l legs; have h2 := HQ.out.1; have h3 := HQ.out.2.1; omega)
      clear hpe
      go_wp2_with fail
      refine (post_any A5 _ c5 (postO l legs) X j k (backL legs) w4 R5.out (postO_ok HOK.out).srt HL5.out F4X.out (fun x hx => by
        unfold backL at hx
        obtain ⟨y, hy, rfl⟩ := List.mem_map.1 hx
        have h1 := HQ.out.2.2.2 y hy
        have h2 := HAM.out y hy
        exact ⟨by show y.who.size ≤ _; omega, by show y.asset.size ≤ _; omega, by show i64w (-y.amount); unfold i64w; omega⟩) (postO_i64 HOK.out.srt HWL.out HPE.out)).mono ?_
      rintro e w5 ⟨v, rfl, o, b5⟩
      rw [HPB.out.1]
      rw [HPB.out.2] at o
      obtain ⟨A6, c6, rfl, hc6, r6⟩ := o.reads
      have R6 := hid_ r6
      have F5A := hid_ (F4A.out.bel b5)
      have F5B := hid_ (F4B.out.trans b5)
      clear o b5 hc6 r6 F4A F4X F4B R5
      go_wp2_with fail
      refine (sameAcc_any A6 _ c6 l A n c l w5 R6.out F5A.out).mono ?_
      rintro e w6 ⟨rfl, b6⟩
      rw [eqB_1 (rfl : l = l)]
      have F6B := hid_ (F5B.out.trans b6)
      clear b6 R6 F5A F5B
      go_wp2
      go_ret
      exact ⟨rfl, F6B.out⟩
end Go.Proofs.Ytgnninpfhnpjoaa
