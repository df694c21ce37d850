/- AccountSums, walked. -/
import Derived.Test.YtgnninpfhnpjoaaRg
import Derived.Test.YtgnninpfhnpjoaaAw11
import Derived.Test.YtgnninpfhnpjoaaAcS
import Derived.Test.YtgnninpfhnpjoaaFew11
import Derived.Test.YtgnninpfhnpjoaaSameAcc
import Derived.Test.YtgnninpfhnpjoaaOpAcc
import Derived.Test.YtgnninpfhnpjoaaOpLeg
set_option linter.unusedSimpArgs false
set_option linter.unusedVariables false
namespace Go.Proofs.Ytgnninpfhnpjoaa
open Go.RowKit Go.Lib
theorem i64w_wf {x : Int} (h : (Lit.int .i64 x).wf = true) : i64w x := by
  simp [Lit.wf, IntKind.min, IntKind.max, IntKind.signed, IntKind.bits] at h
  exact h
theorem find_form (l : List Acc) (p0 p1 : ByteArray) : ∃ x2 x3, findA l ⟨p0, p1⟩ = ⟨p0, p1, x2, x3⟩ := by
  have h := findA_plc l ⟨p0, p1⟩
  obtain ⟨y, hy⟩ : ∃ y, findA l ⟨p0, p1⟩ = y := ⟨_, rfl⟩
  rw [hy] at h ⊢
  obtain ⟨y0, y1, y2, y3⟩ := y
  simp only [Acc.plc, Plc.mk.injEq] at h
  exact ⟨y2, y3, by rw [h.1, h.2]⟩
theorem allS_in {other : ByteArray} {legs : List Due} {x : Due} (h : x ∈ legs) : x ∈ allS other legs := List.mem_flatMap.2 ⟨x, h, by simp⟩
theorem allS_mem {other : ByteArray} {legs : List Due} {x : Due} (h : x ∈ allS other legs) : ∃ d ∈ legs, x = d ∨ x = ⟨other, d.asset, -d.amount⟩ := by
  unfold allS at h
  obtain ⟨d, hd, hx⟩ := List.mem_flatMap.1 h
  simp only [List.mem_cons, List.not_mem_nil, or_false] at hx
  exact ⟨d, hd, hx⟩
set_option maxRecDepth 10000 in
set_option maxHeartbeats 4000000 in
theorem walkAccountSums (w : World) (A : Option Addr) (n c : Nat) (l : List Acc) (ha : n ≤ c ∧ Row accT w A n l ∧ ∀ x ∈ l, accWf x) (B : Option Addr) (m d : Nat) (legs : List Due) (hb : m ≤ d ∧ Row legT w B m legs ∧ ∀ x ∈ legs, legWf x) (other : ByteArray) (hs1 : other.size ≤ 9223372036854775807) (s : ByteArray) (hs2 : s.size ≤ 9223372036854775807) : Calls Try.prog 11 #[.slice A n c, .slice B m d, .string other, .string s] w fun e w' => e = .returned (.bool true) ∧ Bel w w' := by
  obtain ⟨hnc, hA, hwa⟩ := ha
  obtain ⟨hmd, hB, hwb⟩ := hb
  have hm63 := hB.2.1
  have HWA := hid_ hwa
  have HWB := hid_ hwb
  have HLA := hid_ hA.1
  have HLB := hid_ hB.1
  have FA := hid_ hA
  have FL := hid_ hB
  have FB := hid_ (Bel.refl w)
  have HSZ := hid_ (And.intro hs1 hs2)
  clear hA hB hwa hwb hnc hmd hs1 hs2
  go_enter Try.func11, Try.ntmps11
  go_wp2_with fail
  refine (awake11 _).mono ?_
  rintro e v1 ⟨rfl, b⟩
  have bb := b
  have f1A := hid_ (FA.out.bel bb)
  have f1L := hid_ (FL.out.bel bb)
  have f1B := hid_ (FB.out.trans bb)
  clear b bb FA FL FB
  go_wp2_with fail
  refine (few11_any A n c l B m d legs _ f1A.out f1L.out).mono ?_
  rintro e v2 ⟨rfl, b⟩
  have bb := b
  have f2A := hid_ (f1A.out.bel bb)
  have f2L := hid_ (f1L.out.bel bb)
  have f2B := hid_ (f1B.out.trans bb)
  clear b bb f1A f1L f1B
  obtain ⟨fb, hfb⟩ : ∃ fb, few11 l legs = fb := ⟨_, rfl⟩
  rw [hfb]
  cases fb
  · clear hfb
    go_wp2
    go_ret
    exact ⟨rfl, f2B.out⟩
  have HQ := hid_ (few11_iff.1 hfb)
  clear hfb
  by_cases h1 : 100 < m
  · skip
    go_wp2
    go_ret
    exact ⟨rfl, f2B.out⟩
  have d1 : decide (100 < m) = false := decide_eq_false h1
  have HM : Hid (m ≤ 100) := hid_ (by omega)
  go_wp2_with fail
  refine (checkA_any A n c l _ f2A.out (fun a ha => by have := HQ.out.2.2.1 a ha; omega)).mono ?_
  rintro e v3 ⟨rfl, b⟩
  have bb := b
  have f3A := hid_ (f2A.out.bel bb)
  have f3L := hid_ (f2L.out.bel bb)
  have f3B := hid_ (f2B.out.trans bb)
  clear b bb f2A f2L f2B
  clear d1 h1
  obtain ⟨ok, hok⟩ : ∃ ok, okL l = ok := ⟨_, rfl⟩
  cases ok
  · rw [show chkAE l = 110 by unfold chkAE; rw [hok]; rfl]
    clear hok
    go_wp2
    go_ret
    exact ⟨rfl, f3B.out⟩
  rw [show chkAE l = 0 by unfold chkAE; rw [hok]; rfl]
  have HOK := hid_ (okL_iff.1 hok)
  clear hok
  have HWL : Hid (∀ a ∈ l, i64w a.balance) := hid_ (fun a ha => i64w_wf (HWA.out a ha).2.2.1)
  have HN2 : Hid (n ≤ 200) := hid_ (by have := HQ.out.1; rw [HLA.out] at this; exact this)
  go_wp2_with fail
  obtain ⟨w3, hw3⟩ : ∃ w3, v3 = w3 := ⟨_, rfl⟩
  rw [hw3] at f3A f3L f3B ⊢
  clear hw3
  go_loopw [10, 11] (fun v i wr => ∃ j : Nat, j ≤ m ∧ i = .int .i64 j ∧ Hid (Own legT wr w3.heap.size v (allS other (legs.take j))) ∧ Hid (∀ x ∈ legs.take j, x.amount ≠ -9223372036854775808) ∧ Hid (Bel w3 wr)) (fun _ i _ => m - (intOf i).toNat)
  case atStart => exact ⟨0, Nat.zero_le _, rfl, hid_ (Own.nil_ _ _ _), hid_ (by simp), hid_ (Bel.refl _)⟩
  case round =>
    obtain ⟨j, hj, rfl, hO, hAm, hBr⟩ := hrel
    by_cases hjm : j < m
    · obtain ⟨ad, g0, g1, g2, rfl, ho, z0, z1, z2⟩ := f3L.out.leg hjm
      have e0 := hBr.out.cell_ z0
      have e1 := hBr.out.cell_ z1
      have e2 := hBr.out.cell_ z2
      have HO := hid_ ho
      have HG := hid_ (i64w_wf (HWB.out _ (List.mem_of_getElem? ho)).2.2)
      clear ho
      have i0 : (0 : Int) ≤ (j : Int) := by omega
      have i1 : (j : Int) < (m : Int) := by omega
      have HBF := hid_ (f3B.out.trans hBr.out)
      by_cases q1 : g2 = (-9223372036854775808 : Int)
      · subst q1
        clear hO hAm hBr
        go_wp2
        go_ret
        exact ⟨rfl, HBF.out⟩
      have dq1 : (g2 == (-9223372036854775808 : Int)) = false := by simp [q1]
      have hneg : IntKind.i64.wrap (-g2) = -g2 := by have h : i64w g2 := HG.out; unfold i64w at h; rw [IntKind.wrap_i64]; omega
      have HNG := hid_ hneg
      clear hneg
      have HAM : Hid (∀ x ∈ legs.take (j + 1), x.amount ≠ -9223372036854775808) := hid_ (by
        intro x hx
        rw [List.take_add_one, HO.out] at hx
        rcases List.mem_append.1 hx with hx | hx
        · exact hAm.out x hx
        · simp at hx
          subst hx
          exact q1)
      have HSL : Hid (((allS other (legs.take j)).length + 2) * 40 ≤ 140737488355328) := hid_ (by
        have h1 : (allS other (legs.take j)).length ≤ 2 * j := by rw [allS_len, List.length_take]; omega
        have := HM.out
        omega)
      have R1 : Row legT (wr.alloc (.cells #[.string g0, .string g1, .int .i64 g2, .string other, .string g1, .int .i64 (IntKind.i64.wrap (-g2))] 52)) (some ⟨wr.heap.size, 0, none⟩) 2 [⟨g0, g1, g2⟩, ⟨other, g1, IntKind.i64.wrap (-g2)⟩] := Row.lit (T := legT) wr [⟨g0, g1, g2⟩, ⟨other, g1, IntKind.i64.wrap (-g2)⟩] (0, 0) (by simp)
      have HR1 := hid_ R1
      clear R1 q1 hAm
      go_upto_region 10 with (fail)
      clear dq1
      have hBR := hBr.out
      have hKP : ∀ W, Bel w3 W → (fun W => Bel w3 W ∧ W.cell? (ad.add (j * 3)) = some (.string g0) ∧ W.cell? ⟨(ad.add (j * 3)).block, (ad.add (j * 3)).off + 1, none⟩ = some (.string g1) ∧ W.cell? ⟨(ad.add (j * 3)).block, (ad.add (j * 3)).off + 2, none⟩ = some (.int .i64 g2)) W := fun W b => ⟨b, b.cell_ z0, b.cell_ z1, b.cell_ z2⟩
      have HKP := hid_ hKP
      clear hKP
      go_region_held3 (fun W => Bel w3 W ∧ W.cell? (ad.add (j * 3)) = some (.string g0) ∧ W.cell? ⟨(ad.add (j * 3)).block, (ad.add (j * 3)).off + 1, none⟩ = some (.string g1) ∧ W.cell? ⟨(ad.add (j * 3)).block, (ad.add (j * 3)).off + 2, none⟩ = some (.int .i64 g2)) ((refine HKP.out _ ?_; repeat first | with_reducible exact hBR | with_reducible exact hb1 | with_reducible apply Bel.drew | with_reducible apply Bel.alloc))
        (first | (refine stepApp (w0 := w3) legS rfl _ _ rfl _ (allS other (legs.take j)) [⟨g0, g1, g2⟩, ⟨other, g1, IntKind.i64.wrap (-g2)⟩] (some ⟨wr.heap.size, 0, none⟩) 2 2 rfl rfl (hO.out.bel (by repeat first | with_reducible exact Bel.refl _ | with_reducible apply Bel.drew | with_reducible apply Bel.alloc)) (HR1.out.bel (by repeat first | with_reducible exact Bel.refl _ | with_reducible apply Bel.drew | with_reducible apply Bel.alloc)) (hBr.out.trans (by repeat first | with_reducible exact Bel.refl _ | with_reducible apply Bel.drew | with_reducible apply Bel.alloc)) HSL.out ?_; intro v1 x1 hO1 hb1 hg1 hat1))
      all_goals have HN1 : Hid (Own legT x1 w3.heap.size v1 (allS other (legs.take (j + 1)))) := hid_ (by rw [← allS_step other HO.out]; rw [HNG.out] at hO1; exact hO1)
      all_goals have HB1 := hid_ hb1
      all_goals clear hO1 hb1 hg1 hat1 hO hBr hBR HKP e0 e1 e2 z0 z1 z2
      all_goals (
        go_wp2
        case roundEnd =>
          go_round
          case rel => exact ⟨j + 1, by omega, by go_num, HN1, HAM, HB1⟩
          case measure => simp [intOf]; omega)
    · obtain rfl : m = j := by omega
      have hO2 := hO.out
      have hA2 := hAm.out
      rw [show legs.take m = legs from List.take_of_length_le (by rw [HLB.out]; exact Nat.le_refl _)] at hO2 hA2
      have HAM := hid_ hA2
      obtain ⟨X, kx, rfl, hkx, rx⟩ := hO2.reads
      have hbl : (allS other legs).length = 2 * m := by rw [allS_len, HLB.out]
      obtain ⟨nx, hnx⟩ : ∃ x, 2 * m = x := ⟨_, rfl⟩
      have HNX : Hid (nx ≤ 200) := hid_ (by have := HM.out; omega)
      rw [hbl, hnx] at hkx rx ⊢
      have hx63 := rx.2.1
      have FA := hid_ (f3A.out.bel hBr.out)
      have FL := hid_ (f3L.out.bel hBr.out)
      have FX := hid_ rx
      have FB := hid_ (f3B.out.trans hBr.out)
      clear hO hO2 hA2 hAm hkx rx hnx hBr hjm hj
      have HZX : Hid (∀ x ∈ allS other legs, x.who.size ≤ 9223372036854775807 ∧ x.asset.size ≤ 9223372036854775807 ∧ i64w x.amount) := hid_ (by
        intro x hx
        obtain ⟨y, hy, e⟩ := allS_mem hx
        have h1 := HQ.out.2.2.2 y hy
        have h2 := i64w_wf (HWB.out y hy).2.2
        have h3 := HAM.out y hy
        have h4 := HSZ.out.1
        unfold i64w at h2 ⊢
        rcases e with rfl | rfl
        · exact ⟨by omega, by omega, h2⟩
        · exact ⟨h4, by show y.asset.size ≤ _; omega, by show _ ≤ -y.amount ∧ -y.amount ≤ _; omega⟩)
      go_wp2_with fail
      refine (post_any A n c l X nx kx (allS other legs) wr FA.out HOK.out.srt (Nat.le_trans HN2.out (by decide)) FX.out HZX.out HWL.out).mono ?_
      rintro e w4 ⟨v, rfl, o, b4⟩
      have F4A := hid_ (FA.out.bel b4)
      have F4L := hid_ (FL.out.bel b4)
      have F4X := hid_ (FX.out.bel b4)
      have F4B := hid_ (FB.out.trans b4)
      obtain ⟨A5, c5, rfl, hc5, r5⟩ := o.reads
      have HL5' := hid_ (postO_len l (allS other legs))
      obtain ⟨n5, hn5⟩ : ∃ n5, (postO l (allS other legs)).length = n5 := ⟨_, rfl⟩
      rw [hn5] at r5 HL5' ⊢
      have R5 := hid_ r5
      clear o b4 hc5 r5 hn5 FA FL FX FB
      obtain ⟨pe, hpe⟩ : ∃ pe, postE l (allS other legs) = pe := ⟨_, rfl⟩
      rw [hpe]
      by_cases h0 : pe = 0
      case neg =>
        have i0 : (pe == 0) = false := by simp [h0]
        clear hpe h0
        go_wp2
        go_ret
        exact ⟨rfl, F4B.out⟩
      subst h0
      have HPE := hid_ hpe
      have HST := hid_ (sums_total other HOK.out.srt hpe s)
      have HEA := hid_ (fun d hd => post_each (d := d) HOK.out hpe hd)
      have HWP := hid_ (postO_i64 HOK.out.srt HWL.out hpe)
      have HSR := hid_ (postO_find HOK.out.srt hpe).1
      have HL5 : Hid (n5 ≤ 100000) := hid_ (by have h1 := HL5'.out; have h2 := HLA.out; have h3 := HN2.out; have h4 := HNX.out; rw [hbl] at h1; have h5 := HM.out; omega)
      obtain ⟨po, hpo⟩ : ∃ po, postO l (allS other legs) = po := ⟨_, rfl⟩
      rw [hpo] at HST HEA HWP HSR R5
      clear hpe hpo HL5'
      obtain ⟨tv, htv⟩ : ∃ tv, sumV (balA l s) = tv := ⟨_, rfl⟩
      obtain ⟨te, hte⟩ : ∃ te, sumE (balA l s) = te := ⟨_, rfl⟩
      rw [htv, hte] at HST
      go_wp2_with fail
      refine (total_any A n c l s w4 F4A.out (Nat.le_trans HN2.out (by decide)) HWL.out).mono ?_
      rintro e w5 ⟨rfl, b⟩
      rw [htv, hte]
      have F5A := hid_ (F4A.out.bel b)
      have F5L := hid_ (F4L.out.bel b)
      have F5X := hid_ (F4X.out.bel b)
      have F5B := hid_ (F4B.out.trans b)
      have R6 := hid_ (R5.out.bel b)
      clear b F4A F4L F4X F4B R5 htv hte
      go_wp2_with fail
      refine (total_any A5 n5 c5 po s w5 R6.out HL5.out HWP.out).mono ?_
      rintro e w6 ⟨rfl, b⟩
      rw [← HST.out.1, ← HST.out.2]
      have F6A := hid_ (F5A.out.bel b)
      have F6L := hid_ (F5L.out.bel b)
      have F6X := hid_ (F5X.out.bel b)
      have F6B := hid_ (F5B.out.trans b)
      have R7 := hid_ (R6.out.bel b)
      clear b F5A F5L F5X F5B R6
      go_wp2_with fail
      go_loopw [18, 19, 20, 21, 22, 23, 24] (fun i _ _ _ _ _ _ wr => ∃ j : Nat, j ≤ m ∧ i = .int .i64 j ∧ Hid (Bel w6 wr)) (fun i _ _ _ _ _ _ _ => m - (intOf i).toNat)
      case atStart => exact ⟨0, Nat.zero_le _, rfl, hid_ (Bel.refl _)⟩
      case round =>
        obtain ⟨j, hj, rfl, hBr⟩ := hrel
        by_cases hjm : j < m
        · obtain ⟨ad, g0, g1, g2, rfl, ho, z0, z1, z2⟩ := (F6L.out.bel hBr.out).leg hjm
          have HD := hid_ (List.mem_of_getElem? ho)
          clear ho
          have i0 : (0 : Int) ≤ (j : Int) := by omega
          have i1 : (j : Int) < (m : Int) := by omega
          obtain ⟨W0, hW0⟩ : ∃ W0, wr = W0 := ⟨_, rfl⟩
          rw [hW0] at hBr z0 z1 z2 ⊢
          clear hW0
          have FA := hid_ (F6A.out.bel hBr.out)
          have FR := hid_ (R7.out.bel hBr.out)
          have FX := hid_ (F6X.out.bel hBr.out)
          have HB0 := hid_ hBr.out
          clear hBr
          obtain ⟨x2, x3, hfx⟩ := find_form l g0 g1
          obtain ⟨y2, y3, hfy⟩ := find_form po g0 g1
          have HFX := hid_ hfx
          have HFY := hid_ hfy
          have HXB : Hid (i64w x2) := hid_ (by have := find_i64 HWL.out ⟨g0, g1⟩; rw [hfx] at this; exact this)
          have HE0 := hid_ (HEA.out ⟨g0, g1, g2⟩ (allS_in HD.out))
          clear hfx hfy
          go_upto_region 19 with (fail)
          go_cut [19] (fun p wx => ∃ g, p = .pointer (some ⟨g, 0, none⟩) ∧ Hid (Bx wx g 49 [.string g0, .string g1, .int .i64 x2, .int .i64 x3]) ∧ Hid (Bel W0 wx))
          case first =>
            have hKP : ∀ W, Bel W0 W → (fun W => Bel W0 W ∧ W.cell? (ad.add (j * 3)) = some (.string g0) ∧ W.cell? ⟨(ad.add (j * 3)).block, (ad.add (j * 3)).off + 1, none⟩ = some (.string g1)) W := fun W b => ⟨b, b.cell_ z0, b.cell_ z1⟩
            have HKP := hid_ hKP
            clear hKP
            refine wp_region_held_drew (S := (fun W => Bel W0 W ∧ W.cell? (ad.add (j * 3)) = some (.string g0) ∧ W.cell? ⟨(ad.add (j * 3)).block, (ad.add (j * 3)).off + 1, none⟩ = some (.string g1))) (by kernel_rfl) (by (refine HKP.out _ ?_; (repeat first | with_reducible exact Bel.refl _ | with_reducible exact bz | with_reducible apply Bel.drew | with_reducible apply Bel.alloc))) (fun hHeld => ?_)
            refine tkW (i := 0) (d := (some 101)) (oi := ?oi1) (v := ?v1) ?hi1 ?hd1 (by kernel_rfl) (by kernel_rfl) (by kernel_rfl) (fun _ _ _ h => h) ?hw1 (by assumption) ?hv1 ?h1
            case hi1 =>
              simp only [List.getElem?_toArray, List.getElem?_cons_succ, List.getElem?_cons_zero]
              exact rfl
            case hd1 => rfl
            case hw1 => rfl
            case hv1 =>
              intro w hSw
              (try dsimp only at hSw)
              go_simp
              try with_reducible rfl
            try simp only [Act.put, List.setIfInBounds_toArray, List.set_cons_zero, List.set_cons_succ]
            refine tkW (i := 1) (d := (some 102)) (oi := ?oi2) (v := ?v2) ?hi2 ?hd2 (by kernel_rfl) (by kernel_rfl) (by kernel_rfl) (fun _ _ _ h => h) ?hw2 (by assumption) ?hv2 ?h2
            case hi2 =>
              simp only [List.getElem?_toArray, List.getElem?_cons_succ, List.getElem?_cons_zero]
              exact rfl
            case hd2 => rfl
            case hw2 => rfl
            case hv2 =>
              intro w hSw
              (try dsimp only at hSw)
              go_simp
              try with_reducible rfl
            try simp only [Act.put, List.setIfInBounds_toArray, List.set_cons_zero, List.set_cons_succ]
            refine tkW (i := 2) (d := (some 103)) (oi := ?oi3) (v := ?v3) ?hi3 ?hd3 (by kernel_rfl) (by kernel_rfl) (by kernel_rfl) (fun _ _ _ h => h) ?hw3 (by assumption) ?hv3 ?h3
            case hi3 =>
              simp only [List.getElem?_toArray, List.getElem?_cons_succ, List.getElem?_cons_zero]
              exact rfl
            case hd3 => rfl
            case hw3 => rfl
            case hv3 =>
              intro w hSw
              (try dsimp only at hSw)
              go_simp
              try with_reducible rfl
            try simp only [Act.put, List.setIfInBounds_toArray, List.set_cons_zero, List.set_cons_succ]
            refine tkW (i := 3) (d := (some 104)) (oi := ?oi4) (v := ?v4) ?hi4 ?hd4 (by kernel_rfl) (by kernel_rfl) (by kernel_rfl) (fun _ _ _ h => h) ?hw4 (by assumption) ?hv4 ?h4
            case hi4 =>
              simp only [List.getElem?_toArray, List.getElem?_cons_succ, List.getElem?_cons_zero]
              exact rfl
            case hd4 => rfl
            case hw4 => rfl
            case hv4 =>
              intro w hSw
              (try dsimp only at hSw)
              go_simp
              try with_reducible rfl
            try simp only [Act.put, List.setIfInBounds_toArray, List.set_cons_zero, List.set_cons_succ]
            refine tkW (i := 4) (d := (some 105)) (oi := ?oi5) (v := ?v5) ?hi5 ?hd5 (by kernel_rfl) (by kernel_rfl) (by kernel_rfl) (fun _ _ _ h => h) ?hw5 (by assumption) ?hv5 ?h5
            case hi5 =>
              simp only [List.getElem?_toArray, List.getElem?_cons_succ, List.getElem?_cons_zero]
              exact rfl
            case hd5 => rfl
            case hw5 => rfl
            case hv5 =>
              intro w hSw
              (try dsimp only at hSw)
              go_simp
              try with_reducible rfl
            try simp only [Act.put, List.setIfInBounds_toArray, List.set_cons_zero, List.set_cons_succ]
            refine tkW (i := 5) (d := (some 106)) (oi := ?oi6) (v := ?v6) ?hi6 ?hd6 (by kernel_rfl) (by kernel_rfl) (by kernel_rfl) (fun _ _ _ h => h) ?hw6 (by assumption) ?hv6 ?h6
            case hi6 =>
              simp only [List.getElem?_toArray, List.getElem?_cons_succ, List.getElem?_cons_zero]
              exact rfl
            case hd6 => rfl
            case hw6 => rfl
            case hv6 =>
              intro w hSw
              (try dsimp only at hSw)
              go_simp
              try with_reducible rfl
            try simp only [Act.put, List.setIfInBounds_toArray, List.set_cons_zero, List.set_cons_succ]
            refine tkW (i := 6) (d := (some 107)) (oi := ?oi7) (v := ?v7) ?hi7 ?hd7 (by kernel_rfl) (by kernel_rfl) (by kernel_rfl) (fun _ _ _ h => h) ?hw7 (by assumption) ?hv7 ?h7
            case hi7 =>
              simp only [List.getElem?_toArray, List.getElem?_cons_succ, List.getElem?_cons_zero]
              exact rfl
            case hd7 => rfl
            case hw7 => rfl
            case hv7 =>
              intro w hSw
              (try dsimp only at hSw)
              go_simp
              try with_reducible rfl
            try simp only [Act.put, List.setIfInBounds_toArray, List.set_cons_zero, List.set_cons_succ]
            refine tkW (i := 7) (d := (some 108)) (oi := ?oi8) (v := ?v8) ?hi8 ?hd8 (by kernel_rfl) (by kernel_rfl) (by kernel_rfl) (fun _ _ _ h => h) ?hw8 (by assumption) ?hv8 ?h8
            case hi8 =>
              simp only [List.getElem?_toArray, List.getElem?_cons_succ, List.getElem?_cons_zero]
              exact rfl
            case hd8 => rfl
            case hw8 => rfl
            case hv8 =>
              intro w hSw
              (try dsimp only at hSw)
              go_simp
              try with_reducible rfl
            try simp only [Act.put, List.setIfInBounds_toArray, List.set_cons_zero, List.set_cons_succ]
            refine tkW (i := 8) (d := (some 109)) (oi := ?oi9) (v := ?v9) ?hi9 ?hd9 (by kernel_rfl) (by kernel_rfl) (by kernel_rfl) (fun _ _ _ h => h) ?hw9 (by assumption) ?hv9 ?h9
            case hi9 =>
              simp only [List.getElem?_toArray, List.getElem?_cons_succ, List.getElem?_cons_zero]
              exact rfl
            case hd9 => rfl
            case hw9 => rfl
            case hv9 =>
              intro w hSw
              (try dsimp only at hSw)
              go_simp
              try with_reducible rfl
            try simp only [Act.put, List.setIfInBounds_toArray, List.set_cons_zero, List.set_cons_succ]
            refine tkW (i := 9) (d := (some 110)) (oi := ?oi10) (v := ?v10) ?hi10 ?hd10 (by kernel_rfl) (by kernel_rfl) (by kernel_rfl) (fun _ _ _ h => h) ?hw10 (by assumption) ?hv10 ?h10
            case hi10 =>
              simp only [List.getElem?_toArray, List.getElem?_cons_succ, List.getElem?_cons_zero]
              exact rfl
            case hd10 => rfl
            case hw10 => rfl
            case hv10 =>
              intro w hSw
              (try dsimp only at hSw)
              go_simp
              try with_reducible rfl
            try simp only [Act.put, List.setIfInBounds_toArray, List.set_cons_zero, List.set_cons_succ]
            refine tkW (i := 10) (d := (some 111)) (oi := ?oi11) (v := ?v11) ?hi11 ?hd11 (by kernel_rfl) (by kernel_rfl) (by kernel_rfl) (fun _ _ _ h => h) ?hw11 (by assumption) ?hv11 ?h11
            case hi11 =>
              simp only [List.getElem?_toArray, List.getElem?_cons_succ, List.getElem?_cons_zero]
              exact rfl
            case hd11 => rfl
            case hw11 => rfl
            case hv11 =>
              intro w hSw
              (try dsimp only at hSw)
              go_simp
              try with_reducible rfl
            try simp only [Act.put, List.setIfInBounds_toArray, List.set_cons_zero, List.set_cons_succ]
            refine wpAnyH_ready (rs := [11, 12]) (by kernel_rfl) (by simp) ?_
            refine AllReadyH.cons (o := ?oa12) ?ha12 (fun K hK => ?ka12) (AllReadyH.cons (o := ?ob12) ?hb12 (fun K hK => ?kb12) AllReadyH.nil)
            case ha12 =>
              simp only [List.getElem?_toArray, List.getElem?_cons_succ, List.getElem?_cons_zero]
              exact rfl
            case hb12 =>
              simp only [List.getElem?_toArray, List.getElem?_cons_succ, List.getElem?_cons_zero]
              exact rfl
            case ka12 =>
              go_simp
              refine' Calls.mono (find_any A n c l g0 g1 _ (FA.out.bel (by repeat first | with_reducible exact Bel.refl _ | with_reducible apply Bel.drew | with_reducible apply Bel.alloc)) HOK.out.srt) ?_
              rintro e w9 ⟨rfl, b9⟩
              have bz : Bel W0 w9 := Bel.trans (by (repeat first | with_reducible exact Bel.refl _ | with_reducible exact bz | with_reducible apply Bel.drew | with_reducible apply Bel.alloc)) b9
              rw [HFX.out, show (accC ⟨g0, g1, x2, x3⟩).toArray = #[.string g0, .string g1, .int .i64 x2, .int .i64 x3] from rfl]
              go_wp2_with fail
              refine hK.out _ _ ?_ (fun hHeld => ?_)
              · (refine HKP.out _ ?_; (repeat first | with_reducible exact Bel.refl _ | with_reducible exact bz | with_reducible apply Bel.drew | with_reducible apply Bel.alloc))
              clear hK K
              try simp only [Act.put, List.setIfInBounds_toArray, List.set_cons_zero, List.set_cons_succ]
              refine wpAnyH_ready (rs := [12]) (by kernel_rfl) (by simp) ?_
              refine AllReadyH.cons (o := ?oi13) ?hi13 (fun K hK => ?hk13) AllReadyH.nil
              case hi13 =>
                simp only [List.getElem?_toArray, List.getElem?_cons_succ, List.getElem?_cons_zero]
                exact rfl
              go_simp
              refine hK.out _ _ ?_ (fun hHeld => ?_)
              · (refine HKP.out _ ?_; (repeat first | with_reducible exact Bel.refl _ | with_reducible exact bz | with_reducible apply Bel.drew | with_reducible apply Bel.alloc))
              clear hK K
              try simp only [Act.put, List.setIfInBounds_toArray, List.set_cons_zero, List.set_cons_succ]
              refine wpAnyH_ready (rs := [13]) (by kernel_rfl) (by simp) ?_
              refine AllReadyH.cons (o := ?oi14) ?hi14 (fun K hK => ?hk14) AllReadyH.nil
              case hi14 =>
                simp only [List.getElem?_toArray, List.getElem?_cons_succ, List.getElem?_cons_zero]
                exact rfl
              go_simp
              refine hK.out _ _ ?_ (fun hHeld => ?_)
              · (refine HKP.out _ ?_; (repeat first | with_reducible exact Bel.refl _ | with_reducible exact bz | with_reducible apply Bel.drew | with_reducible apply Bel.alloc))
              clear hK K
              try simp only [Act.put, List.setIfInBounds_toArray, List.set_cons_zero, List.set_cons_succ]
              refine wpAnyH_done (by kernel_rfl) ?_ _
              go_wp2_with fail
              go_meet
              exact ⟨w9.heap.size, rfl, hid_ (Bx.new w9 49 [.string g0, .string g1, .int .i64 x2, .int .i64 x3]), hid_ (bz.alloc _)⟩
            case kb12 =>
              go_simp
              refine hK.out _ _ ?_ (fun hHeld => ?_)
              · (refine HKP.out _ ?_; (repeat first | with_reducible exact Bel.refl _ | with_reducible exact bz | with_reducible apply Bel.drew | with_reducible apply Bel.alloc))
              clear hK K
              try simp only [Act.put, List.setIfInBounds_toArray, List.set_cons_zero, List.set_cons_succ]
              refine wpAnyH_ready (rs := [11]) (by kernel_rfl) (by simp) ?_
              refine AllReadyH.cons (o := ?oi15) ?hi15 (fun K hK => ?hk15) AllReadyH.nil
              case hi15 =>
                simp only [List.getElem?_toArray, List.getElem?_cons_succ, List.getElem?_cons_zero]
                exact rfl
              go_simp
              refine' Calls.mono (find_any A n c l g0 g1 _ (FA.out.bel (by repeat first | with_reducible exact Bel.refl _ | with_reducible apply Bel.drew | with_reducible apply Bel.alloc)) HOK.out.srt) ?_
              rintro e w9 ⟨rfl, b9⟩
              have bz : Bel W0 w9 := Bel.trans (by (repeat first | with_reducible exact Bel.refl _ | with_reducible exact bz | with_reducible apply Bel.drew | with_reducible apply Bel.alloc)) b9
              rw [HFX.out, show (accC ⟨g0, g1, x2, x3⟩).toArray = #[.string g0, .string g1, .int .i64 x2, .int .i64 x3] from rfl]
              have kz : Bx w9 W0.heap.size 49 [.string ⟨#[]⟩, .string ⟨#[]⟩, .int .i64 0, .int .i64 0] := (Bx.new W0.drew 49 [.string ⟨#[]⟩, .string ⟨#[]⟩, .int .i64 0, .int .i64 0]).bel b9
              have ky0 := kz.cell 0 rfl
              have ky1 := kz.cell 1 rfl
              have ky2 := kz.cell 2 rfl
              have ky3 := kz.cell 3 rfl
              have kf0 := kz.frozen 0
              have kf1 := kz.frozen 1
              have kf2 := kz.frozen 2
              have kf3 := kz.frozen 3
              have bw := (((bz.set_ (p := ⟨W0.heap.size, 0, none⟩) (Nat.le_refl _) (.string g0)).set_ (p := ⟨W0.heap.size, 1, none⟩) (Nat.le_refl _) (.string g1)).set_ (p := ⟨W0.heap.size, 2, none⟩) (Nat.le_refl _) (.int .i64 x2)).set_ (p := ⟨W0.heap.size, 3, none⟩) (Nat.le_refl _) (.int .i64 x3)
              have kw := (((kz.set 0 (.string g0)).set 1 (.string g1)).set 2 (.int .i64 x2)).set 3 (.int .i64 x3)
              go_wp2_with fail
              refine hK.out _ _ ?_ (fun hHeld => ?_)
              · (refine HKP.out _ ?_; (repeat first | with_reducible exact Bel.refl _ | with_reducible exact bz | with_reducible apply Bel.drew | with_reducible apply Bel.alloc))
              clear hK K
              try simp only [Act.put, List.setIfInBounds_toArray, List.set_cons_zero, List.set_cons_succ]
              refine wpAnyH_ready (rs := [13]) (by kernel_rfl) (by simp) ?_
              refine AllReadyH.cons (o := ?oi16) ?hi16 (fun K hK => ?hk16) AllReadyH.nil
              case hi16 =>
                simp only [List.getElem?_toArray, List.getElem?_cons_succ, List.getElem?_cons_zero]
                exact rfl
              go_simp
              refine hK.out _ _ ?_ (fun hHeld => ?_)
              · (refine HKP.out _ ?_; (repeat first | with_reducible exact Bel.refl _ | with_reducible exact bz | with_reducible exact bw | with_reducible apply Bel.drew | with_reducible apply Bel.alloc))
              clear hK K
              try simp only [Act.put, List.setIfInBounds_toArray, List.set_cons_zero, List.set_cons_succ]
              refine wpAnyH_done (by kernel_rfl) ?_ _
              go_wp2_with fail
              go_meet
              exact ⟨W0.heap.size, rfl, hid_ kw, hid_ bw⟩
          case rest =>
            obtain ⟨gA, rfl, KA, BA⟩ := hcut
            have za0 := BA.out.cell_ z0
            have za1 := BA.out.cell_ z1
            obtain ⟨Wa, hWa⟩ : ∃ Wa, wc = Wa := ⟨_, rfl⟩
            rw [hWa] at KA BA za0 za1 ⊢
            clear hWa
            go_upto_region 20 with (fail)
            go_cut [20] (fun p wx => ∃ g, p = .pointer (some ⟨g, 0, none⟩) ∧ Hid (Bx wx g 49 [.string g0, .string g1, .int .i64 y2, .int .i64 y3]) ∧ Hid (Bel Wa wx))
            case first =>
              have hKP : ∀ W, Bel Wa W → (fun W => Bel Wa W ∧ W.cell? (ad.add (j * 3)) = some (.string g0) ∧ W.cell? ⟨(ad.add (j * 3)).block, (ad.add (j * 3)).off + 1, none⟩ = some (.string g1)) W := fun W b => ⟨b, b.cell_ za0, b.cell_ za1⟩
              have HKP := hid_ hKP
              clear hKP
              refine wp_region_held_drew (S := (fun W => Bel Wa W ∧ W.cell? (ad.add (j * 3)) = some (.string g0) ∧ W.cell? ⟨(ad.add (j * 3)).block, (ad.add (j * 3)).off + 1, none⟩ = some (.string g1))) (by kernel_rfl) (by (refine HKP.out _ ?_; (repeat first | with_reducible exact Bel.refl _ | with_reducible exact bz | with_reducible apply Bel.drew | with_reducible apply Bel.alloc))) (fun hHeld => ?_)
              refine tkW (i := 0) (d := (some 113)) (oi := ?oi17) (v := ?v17) ?hi17 ?hd17 (by kernel_rfl) (by kernel_rfl) (by kernel_rfl) (fun _ _ _ h => h) ?hw17 (by assumption) ?hv17 ?h17
              case hi17 =>
                simp only [List.getElem?_toArray, List.getElem?_cons_succ, List.getElem?_cons_zero]
                exact rfl
              case hd17 => rfl
              case hw17 => rfl
              case hv17 =>
                intro w hSw
                (try dsimp only at hSw)
                go_simp
                try with_reducible rfl
              try simp only [Act.put, List.setIfInBounds_toArray, List.set_cons_zero, List.set_cons_succ]
              refine tkW (i := 1) (d := (some 114)) (oi := ?oi18) (v := ?v18) ?hi18 ?hd18 (by kernel_rfl) (by kernel_rfl) (by kernel_rfl) (fun _ _ _ h => h) ?hw18 (by assumption) ?hv18 ?h18
              case hi18 =>
                simp only [List.getElem?_toArray, List.getElem?_cons_succ, List.getElem?_cons_zero]
                exact rfl
              case hd18 => rfl
              case hw18 => rfl
              case hv18 =>
                intro w hSw
                (try dsimp only at hSw)
                go_simp
                try with_reducible rfl
              try simp only [Act.put, List.setIfInBounds_toArray, List.set_cons_zero, List.set_cons_succ]
              refine tkW (i := 2) (d := (some 115)) (oi := ?oi19) (v := ?v19) ?hi19 ?hd19 (by kernel_rfl) (by kernel_rfl) (by kernel_rfl) (fun _ _ _ h => h) ?hw19 (by assumption) ?hv19 ?h19
              case hi19 =>
                simp only [List.getElem?_toArray, List.getElem?_cons_succ, List.getElem?_cons_zero]
                exact rfl
              case hd19 => rfl
              case hw19 => rfl
              case hv19 =>
                intro w hSw
                (try dsimp only at hSw)
                go_simp
                try with_reducible rfl
              try simp only [Act.put, List.setIfInBounds_toArray, List.set_cons_zero, List.set_cons_succ]
              refine tkW (i := 3) (d := (some 116)) (oi := ?oi20) (v := ?v20) ?hi20 ?hd20 (by kernel_rfl) (by kernel_rfl) (by kernel_rfl) (fun _ _ _ h => h) ?hw20 (by assumption) ?hv20 ?h20
              case hi20 =>
                simp only [List.getElem?_toArray, List.getElem?_cons_succ, List.getElem?_cons_zero]
                exact rfl
              case hd20 => rfl
              case hw20 => rfl
              case hv20 =>
                intro w hSw
                (try dsimp only at hSw)
                go_simp
                try with_reducible rfl
              try simp only [Act.put, List.setIfInBounds_toArray, List.set_cons_zero, List.set_cons_succ]
              refine tkW (i := 4) (d := (some 117)) (oi := ?oi21) (v := ?v21) ?hi21 ?hd21 (by kernel_rfl) (by kernel_rfl) (by kernel_rfl) (fun _ _ _ h => h) ?hw21 (by assumption) ?hv21 ?h21
              case hi21 =>
                simp only [List.getElem?_toArray, List.getElem?_cons_succ, List.getElem?_cons_zero]
                exact rfl
              case hd21 => rfl
              case hw21 => rfl
              case hv21 =>
                intro w hSw
                (try dsimp only at hSw)
                go_simp
                try with_reducible rfl
              try simp only [Act.put, List.setIfInBounds_toArray, List.set_cons_zero, List.set_cons_succ]
              refine tkW (i := 5) (d := (some 118)) (oi := ?oi22) (v := ?v22) ?hi22 ?hd22 (by kernel_rfl) (by kernel_rfl) (by kernel_rfl) (fun _ _ _ h => h) ?hw22 (by assumption) ?hv22 ?h22
              case hi22 =>
                simp only [List.getElem?_toArray, List.getElem?_cons_succ, List.getElem?_cons_zero]
                exact rfl
              case hd22 => rfl
              case hw22 => rfl
              case hv22 =>
                intro w hSw
                (try dsimp only at hSw)
                go_simp
                try with_reducible rfl
              try simp only [Act.put, List.setIfInBounds_toArray, List.set_cons_zero, List.set_cons_succ]
              refine tkW (i := 6) (d := (some 119)) (oi := ?oi23) (v := ?v23) ?hi23 ?hd23 (by kernel_rfl) (by kernel_rfl) (by kernel_rfl) (fun _ _ _ h => h) ?hw23 (by assumption) ?hv23 ?h23
              case hi23 =>
                simp only [List.getElem?_toArray, List.getElem?_cons_succ, List.getElem?_cons_zero]
                exact rfl
              case hd23 => rfl
              case hw23 => rfl
              case hv23 =>
                intro w hSw
                (try dsimp only at hSw)
                go_simp
                try with_reducible rfl
              try simp only [Act.put, List.setIfInBounds_toArray, List.set_cons_zero, List.set_cons_succ]
              refine tkW (i := 7) (d := (some 120)) (oi := ?oi24) (v := ?v24) ?hi24 ?hd24 (by kernel_rfl) (by kernel_rfl) (by kernel_rfl) (fun _ _ _ h => h) ?hw24 (by assumption) ?hv24 ?h24
              case hi24 =>
                simp only [List.getElem?_toArray, List.getElem?_cons_succ, List.getElem?_cons_zero]
                exact rfl
              case hd24 => rfl
              case hw24 => rfl
              case hv24 =>
                intro w hSw
                (try dsimp only at hSw)
                go_simp
                try with_reducible rfl
              try simp only [Act.put, List.setIfInBounds_toArray, List.set_cons_zero, List.set_cons_succ]
              refine tkW (i := 8) (d := (some 121)) (oi := ?oi25) (v := ?v25) ?hi25 ?hd25 (by kernel_rfl) (by kernel_rfl) (by kernel_rfl) (fun _ _ _ h => h) ?hw25 (by assumption) ?hv25 ?h25
              case hi25 =>
                simp only [List.getElem?_toArray, List.getElem?_cons_succ, List.getElem?_cons_zero]
                exact rfl
              case hd25 => rfl
              case hw25 => rfl
              case hv25 =>
                intro w hSw
                (try dsimp only at hSw)
                go_simp
                try with_reducible rfl
              try simp only [Act.put, List.setIfInBounds_toArray, List.set_cons_zero, List.set_cons_succ]
              refine tkW (i := 9) (d := (some 122)) (oi := ?oi26) (v := ?v26) ?hi26 ?hd26 (by kernel_rfl) (by kernel_rfl) (by kernel_rfl) (fun _ _ _ h => h) ?hw26 (by assumption) ?hv26 ?h26
              case hi26 =>
                simp only [List.getElem?_toArray, List.getElem?_cons_succ, List.getElem?_cons_zero]
                exact rfl
              case hd26 => rfl
              case hw26 => rfl
              case hv26 =>
                intro w hSw
                (try dsimp only at hSw)
                go_simp
                try with_reducible rfl
              try simp only [Act.put, List.setIfInBounds_toArray, List.set_cons_zero, List.set_cons_succ]
              refine tkW (i := 10) (d := (some 123)) (oi := ?oi27) (v := ?v27) ?hi27 ?hd27 (by kernel_rfl) (by kernel_rfl) (by kernel_rfl) (fun _ _ _ h => h) ?hw27 (by assumption) ?hv27 ?h27
              case hi27 =>
                simp only [List.getElem?_toArray, List.getElem?_cons_succ, List.getElem?_cons_zero]
                exact rfl
              case hd27 => rfl
              case hw27 => rfl
              case hv27 =>
                intro w hSw
                (try dsimp only at hSw)
                go_simp
                try with_reducible rfl
              try simp only [Act.put, List.setIfInBounds_toArray, List.set_cons_zero, List.set_cons_succ]
              refine wpAnyH_ready (rs := [11, 12]) (by kernel_rfl) (by simp) ?_
              refine AllReadyH.cons (o := ?oa28) ?ha28 (fun K hK => ?ka28) (AllReadyH.cons (o := ?ob28) ?hb28 (fun K hK => ?kb28) AllReadyH.nil)
              case ha28 =>
                simp only [List.getElem?_toArray, List.getElem?_cons_succ, List.getElem?_cons_zero]
                exact rfl
              case hb28 =>
                simp only [List.getElem?_toArray, List.getElem?_cons_succ, List.getElem?_cons_zero]
                exact rfl
              case ka28 =>
                go_simp
                refine' Calls.mono (find_any A5 n5 c5 po g0 g1 _ ((FR.out.bel BA.out).bel (by repeat first | with_reducible exact Bel.refl _ | with_reducible apply Bel.drew | with_reducible apply Bel.alloc)) HSR.out) ?_
                rintro e w9 ⟨rfl, b9⟩
                have bz : Bel Wa w9 := Bel.trans (by (repeat first | with_reducible exact Bel.refl _ | with_reducible exact bz | with_reducible apply Bel.drew | with_reducible apply Bel.alloc)) b9
                rw [HFY.out, show (accC ⟨g0, g1, y2, y3⟩).toArray = #[.string g0, .string g1, .int .i64 y2, .int .i64 y3] from rfl]
                go_wp2_with fail
                refine hK.out _ _ ?_ (fun hHeld => ?_)
                · (refine HKP.out _ ?_; (repeat first | with_reducible exact Bel.refl _ | with_reducible exact bz | with_reducible apply Bel.drew | with_reducible apply Bel.alloc))
                clear hK K
                try simp only [Act.put, List.setIfInBounds_toArray, List.set_cons_zero, List.set_cons_succ]
                refine wpAnyH_ready (rs := [12]) (by kernel_rfl) (by simp) ?_
                refine AllReadyH.cons (o := ?oi29) ?hi29 (fun K hK => ?hk29) AllReadyH.nil
                case hi29 =>
                  simp only [List.getElem?_toArray, List.getElem?_cons_succ, List.getElem?_cons_zero]
                  exact rfl
                go_simp
                refine hK.out _ _ ?_ (fun hHeld => ?_)
                · (refine HKP.out _ ?_; (repeat first | with_reducible exact Bel.refl _ | with_reducible exact bz | with_reducible apply Bel.drew | with_reducible apply Bel.alloc))
                clear hK K
                try simp only [Act.put, List.setIfInBounds_toArray, List.set_cons_zero, List.set_cons_succ]
                refine wpAnyH_ready (rs := [13]) (by kernel_rfl) (by simp) ?_
                refine AllReadyH.cons (o := ?oi30) ?hi30 (fun K hK => ?hk30) AllReadyH.nil
                case hi30 =>
                  simp only [List.getElem?_toArray, List.getElem?_cons_succ, List.getElem?_cons_zero]
                  exact rfl
                go_simp
                refine hK.out _ _ ?_ (fun hHeld => ?_)
                · (refine HKP.out _ ?_; (repeat first | with_reducible exact Bel.refl _ | with_reducible exact bz | with_reducible apply Bel.drew | with_reducible apply Bel.alloc))
                clear hK K
                try simp only [Act.put, List.setIfInBounds_toArray, List.set_cons_zero, List.set_cons_succ]
                refine wpAnyH_done (by kernel_rfl) ?_ _
                go_wp2_with fail
                go_meet
                exact ⟨w9.heap.size, rfl, hid_ (Bx.new w9 49 [.string g0, .string g1, .int .i64 y2, .int .i64 y3]), hid_ (bz.alloc _)⟩
              case kb28 =>
                go_simp
                refine hK.out _ _ ?_ (fun hHeld => ?_)
                · (refine HKP.out _ ?_; (repeat first | with_reducible exact Bel.refl _ | with_reducible exact bz | with_reducible apply Bel.drew | with_reducible apply Bel.alloc))
                clear hK K
                try simp only [Act.put, List.setIfInBounds_toArray, List.set_cons_zero, List.set_cons_succ]
                refine wpAnyH_ready (rs := [11]) (by kernel_rfl) (by simp) ?_
                refine AllReadyH.cons (o := ?oi31) ?hi31 (fun K hK => ?hk31) AllReadyH.nil
                case hi31 =>
                  simp only [List.getElem?_toArray, List.getElem?_cons_succ, List.getElem?_cons_zero]
                  exact rfl
                go_simp
                refine' Calls.mono (find_any A5 n5 c5 po g0 g1 _ ((FR.out.bel BA.out).bel (by repeat first | with_reducible exact Bel.refl _ | with_reducible apply Bel.drew | with_reducible apply Bel.alloc)) HSR.out) ?_
                rintro e w9 ⟨rfl, b9⟩
                have bz : Bel Wa w9 := Bel.trans (by (repeat first | with_reducible exact Bel.refl _ | with_reducible exact bz | with_reducible apply Bel.drew | with_reducible apply Bel.alloc)) b9
                rw [HFY.out, show (accC ⟨g0, g1, y2, y3⟩).toArray = #[.string g0, .string g1, .int .i64 y2, .int .i64 y3] from rfl]
                have kz : Bx w9 Wa.heap.size 49 [.string ⟨#[]⟩, .string ⟨#[]⟩, .int .i64 0, .int .i64 0] := (Bx.new Wa.drew 49 [.string ⟨#[]⟩, .string ⟨#[]⟩, .int .i64 0, .int .i64 0]).bel b9
                have ky0 := kz.cell 0 rfl
                have ky1 := kz.cell 1 rfl
                have ky2 := kz.cell 2 rfl
                have ky3 := kz.cell 3 rfl
                have kf0 := kz.frozen 0
                have kf1 := kz.frozen 1
                have kf2 := kz.frozen 2
                have kf3 := kz.frozen 3
                have bw := (((bz.set_ (p := ⟨Wa.heap.size, 0, none⟩) (Nat.le_refl _) (.string g0)).set_ (p := ⟨Wa.heap.size, 1, none⟩) (Nat.le_refl _) (.string g1)).set_ (p := ⟨Wa.heap.size, 2, none⟩) (Nat.le_refl _) (.int .i64 y2)).set_ (p := ⟨Wa.heap.size, 3, none⟩) (Nat.le_refl _) (.int .i64 y3)
                have kw := (((kz.set 0 (.string g0)).set 1 (.string g1)).set 2 (.int .i64 y2)).set 3 (.int .i64 y3)
                go_wp2_with fail
                refine hK.out _ _ ?_ (fun hHeld => ?_)
                · (refine HKP.out _ ?_; (repeat first | with_reducible exact Bel.refl _ | with_reducible exact bz | with_reducible apply Bel.drew | with_reducible apply Bel.alloc))
                clear hK K
                try simp only [Act.put, List.setIfInBounds_toArray, List.set_cons_zero, List.set_cons_succ]
                refine wpAnyH_ready (rs := [13]) (by kernel_rfl) (by simp) ?_
                refine AllReadyH.cons (o := ?oi32) ?hi32 (fun K hK => ?hk32) AllReadyH.nil
                case hi32 =>
                  simp only [List.getElem?_toArray, List.getElem?_cons_succ, List.getElem?_cons_zero]
                  exact rfl
                go_simp
                refine hK.out _ _ ?_ (fun hHeld => ?_)
                · (refine HKP.out _ ?_; (repeat first | with_reducible exact Bel.refl _ | with_reducible exact bz | with_reducible exact bw | with_reducible apply Bel.drew | with_reducible apply Bel.alloc))
                clear hK K
                try simp only [Act.put, List.setIfInBounds_toArray, List.set_cons_zero, List.set_cons_succ]
                refine wpAnyH_done (by kernel_rfl) ?_ _
                go_wp2_with fail
                go_meet
                exact ⟨Wa.heap.size, rfl, hid_ kw, hid_ bw⟩
            case rest =>
              obtain ⟨gC, rfl, KC, BC⟩ := hcut
              have KA2 := hid_ (KA.out.bel BC.out)
              have BW2 := hid_ (BA.out.trans BC.out)
              clear KA BA BC za0 za1
              have HE := HE0.out
              rw [show Due.plc ⟨g0, g1, g2⟩ = ⟨g0, g1⟩ from rfl, HFX.out, HFY.out] at HE
              obtain ⟨he1, he2, he3⟩ := HE
              simp only at he1 he2 he3
              subst he3
              have HS := hid_ (And.intro he1 he2)
              clear he1 he2 HE0 HFX HFY
              obtain ⟨W2, hW2⟩ : ∃ W2, wc = W2 := ⟨_, rfl⟩
              rw [hW2] at KA2 KC BW2 ⊢
              clear hW2
              have zb0 := BW2.out.cell_ z0
              have zb1 := BW2.out.cell_ z1
              have ZB := hid_ (And.intro zb0 zb1)
              clear z0 z1 z2 zb0 zb1
              have FX2 := hid_ (FX.out.bel BW2.out)
              go_wp2_with fail
              go_loopw [21, 22] (fun v i wq => ∃ q : Nat, q ≤ nx ∧ i = .int .i64 q ∧ Hid (Own i64T wq W2.heap.size v (amts ((allS other legs).take q) ⟨g0, g1⟩)) ∧ Hid (Bel W2 wq)) (fun _ i _ => nx - (intOf i).toNat)
              case atStart => exact ⟨0, Nat.zero_le _, rfl, hid_ (Own.nil_ _ _ _), hid_ (Bel.refl _)⟩
              case round =>
                obtain ⟨q, hq, rfl, hOq, hBq⟩ := hrel
                by_cases hqn : q < nx
                · obtain ⟨adx, k0, k1, k2, rfl, hox, c0, c1, c2⟩ := (FX2.out.bel hBq.out).leg hqn
                  have HOX := hid_ (amts_step hox ⟨g0, g1⟩)
                  have zc0 := hBq.out.cell_ ZB.out.1
                  have zc1 := hBq.out.cell_ ZB.out.2
                  have i2 : (0 : Int) ≤ (q : Int) := by omega
                  have i3 : (q : Int) < (nx : Int) := by omega
                  have HQQ := hid_ (And.intro hq hqn)
                  clear hox hq hqn
                  obtain ⟨e1, he1⟩ : ∃ e1, (k0.toList == g0.toList) = e1 := ⟨_, rfl⟩
                  obtain ⟨e2, he2⟩ : ∃ e2, (k1.toList == g1.toList) = e2 := ⟨_, rfl⟩
                  have h1 := he1
                  have h2 := he2
                  rw [bytesEq] at h1 h2
                  have HEQ : Hid ((e1 && e2) = decide ((⟨k0, k1⟩ : Plc) = ⟨g0, g1⟩)) := hid_ (by rw [← h1, ← h2, ← Bool.decide_and]; simp only [Plc.mk.injEq])
                  have HLN : Hid ((amts ((allS other legs).take q) ⟨g0, g1⟩).length ≤ 200) := hid_ (by
                    have a1 := amts_len ((allS other legs).take q) ⟨g0, g1⟩
                    have a2 : ((allS other legs).take q).length ≤ q := by rw [List.length_take]; omega
                    have a3 := HNX.out
                    have a4 := HQQ.out
                    omega)
                  clear h1 h2
                  cases e1
                  · have HN : Hid (amts ((allS other legs).take (q + 1)) ⟨g0, g1⟩ = amts ((allS other legs).take q) ⟨g0, g1⟩) := hid_ (by rw [HOX.out, if_neg (fun e => by have := HEQ.out; rw [decide_eq_true (show (⟨k0, k1⟩ : Plc) = ⟨g0, g1⟩ from e)] at this; cases this), List.append_nil])
                    go_upto_region 25 with (fail)
                    go_quiet (fail)
                    obtain ⟨W5, hW5, hb5⟩ : ∃ W5, wr.drewN nq = W5 ∧ Bel wr W5 := ⟨_, rfl, (Bel.refl wr).drewN _⟩
                    rw [hW5]
                    have O5 := hid_ (hOq.out.bel hb5)
                    have B5 := hid_ (hBq.out.trans hb5)
                    clear hW5 hb5 hOq hBq c0 c1 c2 zc0 zc1 he1 he2
                    go_wp2
                    case roundEnd =>
                      go_roundw
                      case rel => exact ⟨q + 1, HQQ.out.2, by go_num, hid_ (by rw [HN.out]; exact O5.out), B5⟩
                      case measure => have := HQQ.out.2; simp [intOf]; omega
                  · cases e2
                    · have HN : Hid (amts ((allS other legs).take (q + 1)) ⟨g0, g1⟩ = amts ((allS other legs).take q) ⟨g0, g1⟩) := hid_ (by rw [HOX.out, if_neg (fun e => by have := HEQ.out; rw [decide_eq_true (show (⟨k0, k1⟩ : Plc) = ⟨g0, g1⟩ from e)] at this; cases this), List.append_nil])
                      go_upto_region 25 with (fail)
                      go_quiet (fail)
                      obtain ⟨W5, hW5, hb5⟩ : ∃ W5, wr.drewN nq = W5 ∧ Bel wr W5 := ⟨_, rfl, (Bel.refl wr).drewN _⟩
                      rw [hW5]
                      have O5 := hid_ (hOq.out.bel hb5)
                      have B5 := hid_ (hBq.out.trans hb5)
                      clear hW5 hb5 hOq hBq c0 c1 c2 zc0 zc1 he1 he2
                      go_wp2
                      case roundEnd =>
                        go_roundw
                        case rel => exact ⟨q + 1, HQQ.out.2, by go_num, hid_ (by rw [HN.out]; exact O5.out), B5⟩
                        case measure => have := HQQ.out.2; simp [intOf]; omega
                    · have HN : Hid (amts ((allS other legs).take (q + 1)) ⟨g0, g1⟩ = amts ((allS other legs).take q) ⟨g0, g1⟩ ++ [k2]) := hid_ (by rw [HOX.out, if_pos]; exact of_decide_eq_true HEQ.out.symm)
                      go_upto_region 25 with (fail)
                      go_quiet (fail)
                      obtain ⟨W5, hW5, hb5⟩ : ∃ W5, wr.drewN nq = W5 ∧ Bel wr W5 := ⟨_, rfl, (Bel.refl wr).drewN _⟩
                      rw [hW5]
                      have O5 := hid_ (hOq.out.bel hb5)
                      have B5 := hid_ (hBq.out.trans hb5)
                      have c2 := hb5.cell_ c2
                      clear hW5 hb5 hOq hBq c0 c1 zc0 zc1 he1 he2
                      go_wp2_with (at_builtin; refine wpApp (w0 := W2) i64S rfl _ _ rfl _ (amts ((allS other legs).take q) ⟨g0, g1⟩) [k2] (some ⟨W5.heap.size, 0, none⟩) 1 1 rfl rfl (O5.out.alloc_ _) (Row.one (T := i64T) k2 rfl rfl) (B5.out.alloc _) (by have := HLN.out; omega) ?_; intro v1 x1 hO1 hb1 hg1 hat1)
                      case roundEnd =>
                        go_roundw
                        case rel => exact ⟨q + 1, HQQ.out.2, by go_num, hid_ (by rw [HN.out]; exact hO1), hid_ hb1⟩
                        case measure => have := HQQ.out.2; simp [intOf]; omega
                · obtain rfl : nx = q := by omega
                  have hO2 := hOq.out
                  rw [show (allS other legs).take nx = allS other legs from List.take_of_length_le (by rw [FX2.out.1]; exact Nat.le_refl _)] at hO2
                  have HLN : Hid ((amts (allS other legs) ⟨g0, g1⟩).length ≤ 200) := hid_ (by
                    have a1 := amts_len (allS other legs) ⟨g0, g1⟩
                    have a3 := HNX.out
                    have a4 := FX2.out.1
                    omega)
                  have HX2 : Hid (i64w x2) := hid_ (by have := HXB.out; exact this)
                  have OQ := hid_ hO2
                  have KA3 := hid_ (KA2.out.bel hBq.out)
                  have KC3 := hid_ (KC.out.bel hBq.out)
                  have ka2 := KA3.out.cell 2 rfl
                  clear hOq hO2 hqn hq
                  go_wp2_with (at_builtin; refine wpApp (w0 := W2) i64S rfl _ _ rfl _ (amts (allS other legs) ⟨g0, g1⟩) [x2] (some ⟨wr.heap.size, 0, none⟩) 1 1 rfl rfl (OQ.out.alloc_ _) (Row.one (T := i64T) x2 rfl rfl) (hBq.out.alloc _) (by have := HLN.out; omega) ?_; intro v1 x1 hO1 hb1 hg1 hat1)
                  obtain ⟨Y, ky, rfl, hky, ry⟩ := hO1.reads
                  have RY := hid_ ry
                  have HB1 := hid_ hb1
                  clear hO1 hb1 hg1 hat1 hky ry ka2
                  refine (sum_any Y _ ky (amts (allS other legs) ⟨g0, g1⟩ ++ [x2]) x1 RY.out (by have := HLN.out; simp; omega) (fun x hx => by
                    rcases List.mem_append.1 hx with hx | hx
                    · exact amts_i64 (fun x hx => (HZX.out x hx).2.2) _ x hx
                    · simp at hx; subst hx; exact HX2.out)).mono ?_
                  rintro e W6 ⟨rfl, b6⟩
                  rw [HS.out.1, HS.out.2]
                  have KA4 := hid_ (KA2.out.bel (HB1.out.trans b6))
                  have KC4 := hid_ (KC.out.bel (HB1.out.trans b6))
                  have B6 := hid_ (HB0.out.trans (BW2.out.trans (HB1.out.trans b6)))
                  have qa2 := KA4.out.cell 2 rfl
                  have qa3 := KA4.out.cell 3 rfl
                  have qc2 := KC4.out.cell 2 rfl
                  have qc3 := KC4.out.cell 3 rfl
                  clear b6 RY HB1 hBq KA3 KC3
                  go_wp2
                  case roundEnd =>
                    go_roundw
                    case rel => exact ⟨j + 1, by omega, by go_num, B6⟩
                    case measure => simp [intOf]; omega
        · obtain rfl : m = j := by omega
          have HBF := hid_ (F6B.out.trans hBr.out)
          clear hBr hjm hj
          go_wp2
          go_ret
          exact ⟨rfl, HBF.out⟩
end Go.Proofs.Ytgnninpfhnpjoaa
