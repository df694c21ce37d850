/- AccountOrder, walked. -/
import Derived.Test.YtgnninpfhnpjoaaAw11
import Derived.Test.YtgnninpfhnpjoaaAcS
import Derived.Test.YtgnninpfhnpjoaaFew11
import Derived.Test.YtgnninpfhnpjoaaSameAcc
import Derived.Test.YtgnninpfhnpjoaaOpAcc
import Derived.Test.YtgnninpfhnpjoaaOpLeg
set_option linter.unusedSimpArgs false
set_option linter.unusedVariables false
namespace Go.Proofs.Ytgnninpfhnpjoaa
open Go.RowKit Go.Lib
theorem i64w_wf {x : Int} (h : (Lit.int .i64 x).wf = true) : i64w x := by
  simp [Lit.wf, IntKind.min, IntKind.max, IntKind.signed, IntKind.bits] at h
  exact h
theorem i32w_wf {x : Int} (h : (Lit.int .i32 x).wf = true) : -2147483648 ≤ x ∧ x ≤ 2147483647 := by
  simp [Lit.wf, IntKind.min, IntKind.max, IntKind.signed, IntKind.bits] at h
  exact h
set_option maxRecDepth 10000 in
set_option maxHeartbeats 4000000 in
theorem walkAccountOrder (w : World) (A : Option Addr) (n c : Nat) (l : List Acc) (ha : n ≤ c ∧ Row accT w A n l ∧ ∀ x ∈ l, accWf x) (B : Option Addr) (m d : Nat) (legs : List Due) (hb : m ≤ d ∧ Row legT w B m legs ∧ ∀ x ∈ legs, legWf x) (at_ : Int) (wt : (Lit.int .i64 at_).wf = true) (part : Int) (wp : (Lit.int .i32 part).wf = true) : Calls Try.prog 13 #[.slice A n c, .slice B m d, .int .i64 at_, .int .i32 part] w fun e w' => e = .returned (.bool true) ∧ Bel w w' := by
  obtain ⟨hnc, hA, hwa⟩ := ha
  obtain ⟨hmd, hB, hwb⟩ := hb
  have hm63 := hB.2.1
  have HMD := hid_ hmd
  have HWA := hid_ hwa
  have HWB := hid_ hwb
  have HLA := hid_ hA.1
  have HLB := hid_ hB.1
  have FA := hid_ hA
  have FL := hid_ hB
  have FB := hid_ (Bel.refl w)
  have hAt := i64w_wf wt
  have HPT := hid_ (i32w_wf wp)
  clear hA hB hwa hwb hnc hmd wt wp
  unfold i64w at hAt
  go_enter Try.func13, Try.ntmps13
  go_wp2_with fail
  refine (awake11 _).mono ?_
  rintro e v1 ⟨rfl, b⟩
  have bb := b
  have f1A := hid_ (FA.out.bel bb)
  have f1L := hid_ (FL.out.bel bb)
  have f1B := hid_ (FB.out.trans bb)
  clear b bb FA FL FB
  go_wp2_with fail
  refine (few11_any A n c l B m d legs _ f1A.out f1L.out).mono ?_
  rintro e v2 ⟨rfl, b⟩
  have bb := b
  have f2A := hid_ (f1A.out.bel bb)
  have f2L := hid_ (f1L.out.bel bb)
  have f2B := hid_ (f1B.out.trans bb)
  clear b bb f1A f1L f1B
  obtain ⟨fb, hfb⟩ : ∃ fb, few11 l legs = fb := ⟨_, rfl⟩
  rw [hfb]
  cases fb
  · clear hfb
    go_wp2
    go_ret
    exact ⟨rfl, f2B.out⟩
  have HQ := hid_ (few11_iff.1 hfb)
  clear hfb
  by_cases h1 : 100 < m
  · skip
    go_wp2
    go_ret
    exact ⟨rfl, f2B.out⟩
  have d1 : decide (100 < m) = false := decide_eq_false h1
  have HM : Hid (m ≤ 100) := hid_ (by omega)
  by_cases hm0 : m = 0
  · subst hm0
    go_wp2
    go_ret
    exact ⟨rfl, f2B.out⟩
  have hm1 : (m == 0) = false := by simp [hm0]
  go_wp2_with fail
  refine (checkA_any A n c l _ f2A.out (fun a ha => by have := HQ.out.2.2.1 a ha; omega)).mono ?_
  rintro e v3 ⟨rfl, b⟩
  have bb := b
  have f3A := hid_ (f2A.out.bel bb)
  have f3L := hid_ (f2L.out.bel bb)
  have f3B := hid_ (f2B.out.trans bb)
  clear b bb f2A f2L f2B
  clear d1 h1 hm1
  obtain ⟨ok, hok⟩ : ∃ ok, okL l = ok := ⟨_, rfl⟩
  cases ok
  · rw [show chkAE l = 110 by unfold chkAE; rw [hok]; rfl]
    clear hok
    go_wp2
    go_ret
    exact ⟨rfl, f3B.out⟩
  rw [show chkAE l = 0 by unfold chkAE; rw [hok]; rfl]
  have HOK := hid_ (okL_iff.1 hok)
  clear hok
  by_cases hneg : at_ < 0
  · have hs1 : wrap64 (at_ + 1) = at_ + 1 := by unfold wrap64; omega
    have hs2 : wrap64 (-(at_ + 1)) = -(at_ + 1) := by unfold wrap64; omega
    obtain ⟨t, ht⟩ : ∃ t : Nat, -(at_ + 1) = (t : Int) := ⟨(-(at_ + 1)).toNat, by omega⟩
    rw [ht] at hs2
    obtain ⟨k, hk⟩ : ∃ k, t % m = k := ⟨_, rfl⟩
    have hkm : k < m := by rw [← hk]; exact Nat.mod_lt _ (by omega)
    have hmod1 : (t : Int).tmod (m : Int) = (k : Int) := by rw [← hk]; rfl
    have hmod2 : (t : Int) % (m : Int) = (k : Int) := by rw [← hk]; rfl
    have hz : ((m : Int) == 0) = false := by simp; omega
    clear hk
    have HKM := hid_ hkm
    go_upto_region 7 with (fail)
    obtain ⟨W0, hW0⟩ : ∃ W0, v3 = W0 := ⟨_, rfl⟩
    rw [hW0] at f3A f3L f3B ⊢
    clear hW0 hmod1 hmod2 hz
    obtain ⟨A', hcut, hrow⟩ := legS.cutFrom (P := Try.prog) .i64 B m d k (by omega) HMD.out
    have hcut2 := fun W => legS.cutTo (P := Try.prog) .i64 B m d k (by have := HMD.out; omega) W
    have ra := hid_ (hrow _ _ f3L.out)
    have rt := hid_ (f3L.out.take_ (show k ≤ m by omega))
    have HLD : Hid ((legs.drop k).length = m - k ∧ (legs.take k).length = k) := hid_ ⟨by rw [List.length_drop, HLB.out], by rw [List.length_take, HLB.out]; omega⟩
    have hKP : ∀ W, Bel W0 W → (fun W => Bel W0 W) W := fun W b => b
    have HKP := hid_ hKP
    clear hKP hrow hkm
    go_region_held3 (fun W => Bel W0 W) ((refine HKP.out _ ?_; repeat first | with_reducible exact Bel.refl _ | with_reducible exact hb1 | with_reducible exact hb3 | with_reducible apply Bel.drew | with_reducible apply Bel.alloc))
      (first | (refine stepApp (w0 := W0) legS rfl _ _ rfl _ [] ((legs.drop k)) (A') (m - k) (d - k) rfl rfl ((Own.litE (T := legT) W0 W0.heap.size _ 52 rfl rfl (Nat.le_refl _)).bel (by repeat first | with_reducible exact Bel.refl _ | with_reducible apply Bel.drew | with_reducible apply Bel.alloc)) (ra.out.bel (by repeat first | with_reducible exact Bel.refl _ | with_reducible apply Bel.drew | with_reducible apply Bel.alloc)) (by repeat first | with_reducible exact Bel.refl _ | with_reducible apply Bel.drew | with_reducible apply Bel.alloc) (by have h1 := HLD.out; have h2 := HM.out; have h3 := HKM.out; simp only [List.length_append, List.length_nil, h1.1, h1.2]; omega) ?_; intro v1 x1 hO1 hb1 hg1 hat1) | (refine stepApp (w0 := W0) legS rfl _ _ rfl _ [] ((legs.drop k)) (A') (m - k) (d - k) rfl rfl ((Own.litE (T := legT) (W0.alloc (.cells #[] 52)) W0.heap.size (W0.heap.size + 1) 52 rfl (sizeAl _ _).symm (by rw [sizeAl]; omega)).bel (by repeat first | with_reducible exact Bel.refl _ | with_reducible apply Bel.drew | with_reducible apply Bel.alloc)) (ra.out.bel (by repeat first | with_reducible exact Bel.refl _ | with_reducible apply Bel.drew | with_reducible apply Bel.alloc)) (by repeat first | with_reducible exact Bel.refl _ | with_reducible apply Bel.drew | with_reducible apply Bel.alloc) (by have h1 := HLD.out; have h2 := HM.out; have h3 := HKM.out; simp only [List.length_append, List.length_nil, h1.1, h1.2]; omega) ?_; intro v1 x1 hO1 hb1 hg1 hat1) | (refine stepApp (w0 := W0) legS rfl _ _ rfl v1 ([] ++ (legs.drop k)) ((legs.take k)) (B) (k) (d) rfl rfl hO1 (rt.out.bel hb1) hb1 (by have h1 := HLD.out; have h2 := HM.out; have h3 := HKM.out; simp only [List.length_append, List.length_nil, h1.1, h1.2]; omega) ?_; intro v3 x3 hO3 hb3 hg3 hat3))
    have hO3 : Own legT x3 W0.heap.size v3 (turnL legs k) := hO3
    obtain ⟨A9, c9, rfl, hc9, r9⟩ := hO3.reads
    rw [turn_len, HLB.out] at r9 hc9 ⊢
    have R9 := hid_ r9
    have C9 := hid_ hc9
    have A3 := hid_ (f3A.out.bel hb3)
    have L3 := hid_ (f3L.out.bel hb3)
    have B3 := hid_ (f3B.out.trans hb3)
    clear hO1 hb1 hg1 hat1 hO3 hb3 hg3 hat3 r9 hc9 HKP ra rt hcut hcut2 HLD f3A f3L f3B

    obtain ⟨g9, ad0, y0, y1, y2, rfl, ho, z0, z1, z2⟩ : ∃ (ad : Addr) (ad0 : Unit) (g0 g1 : ByteArray) (g2 : Int), A9 = some ad ∧ (turnL legs k)[0]? = some ⟨g0, g1, g2⟩ ∧ x3.cell? (ad.add (0 * 3)) = some (.string g0) ∧ x3.cell? ⟨(ad.add (0 * 3)).block, (ad.add (0 * 3)).off + 1, none⟩ = some (.string g1) ∧ x3.cell? ⟨(ad.add (0 * 3)).block, (ad.add (0 * 3)).off + 2, none⟩ = some (.int .i64 g2) := by
      obtain ⟨ad, g0, g1, g2, e, ho, z0, z1, z2⟩ := R9.out.leg (show 0 < m by omega)
      exact ⟨ad, (), g0, g1, g2, e, ho, z0, z1, z2⟩
    clear hO3
    have hadd : g9.add (0 * 3) = g9 := by unfold Addr.add; simp
    rw [hadd] at z0 z1 z2
    clear hadd
    have HO := hid_ ho
    clear ho
    have kX := hid_ (Bx.new x3 52 [.string y0, .string y1, .int .i64 y2])
    have A4 := hid_ (A3.out.bel ((Bel.refl x3).alloc (.cells #[.string y0, .string y1, .int .i64 y2] 52)))
    have L4 := hid_ (L3.out.bel ((Bel.refl x3).alloc (.cells #[.string y0, .string y1, .int .i64 y2] 52)))
    have B4 := hid_ (B3.out.alloc (.cells #[.string y0, .string y1, .int .i64 y2] 52))
    have R4 := hid_ (R9.out.bel ((Bel.refl x3).alloc (.cells #[.string y0, .string y1, .int .i64 y2] 52)))
    clear A3 L3 B3 R9
    by_cases q1 : (4611686018427387904 : Int) < y2
    · go_wp2
      go_ret
      exact ⟨rfl, B4.out⟩
    have dq1 : decide ((4611686018427387904 : Int) < y2) = false := decide_eq_false q1
    by_cases q2 : y2 < (-4611686018427387904 : Int)
    · go_wp2
      go_ret
      exact ⟨rfl, B4.out⟩
    have dq2 : decide (y2 < (-4611686018427387904 : Int)) = false := decide_eq_false q2
    go_upto_region 11 with (fail)
    generalize x3.alloc (.cells #[.string y0, .string y1, .int .i64 y2] 52) = W1 at kX A4 L4 B4 R4 ⊢
    generalize x3.heap.size = gX at kX ⊢
    clear z0 z1 z2 dq1 dq2
    have c0 := kX.out.cell 0 rfl
    have c1 := kX.out.cell 1 rfl
    have c2 := kX.out.cell 2 rfl
    have hw : IntKind.i64.wrap part = part := by have := HPT.out; rw [IntKind.wrap_i64]; omega
    have hy : IntKind.i64.wrap (y2 - IntKind.i64.wrap part) = y2 - part := by rw [hw]; have := HPT.out; rw [IntKind.wrap_i64]; omega
    have HY := hid_ (And.intro hy (And.intro hw (And.intro q1 q2)))
    clear hy hw q1 q2
    obtain ⟨A'', hcut, hrow⟩ := legS.cutFrom (P := Try.prog) .i64 (some g9) m c9 1 (by have := HKM.out; omega) C9.out
    simp only [show ((1 : Nat) : Int) = 1 from rfl] at hcut
    have ra := hid_ (hrow _ _ R4.out)
    have HT : Hid (turnL legs k = ⟨y0, y1, y2⟩ :: (turnL legs k).drop 1) := hid_ (by have h := HO.out; cases e : turnL legs k with | nil => rw [e] at h; cases h | cons a b => rw [e] at h; simp at h; rw [h]; rfl)
    have HLD : Hid (((turnL legs k).drop 1).length = m - 1) := hid_ (by rw [List.length_drop, turn_len, HLB.out])
    clear hrow
    have HOL : Hid (Own legT (W1.alloc (.cells #[.string y0, .string y1, .int .i64 (IntKind.i64.wrap (y2 - IntKind.i64.wrap part)), .string y0, .string y1, .int .i64 (IntKind.i64.wrap part)] 52)) W1.heap.size (.slice (some ⟨W1.heap.size, 0, none⟩) 2 2) [⟨y0, y1, IntKind.i64.wrap (y2 - IntKind.i64.wrap part)⟩, ⟨y0, y1, IntKind.i64.wrap part⟩]) := hid_ (Own.lit (T := legT) W1 W1.heap.size [⟨y0, y1, IntKind.i64.wrap (y2 - IntKind.i64.wrap part)⟩, ⟨y0, y1, IntKind.i64.wrap part⟩] (Nat.le_refl _) (by simp))
    have hKP : ∀ W, Bel W1 W → (fun W => Bel W1 W ∧ W.cell? ⟨gX, 0, none⟩ = some (.string y0) ∧ W.cell? ⟨gX, 1, none⟩ = some (.string y1) ∧ W.cell? ⟨gX, 2, none⟩ = some (.int .i64 y2)) W := fun W b => ⟨b, b.cell_ c0, b.cell_ c1, b.cell_ c2⟩
    have HKP := hid_ hKP
    clear hKP
    go_region_held3 (fun W => Bel W1 W ∧ W.cell? ⟨gX, 0, none⟩ = some (.string y0) ∧ W.cell? ⟨gX, 1, none⟩ = some (.string y1) ∧ W.cell? ⟨gX, 2, none⟩ = some (.int .i64 y2)) ((refine HKP.out _ ?_; repeat first | with_reducible exact Bel.refl _ | with_reducible exact hb3 | with_reducible apply Bel.drew | with_reducible apply Bel.alloc))
      (first | (refine stepApp (w0 := W1) legS rfl _ _ rfl _ [⟨y0, y1, IntKind.i64.wrap (y2 - IntKind.i64.wrap part)⟩, ⟨y0, y1, IntKind.i64.wrap part⟩] ((turnL legs k).drop 1) A'' (m - 1) (c9 - 1) rfl rfl (HOL.out.bel (by repeat first | with_reducible exact Bel.refl _ | with_reducible apply Bel.drew | with_reducible apply Bel.alloc)) (ra.out.bel (by repeat first | with_reducible exact Bel.refl _ | with_reducible apply Bel.drew | with_reducible apply Bel.alloc)) (by repeat first | with_reducible exact Bel.refl _ | with_reducible apply Bel.drew | with_reducible apply Bel.alloc) (by have h1 := HLD.out; have h2 := HM.out; simp; omega) ?_; intro v3 x4 hO3 hb3 hg3 hat3))
    have hO3 : Own legT x4 W1.heap.size v3 (partsL ⟨y0, y1, y2⟩ part ((turnL legs k).drop 1)) := by rw [HY.out.1, HY.out.2.1] at hO3; exact hO3
    obtain ⟨Ap, cp, rfl, hcp, rp⟩ := hO3.reads
    have HLP : Hid ((partsL ⟨y0, y1, y2⟩ part ((turnL legs k).drop 1)).length = m + 1) := hid_ (by have := HLD.out; have := HKM.out; unfold partsL; simp only [List.length_cons]; omega)
    rw [HLP.out] at rp ⊢
    have RP := hid_ rp
    have A5 := hid_ (A4.out.bel hb3)
    have L5 := hid_ (L4.out.bel hb3)
    have B5 := hid_ (B4.out.trans hb3)
    have R5 := hid_ (R4.out.bel hb3)
    clear hO3 hcp rp hb3 hg3 hat3 HKP ra hcut c0 c1 c2 kX A4 L4 B4 R4
    have HPT2 := hid_ (post_turn l legs k)
    have HPP := hid_ (post_parts l ⟨y0, y1, y2⟩ part ((turnL legs k).drop 1) (by have h1 := HLD.out; have h2 := HM.out; omega))
    have HWL : Hid (∀ a ∈ l, i64w a.balance) := hid_ (fun a ha => i64w_wf (HWA.out a ha).2.2.1)
    have HN2 : Hid (n ≤ 200) := hid_ (by have := HQ.out.1; rw [HLA.out] at this; exact this)
    have HZL : Hid (∀ x ∈ legs, x.who.size ≤ 9223372036854775807 ∧ x.asset.size ≤ 9223372036854775807 ∧ i64w x.amount) := hid_ (fun x hx => ⟨by have := HQ.out.2.2.2 x hx; omega, by have := HQ.out.2.2.2 x hx; omega, i64w_wf (HWB.out x hx).2.2⟩)
    have HZT : Hid (∀ x ∈ turnL legs k, x.who.size ≤ 9223372036854775807 ∧ x.asset.size ≤ 9223372036854775807 ∧ i64w x.amount) := hid_ (fun x hx => HZL.out x (by unfold turnL at hx; rcases List.mem_append.1 hx with h | h; exact List.mem_of_mem_drop h; exact List.mem_of_mem_take h))
    have HZP : Hid (∀ x ∈ partsL ⟨y0, y1, y2⟩ part ((turnL legs k).drop 1), x.who.size ≤ 9223372036854775807 ∧ x.asset.size ≤ 9223372036854775807 ∧ i64w x.amount) := hid_ (by
      intro x hx
      have h0 := HZT.out ⟨y0, y1, y2⟩ (by rw [HT.out]; exact List.mem_cons_self ..)
      have hp := HPT.out
      have hy := HY.out.2.2
      unfold partsL at hx
      rcases List.mem_cons.1 hx with rfl | hx
      · exact ⟨h0.1, h0.2.1, by show i64w (y2 - part); unfold i64w; omega⟩
      · rcases List.mem_cons.1 hx with rfl | hx
        · exact ⟨h0.1, h0.2.1, by show i64w part; unfold i64w; omega⟩
        · exact HZT.out x (List.mem_of_mem_drop hx))
    obtain ⟨pe, hpe⟩ : ∃ pe, postE l legs = pe := ⟨_, rfl⟩
    obtain ⟨po, hpo⟩ : ∃ po, postO l legs = po := ⟨_, rfl⟩
    have HPE := hid_ (And.intro hpe hpo)
    clear hpe hpo
    go_wp2_with fail
    refine (post_any A n c l B m d legs _ A5.out HOK.out.srt (Nat.le_trans HN2.out (by decide)) L5.out HZL.out HWL.out).mono ?_
    rintro e w6 ⟨v, rfl, o, b⟩
    rw [HPE.out.1]
    rw [HPE.out.2] at o
    obtain ⟨Q5, cq5, rfl, _, r⟩ := o.reads
    have S5 := hid_ r
    have A6 := hid_ (A5.out.bel b)
    have B6 := hid_ (B5.out.trans b)
    have R6 := hid_ (R5.out.bel b)
    have RP6 := hid_ (RP.out.bel b)
    clear o r b A5 B5 L5 R5 RP
    go_wp2_with fail
    refine (post_any A n c l (some g9) m c9 (turnL legs k) _ A6.out HOK.out.srt (Nat.le_trans HN2.out (by decide)) R6.out HZT.out HWL.out).mono ?_
    rintro e w7 ⟨v, rfl, o, b⟩
    rw [← HPT2.out.1, HPE.out.1]
    rw [← HPT2.out.2, HPE.out.2] at o
    obtain ⟨Q6, cq6, rfl, _, r⟩ := o.reads
    have S6 := hid_ r
    have A7 := hid_ (A6.out.bel b)
    have B7 := hid_ (B6.out.trans b)
    have S56 := hid_ (S5.out.bel b)
    have RP7 := hid_ (RP6.out.bel b)
    clear o r b A6 B6 R6 RP6 S5
    go_wp2_with fail
    refine (post_any A n c l Ap (m + 1) cp (partsL ⟨y0, y1, y2⟩ part ((turnL legs k).drop 1)) _ A7.out HOK.out.srt (Nat.le_trans HN2.out (by decide)) RP7.out HZP.out HWL.out).mono ?_
    rintro e w8 ⟨v, rfl, o, b⟩
    rw [← HPP.out.1, ← HT.out, ← HPT2.out.1, HPE.out.1]
    rw [← HPP.out.2, ← HT.out, ← HPT2.out.2, HPE.out.2] at o
    obtain ⟨Q7, cq7, rfl, _, r⟩ := o.reads
    have S7 := hid_ r
    have A8 := hid_ (A7.out.bel b)
    have B8 := hid_ (B7.out.trans b)
    have S57 := hid_ (S56.out.bel b)
    have S67 := hid_ (S6.out.bel b)
    clear o r b A7 B7 RP7 S56 S6
    go_wp2_with fail
    refine (sameAcc_any Q5 _ cq5 po Q6 _ cq6 po w8 S57.out S67.out).mono ?_
    rintro e w9 ⟨rfl, b⟩
    rw [eqB_1 (rfl : po = po)]
    have S58 := hid_ (S57.out.bel b)
    have S78 := hid_ (S7.out.bel b)
    have B9 := hid_ (B8.out.trans b)
    clear b S57 S67 S7 B8
    go_wp2_with fail
    refine (sameAcc_any Q5 _ cq5 po Q7 _ cq7 po w9 S58.out S78.out).mono ?_
    rintro e w10 ⟨rfl, b⟩
    rw [eqB_1 (rfl : po = po)]
    have B10 := hid_ (B9.out.trans b)
    clear b S58 S78 B9
    go_wp2
    go_ret
    exact ⟨rfl, B10.out⟩
  · obtain ⟨t, rfl⟩ : ∃ t : Nat, at_ = (t : Int) := ⟨at_.toNat, by omega⟩
    have dn : decide ((t : Int) < 0) = false := by simp
    obtain ⟨k, hk⟩ : ∃ k, t % m = k := ⟨_, rfl⟩
    have hkm : k < m := by rw [← hk]; exact Nat.mod_lt _ (by omega)
    have hmod1 : (t : Int).tmod (m : Int) = (k : Int) := by rw [← hk]; rfl
    have hmod2 : (t : Int) % (m : Int) = (k : Int) := by rw [← hk]; rfl
    have hz : ((m : Int) == 0) = false := by simp; omega
    clear hk
    have HKM := hid_ hkm
    go_upto_region 7 with (fail)
    obtain ⟨W0, hW0⟩ : ∃ W0, v3 = W0 := ⟨_, rfl⟩
    rw [hW0] at f3A f3L f3B ⊢
    clear hW0 hmod1 hmod2 hz
    obtain ⟨A', hcut, hrow⟩ := legS.cutFrom (P := Try.prog) .i64 B m d k (by omega) HMD.out
    have hcut2 := fun W => legS.cutTo (P := Try.prog) .i64 B m d k (by have := HMD.out; omega) W
    have ra := hid_ (hrow _ _ f3L.out)
    have rt := hid_ (f3L.out.take_ (show k ≤ m by omega))
    have HLD : Hid ((legs.drop k).length = m - k ∧ (legs.take k).length = k) := hid_ ⟨by rw [List.length_drop, HLB.out], by rw [List.length_take, HLB.out]; omega⟩
    have hKP : ∀ W, Bel W0 W → (fun W => Bel W0 W) W := fun W b => b
    have HKP := hid_ hKP
    clear hKP hrow hkm
    go_region_held3 (fun W => Bel W0 W) ((refine HKP.out _ ?_; repeat first | with_reducible exact Bel.refl _ | with_reducible exact hb1 | with_reducible exact hb3 | with_reducible apply Bel.drew | with_reducible apply Bel.alloc))
      (first | (refine stepApp (w0 := W0) legS rfl _ _ rfl _ [] ((legs.drop k)) (A') (m - k) (d - k) rfl rfl ((Own.litE (T := legT) W0 W0.heap.size _ 52 rfl rfl (Nat.le_refl _)).bel (by repeat first | with_reducible exact Bel.refl _ | with_reducible apply Bel.drew | with_reducible apply Bel.alloc)) (ra.out.bel (by repeat first | with_reducible exact Bel.refl _ | with_reducible apply Bel.drew | with_reducible apply Bel.alloc)) (by repeat first | with_reducible exact Bel.refl _ | with_reducible apply Bel.drew | with_reducible apply Bel.alloc) (by have h1 := HLD.out; have h2 := HM.out; have h3 := HKM.out; simp only [List.length_append, List.length_nil, h1.1, h1.2]; omega) ?_; intro v1 x1 hO1 hb1 hg1 hat1) | (refine stepApp (w0 := W0) legS rfl _ _ rfl _ [] ((legs.drop k)) (A') (m - k) (d - k) rfl rfl ((Own.litE (T := legT) (W0.alloc (.cells #[] 52)) W0.heap.size (W0.heap.size + 1) 52 rfl (sizeAl _ _).symm (by rw [sizeAl]; omega)).bel (by repeat first | with_reducible exact Bel.refl _ | with_reducible apply Bel.drew | with_reducible apply Bel.alloc)) (ra.out.bel (by repeat first | with_reducible exact Bel.refl _ | with_reducible apply Bel.drew | with_reducible apply Bel.alloc)) (by repeat first | with_reducible exact Bel.refl _ | with_reducible apply Bel.drew | with_reducible apply Bel.alloc) (by have h1 := HLD.out; have h2 := HM.out; have h3 := HKM.out; simp only [List.length_append, List.length_nil, h1.1, h1.2]; omega) ?_; intro v1 x1 hO1 hb1 hg1 hat1) | (refine stepApp (w0 := W0) legS rfl _ _ rfl v1 ([] ++ (legs.drop k)) ((legs.take k)) (B) (k) (d) rfl rfl hO1 (rt.out.bel hb1) hb1 (by have h1 := HLD.out; have h2 := HM.out; have h3 := HKM.out; simp only [List.length_append, List.length_nil, h1.1, h1.2]; omega) ?_; intro v3 x3 hO3 hb3 hg3 hat3))
    have hO3 : Own legT x3 W0.heap.size v3 (turnL legs k) := hO3
    obtain ⟨A9, c9, rfl, hc9, r9⟩ := hO3.reads
    rw [turn_len, HLB.out] at r9 hc9 ⊢
    have R9 := hid_ r9
    have C9 := hid_ hc9
    have A3 := hid_ (f3A.out.bel hb3)
    have L3 := hid_ (f3L.out.bel hb3)
    have B3 := hid_ (f3B.out.trans hb3)
    clear hO1 hb1 hg1 hat1 hO3 hb3 hg3 hat3 r9 hc9 HKP ra rt hcut hcut2 HLD f3A f3L f3B

    obtain ⟨g9, ad0, y0, y1, y2, rfl, ho, z0, z1, z2⟩ : ∃ (ad : Addr) (ad0 : Unit) (g0 g1 : ByteArray) (g2 : Int), A9 = some ad ∧ (turnL legs k)[0]? = some ⟨g0, g1, g2⟩ ∧ x3.cell? (ad.add (0 * 3)) = some (.string g0) ∧ x3.cell? ⟨(ad.add (0 * 3)).block, (ad.add (0 * 3)).off + 1, none⟩ = some (.string g1) ∧ x3.cell? ⟨(ad.add (0 * 3)).block, (ad.add (0 * 3)).off + 2, none⟩ = some (.int .i64 g2) := by
      obtain ⟨ad, g0, g1, g2, e, ho, z0, z1, z2⟩ := R9.out.leg (show 0 < m by omega)
      exact ⟨ad, (), g0, g1, g2, e, ho, z0, z1, z2⟩
    clear hO3
    have hadd : g9.add (0 * 3) = g9 := by unfold Addr.add; simp
    rw [hadd] at z0 z1 z2
    clear hadd
    have HO := hid_ ho
    clear ho
    have kX := hid_ (Bx.new x3 52 [.string y0, .string y1, .int .i64 y2])
    have A4 := hid_ (A3.out.bel ((Bel.refl x3).alloc (.cells #[.string y0, .string y1, .int .i64 y2] 52)))
    have L4 := hid_ (L3.out.bel ((Bel.refl x3).alloc (.cells #[.string y0, .string y1, .int .i64 y2] 52)))
    have B4 := hid_ (B3.out.alloc (.cells #[.string y0, .string y1, .int .i64 y2] 52))
    have R4 := hid_ (R9.out.bel ((Bel.refl x3).alloc (.cells #[.string y0, .string y1, .int .i64 y2] 52)))
    clear A3 L3 B3 R9
    by_cases q1 : (4611686018427387904 : Int) < y2
    · go_wp2
      go_ret
      exact ⟨rfl, B4.out⟩
    have dq1 : decide ((4611686018427387904 : Int) < y2) = false := decide_eq_false q1
    by_cases q2 : y2 < (-4611686018427387904 : Int)
    · go_wp2
      go_ret
      exact ⟨rfl, B4.out⟩
    have dq2 : decide (y2 < (-4611686018427387904 : Int)) = false := decide_eq_false q2
    go_upto_region 11 with (fail)
    generalize x3.alloc (.cells #[.string y0, .string y1, .int .i64 y2] 52) = W1 at kX A4 L4 B4 R4 ⊢
    generalize x3.heap.size = gX at kX ⊢
    clear z0 z1 z2 dq1 dq2
    have c0 := kX.out.cell 0 rfl
    have c1 := kX.out.cell 1 rfl
    have c2 := kX.out.cell 2 rfl
    have hw : IntKind.i64.wrap part = part := by have := HPT.out; rw [IntKind.wrap_i64]; omega
    have hy : IntKind.i64.wrap (y2 - IntKind.i64.wrap part) = y2 - part := by rw [hw]; have := HPT.out; rw [IntKind.wrap_i64]; omega
    have HY := hid_ (And.intro hy (And.intro hw (And.intro q1 q2)))
    clear hy hw q1 q2
    obtain ⟨A'', hcut, hrow⟩ := legS.cutFrom (P := Try.prog) .i64 (some g9) m c9 1 (by have := HKM.out; omega) C9.out
    simp only [show ((1 : Nat) : Int) = 1 from rfl] at hcut
    have ra := hid_ (hrow _ _ R4.out)
    have HT : Hid (turnL legs k = ⟨y0, y1, y2⟩ :: (turnL legs k).drop 1) := hid_ (by have h := HO.out; cases e : turnL legs k with | nil => rw [e] at h; cases h | cons a b => rw [e] at h; simp at h; rw [h]; rfl)
    have HLD : Hid (((turnL legs k).drop 1).length = m - 1) := hid_ (by rw [List.length_drop, turn_len, HLB.out])
    clear hrow
    have HOL : Hid (Own legT (W1.alloc (.cells #[.string y0, .string y1, .int .i64 (IntKind.i64.wrap (y2 - IntKind.i64.wrap part)), .string y0, .string y1, .int .i64 (IntKind.i64.wrap part)] 52)) W1.heap.size (.slice (some ⟨W1.heap.size, 0, none⟩) 2 2) [⟨y0, y1, IntKind.i64.wrap (y2 - IntKind.i64.wrap part)⟩, ⟨y0, y1, IntKind.i64.wrap part⟩]) := hid_ (Own.lit (T := legT) W1 W1.heap.size [⟨y0, y1, IntKind.i64.wrap (y2 - IntKind.i64.wrap part)⟩, ⟨y0, y1, IntKind.i64.wrap part⟩] (Nat.le_refl _) (by simp))
    have hKP : ∀ W, Bel W1 W → (fun W => Bel W1 W ∧ W.cell? ⟨gX, 0, none⟩ = some (.string y0) ∧ W.cell? ⟨gX, 1, none⟩ = some (.string y1) ∧ W.cell? ⟨gX, 2, none⟩ = some (.int .i64 y2)) W := fun W b => ⟨b, b.cell_ c0, b.cell_ c1, b.cell_ c2⟩
    have HKP := hid_ hKP
    clear hKP
    go_region_held3 (fun W => Bel W1 W ∧ W.cell? ⟨gX, 0, none⟩ = some (.string y0) ∧ W.cell? ⟨gX, 1, none⟩ = some (.string y1) ∧ W.cell? ⟨gX, 2, none⟩ = some (.int .i64 y2)) ((refine HKP.out _ ?_; repeat first | with_reducible exact Bel.refl _ | with_reducible exact hb3 | with_reducible apply Bel.drew | with_reducible apply Bel.alloc))
      (first | (refine stepApp (w0 := W1) legS rfl _ _ rfl _ [⟨y0, y1, IntKind.i64.wrap (y2 - IntKind.i64.wrap part)⟩, ⟨y0, y1, IntKind.i64.wrap part⟩] ((turnL legs k).drop 1) A'' (m - 1) (c9 - 1) rfl rfl (HOL.out.bel (by repeat first | with_reducible exact Bel.refl _ | with_reducible apply Bel.drew | with_reducible apply Bel.alloc)) (ra.out.bel (by repeat first | with_reducible exact Bel.refl _ | with_reducible apply Bel.drew | with_reducible apply Bel.alloc)) (by repeat first | with_reducible exact Bel.refl _ | with_reducible apply Bel.drew | with_reducible apply Bel.alloc) (by have h1 := HLD.out; have h2 := HM.out; simp; omega) ?_; intro v3 x4 hO3 hb3 hg3 hat3))
    have hO3 : Own legT x4 W1.heap.size v3 (partsL ⟨y0, y1, y2⟩ part ((turnL legs k).drop 1)) := by rw [HY.out.1, HY.out.2.1] at hO3; exact hO3
    obtain ⟨Ap, cp, rfl, hcp, rp⟩ := hO3.reads
    have HLP : Hid ((partsL ⟨y0, y1, y2⟩ part ((turnL legs k).drop 1)).length = m + 1) := hid_ (by have := HLD.out; have := HKM.out; unfold partsL; simp only [List.length_cons]; omega)
    rw [HLP.out] at rp ⊢
    have RP := hid_ rp
    have A5 := hid_ (A4.out.bel hb3)
    have L5 := hid_ (L4.out.bel hb3)
    have B5 := hid_ (B4.out.trans hb3)
    have R5 := hid_ (R4.out.bel hb3)
    clear hO3 hcp rp hb3 hg3 hat3 HKP ra hcut c0 c1 c2 kX A4 L4 B4 R4
    have HPT2 := hid_ (post_turn l legs k)
    have HPP := hid_ (post_parts l ⟨y0, y1, y2⟩ part ((turnL legs k).drop 1) (by have h1 := HLD.out; have h2 := HM.out; omega))
    have HWL : Hid (∀ a ∈ l, i64w a.balance) := hid_ (fun a ha => i64w_wf (HWA.out a ha).2.2.1)
    have HN2 : Hid (n ≤ 200) := hid_ (by have := HQ.out.1; rw [HLA.out] at this; exact this)
    have HZL : Hid (∀ x ∈ legs, x.who.size ≤ 9223372036854775807 ∧ x.asset.size ≤ 9223372036854775807 ∧ i64w x.amount) := hid_ (fun x hx => ⟨by have := HQ.out.2.2.2 x hx; omega, by have := HQ.out.2.2.2 x hx; omega, i64w_wf (HWB.out x hx).2.2⟩)
    have HZT : Hid (∀ x ∈ turnL legs k, x.who.size ≤ 9223372036854775807 ∧ x.asset.size ≤ 9223372036854775807 ∧ i64w x.amount) := hid_ (fun x hx => HZL.out x (by unfold turnL at hx; rcases List.mem_append.1 hx with h | h; exact List.mem_of_mem_drop h; exact List.mem_of_mem_take h))
    have HZP : Hid (∀ x ∈ partsL ⟨y0, y1, y2⟩ part ((turnL legs k).drop 1), x.who.size ≤ 9223372036854775807 ∧ x.asset.size ≤ 9223372036854775807 ∧ i64w x.amount) := hid_ (by
      intro x hx
      have h0 := HZT.out ⟨y0, y1, y2⟩ (by rw [HT.out]; exact List.mem_cons_self ..)
      have hp := HPT.out
      have hy := HY.out.2.2
      unfold partsL at hx
      rcases List.mem_cons.1 hx with rfl | hx
      · exact ⟨h0.1, h0.2.1, by show i64w (y2 - part); unfold i64w; omega⟩
      · rcases List.mem_cons.1 hx with rfl | hx
        · exact ⟨h0.1, h0.2.1, by show i64w part; unfold i64w; omega⟩
        · exact HZT.out x (List.mem_of_mem_drop hx))
    obtain ⟨pe, hpe⟩ : ∃ pe, postE l legs = pe := ⟨_, rfl⟩
    obtain ⟨po, hpo⟩ : ∃ po, postO l legs = po := ⟨_, rfl⟩
    have HPE := hid_ (And.intro hpe hpo)
    clear hpe hpo
    go_wp2_with fail
    refine (post_any A n c l B m d legs _ A5.out HOK.out.srt (Nat.le_trans HN2.out (by decide)) L5.out HZL.out HWL.out).mono ?_
    rintro e w6 ⟨v, rfl, o, b⟩
    rw [HPE.out.1]
    rw [HPE.out.2] at o
    obtain ⟨Q5, cq5, rfl, _, r⟩ := o.reads
    have S5 := hid_ r
    have A6 := hid_ (A5.out.bel b)
    have B6 := hid_ (B5.out.trans b)
    have R6 := hid_ (R5.out.bel b)
    have RP6 := hid_ (RP.out.bel b)
    clear o r b A5 B5 L5 R5 RP
    go_wp2_with fail
    refine (post_any A n c l (some g9) m c9 (turnL legs k) _ A6.out HOK.out.srt (Nat.le_trans HN2.out (by decide)) R6.out HZT.out HWL.out).mono ?_
    rintro e w7 ⟨v, rfl, o, b⟩
    rw [← HPT2.out.1, HPE.out.1]
    rw [← HPT2.out.2, HPE.out.2] at o
    obtain ⟨Q6, cq6, rfl, _, r⟩ := o.reads
    have S6 := hid_ r
    have A7 := hid_ (A6.out.bel b)
    have B7 := hid_ (B6.out.trans b)
    have S56 := hid_ (S5.out.bel b)
    have RP7 := hid_ (RP6.out.bel b)
    clear o r b A6 B6 R6 RP6 S5
    go_wp2_with fail
    refine (post_any A n c l Ap (m + 1) cp (partsL ⟨y0, y1, y2⟩ part ((turnL legs k).drop 1)) _ A7.out HOK.out.srt (Nat.le_trans HN2.out (by decide)) RP7.out HZP.out HWL.out).mono ?_
    rintro e w8 ⟨v, rfl, o, b⟩
    rw [← HPP.out.1, ← HT.out, ← HPT2.out.1, HPE.out.1]
    rw [← HPP.out.2, ← HT.out, ← HPT2.out.2, HPE.out.2] at o
    obtain ⟨Q7, cq7, rfl, _, r⟩ := o.reads
    have S7 := hid_ r
    have A8 := hid_ (A7.out.bel b)
    have B8 := hid_ (B7.out.trans b)
    have S57 := hid_ (S56.out.bel b)
    have S67 := hid_ (S6.out.bel b)
    clear o r b A7 B7 RP7 S56 S6
    go_wp2_with fail
    refine (sameAcc_any Q5 _ cq5 po Q6 _ cq6 po w8 S57.out S67.out).mono ?_
    rintro e w9 ⟨rfl, b⟩
    rw [eqB_1 (rfl : po = po)]
    have S58 := hid_ (S57.out.bel b)
    have S78 := hid_ (S7.out.bel b)
    have B9 := hid_ (B8.out.trans b)
    clear b S57 S67 S7 B8
    go_wp2_with fail
    refine (sameAcc_any Q5 _ cq5 po Q7 _ cq7 po w9 S58.out S78.out).mono ?_
    rintro e w10 ⟨rfl, b⟩
    rw [eqB_1 (rfl : po = po)]
    have B10 := hid_ (B9.out.trans b)
    clear b S58 S78 B9
    go_wp2
    go_ret
    exact ⟨rfl, B10.out⟩
end Go.Proofs.Ytgnninpfhnpjoaa
