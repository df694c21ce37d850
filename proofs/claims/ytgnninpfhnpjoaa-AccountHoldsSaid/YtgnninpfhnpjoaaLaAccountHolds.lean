/- AccountHolds, walked. -/
import Derived.Test.YtgnninpfhnpjoaaAw11
import Derived.Test.YtgnninpfhnpjoaaAcH
import Derived.Test.YtgnninpfhnpjoaaFew11
import Derived.Test.YtgnninpfhnpjoaaSameAcc
import Derived.Test.YtgnninpfhnpjoaaOpAcc
set_option linter.unusedSimpArgs false
set_option linter.unusedVariables false
namespace Go.Proofs.Ytgnninpfhnpjoaa
open Go.RowKit Go.Lib
theorem i64w_wf {x : Int} (h : (Lit.int .i64 x).wf = true) : i64w x := by
  simp [Lit.wf, IntKind.min, IntKind.max, IntKind.signed, IntKind.bits] at h
  exact h
theorem mem_at {l : List Acc} {k : Nat} {o : Acc} (h : l[k]? = some o) : o ∈ l := List.mem_of_getElem? h
theorem mvO_len (l : List Acc) (p : Plc) (m e d : Int) : (mvO l p m e d).length ≤ l.length + 1 := by
  unfold mvO
  split
  · exact with_len _ _
  · simp
theorem mvO_i64 {l : List Acc} (hs : Srt l) (hb : ∀ a ∈ l, -9223372036854775808 ≤ a.balance ∧ a.balance ≤ 9223372036854775807) (p : Plc) (m e d : Int) : ∀ a ∈ mvO l p m e d, -9223372036854775808 ≤ a.balance ∧ a.balance ≤ 9223372036854775807 := by
  intro a ha
  unfold mvO at ha
  split at ha
  · rcases mem_with hs ha with ⟨h, _⟩ | ⟨h, _⟩
    · exact hb a h
    · rw [h]; exact find_i64 hb p
  · cases ha
set_option maxRecDepth 10000 in
set_option maxHeartbeats 4000000 in
theorem walkAccountHolds (w : World) (A : Option Addr) (n c : Nat) (l : List Acc) (ha : n ≤ c ∧ Row accT w A n l ∧ ∀ x ∈ l, accWf x) (at_ : Int) (wt : (Lit.int .i64 at_).wf = true) (q : Int) (wq : (Lit.int .i64 q).wf = true) : Calls Try.prog 12 #[.slice A n c, .int .i64 at_, .int .i64 q] w fun e w' => e = .returned (.bool true) ∧ Bel w w' := by
  obtain ⟨hnc, hA, hwa⟩ := ha
  have HNC := hid_ hnc
  have HWA := hid_ hwa
  have HLA := hid_ hA.1
  have FA := hid_ hA
  have FB := hid_ (Bel.refl w)
  have hAt := i64w_wf wt
  have HQW := hid_ (i64w_wf wq)
  clear hA hwa hnc wt wq
  unfold i64w at hAt
  go_enter Try.func12, Try.ntmps12
  go_wp2_with fail
  refine (awake11 _).mono ?_
  rintro e v1 ⟨rfl, b⟩
  have bb := b
  have f1A := hid_ (FA.out.bel bb)
  have f1B := hid_ (FB.out.trans bb)
  clear b bb FA FB
  go_wp2_with fail
  refine (few11_any A n c l none 0 0 [] _ f1A.out (Row.none_ _ _ _)).mono ?_
  rintro e v2 ⟨rfl, b⟩
  have bb := b
  have f2A := hid_ (f1A.out.bel bb)
  have f2B := hid_ (f1B.out.trans bb)
  clear b bb f1A f1B
  obtain ⟨fb, hfb⟩ : ∃ fb, few11 l [] = fb := ⟨_, rfl⟩
  rw [hfb]
  cases fb
  · clear hfb
    go_wp2
    go_ret
    exact ⟨rfl, f2B.out⟩
  have HQ := hid_ (few11_iff.1 hfb)
  clear hfb
  go_wp2_with fail
  refine (checkA_any A n c l _ f2A.out (fun a ha => by have := HQ.out.2.2.1 a ha; omega)).mono ?_
  rintro e v3 ⟨rfl, b⟩
  have bb := b
  have f3A := hid_ (f2A.out.bel bb)
  have f3B := hid_ (f2B.out.trans bb)
  clear b bb f2A f2B
  obtain ⟨ok, hok⟩ : ∃ ok, okL l = ok := ⟨_, rfl⟩
  cases ok
  · rw [show chkAE l = 110 by unfold chkAE; rw [hok]; rfl]
    clear hok
    go_wp2
    go_ret
    exact ⟨rfl, f3B.out⟩
  rw [show chkAE l = 0 by unfold chkAE; rw [hok]; rfl]
  have HOK := hid_ (okL_iff.1 hok)
  clear hok
  by_cases hn0 : n = 0
  · subst hn0
    go_wp2
    go_ret
    exact ⟨rfl, f3B.out⟩
  have hn1 : (n == 0) = false := by simp [hn0]
  by_cases hneg : at_ < 0
  · have hs1 : wrap64 (at_ + 1) = at_ + 1 := by unfold wrap64; omega
    have hs2 : wrap64 (-(at_ + 1)) = -(at_ + 1) := by unfold wrap64; omega
    obtain ⟨t, ht⟩ : ∃ t : Nat, -(at_ + 1) = (t : Int) := ⟨(-(at_ + 1)).toNat, by omega⟩
    rw [ht] at hs2
    obtain ⟨k, hk⟩ : ∃ k, t % n = k := ⟨_, rfl⟩
    have hkn : k < n := by rw [← hk]; exact Nat.mod_lt _ (by omega)
    have hmod1 : (t : Int).tmod (n : Int) = (k : Int) := by rw [← hk]; rfl
    have hmod2 : (t : Int) % (n : Int) = (k : Int) := by rw [← hk]; rfl
    have hz : ((n : Int) == 0) = false := by simp; omega
    obtain ⟨ad, o0, o1, o2, o3, rfl, ho, d0, d1, d2, d3⟩ := f3A.out.acc hkn
    have HO := hid_ (mem_at ho)
    clear ho hk
    have i0 : (0 : Int) ≤ (k : Int) := by omega
    have i1 : (k : Int) < (n : Int) := by omega
    have kX := hid_ (Bx.new v3 49 [.string o0, .string o1, .int .i64 o2, .int .i64 o3])
    have HB4 := hid_ (f3B.out.alloc (.cells #[.string o0, .string o1, .int .i64 o2, .int .i64 o3] 49))
    have HA4 := hid_ (f3A.out.bel ((Bel.refl _).alloc (.cells #[.string o0, .string o1, .int .i64 o2, .int .i64 o3] 49)))
    by_cases hw : o0 = worldS
    · have qw : (o0.toList == ([119, 111, 114, 108, 100] : List UInt8)) = true := by rw [worldEq]; exact decide_eq_true hw
      clear hw
      go_wp2
      go_ret
      exact ⟨rfl, HB4.out⟩
    have qw : (o0.toList == ([119, 111, 114, 108, 100] : List UInt8)) = false := by rw [worldEq]; exact decide_eq_false hw
    have HW := hid_ hw
    clear hw
    go_wp2_with fail
    generalize v3.alloc (.cells #[.string o0, .string o1, .int .i64 o2, .int .i64 o3] 49) = w4 at kX HB4 HA4 ⊢
    generalize v3.heap.size = gX at kX ⊢
    clear d0 d1 d2 d3 hz hmod1 hmod2 i0 i1 qw hkn
    have HS := hid_ ((HOK.out.all _ HO.out).some_ HW.out)
    have HWL : Hid (∀ a ∈ l, i64w a.balance) := hid_ (fun a ha => i64w_wf (HWA.out a ha).2.2.1)
    have H2 : Hid (o2 ≤ 9223372036854775807) := hid_ (HWL.out _ HO.out).2
    have HSZ := hid_ (HQ.out.2.2.1 _ HO.out)
    have HN2 : Hid (n ≤ 200) := hid_ (by have := HQ.out.1; rw [HLA.out] at this; exact this)
    refine (hold_any (some ad) n c l o0 o1 q w4 HA4.out HNC.out HOK.out.srt (Nat.le_trans HN2.out (by decide)) (Nat.le_trans HSZ.out.1 (by decide)) (Nat.le_trans HSZ.out.2 (by decide))).mono ?_
    rintro e w5 ⟨v, rfl, o, b5⟩
    obtain ⟨pe, hpe⟩ : ∃ pe, mvE (⟨o0, o1⟩ : Plc) q (hoX l ⟨o0, o1⟩ q) = pe := ⟨_, rfl⟩
    have HE : mvE ⟨o0, o1⟩ q (if wrap64 ((findA l ⟨o0, o1⟩).balance - (findA l ⟨o0, o1⟩).held) < q then 111 else 0) = pe := hpe
    rw [HE]
    have o : Own accT w5 w4.heap.size v (mvO l ⟨o0, o1⟩ q (hoX l ⟨o0, o1⟩ q) q) := o
    have HHL := hid_ (mvO_len l ⟨o0, o1⟩ q (hoX l ⟨o0, o1⟩ q) q)
    have HHB := hid_ (mvO_i64 HOK.out.srt HWL.out ⟨o0, o1⟩ q (hoX l ⟨o0, o1⟩ q) q)
    obtain ⟨h, hh⟩ : ∃ h, mvO l ⟨o0, o1⟩ q (hoX l ⟨o0, o1⟩ q) q = h := ⟨_, rfl⟩
    rw [hh] at o HHL HHB
    obtain ⟨A5, c5, rfl, hc5, r5⟩ := o.reads
    have R5 := hid_ r5
    have C5 := hid_ hc5
    have K5 := hid_ (kX.out.bel b5)
    have A5' := hid_ (HA4.out.bel b5)
    have B5 := hid_ (HB4.out.trans b5)
    obtain ⟨n5, hn5⟩ : ∃ n5, h.length = n5 := ⟨_, rfl⟩
    rw [hn5] at HHL R5 C5 ⊢
    have HH := hid_ (And.intro hh hn5)
    obtain ⟨dl, hdl⟩ : ∃ dl, o2 - o3 = dl := ⟨_, rfl⟩
    have hsub : wrap64 (o2 - o3) = dl := by have h1 : 0 ≤ o3 ∧ o3 ≤ o2 := HS.out; have h2 := H2.out; rw [← hdl]; unfold wrap64; omega
    have HDL := hid_ hdl
    have HSUB := hid_ hsub
    have q0 := K5.out.cell 0 rfl
    have q1 := K5.out.cell 1 rfl
    have q2 := K5.out.cell 2 rfl
    have q3 := K5.out.cell 3 rfl
    clear HE o hh hc5 r5 b5 hn5 kX HA4 HB4
    by_cases h0 : pe = 0
    case neg =>
      have hno := held_no (a := ⟨o0, o1, o2, o3⟩) HOK.out HO.out HW.out H2.out (fun e => h0 (hpe.symm.trans e))
      have i0 : (pe == 0) = false := by simp [h0]
      rcases hno with ⟨k1, k2⟩ | ⟨k1, k2, k3⟩
      · obtain rfl : pe = 1 := hpe.symm.trans k2
        clear hpe h0 k2 hdl
        go_wp2
        go_ret
        exact ⟨rfl, B5.out⟩
      · obtain rfl : pe = 111 := hpe.symm.trans k3
        have k1' : decide (q < 1) = false := decide_eq_false k1
        have k2' : dl < q := by rw [← hdl]; exact k2
        clear hpe h0 k3 hdl k1 k2
        go_wp2
        go_ret
        exact ⟨rfl, B5.out⟩
    subst h0
    have HP := hid_ (held_yes (a := ⟨o0, o1, o2, o3⟩) HOK.out HO.out HW.out H2.out HQW.out.2 hpe)
    clear hpe hdl
    have HCAN : Hid (mvE (⟨o0, o1⟩ : Plc) q (frX h ⟨o0, o1⟩ q) = 0) := hid_ (by have := HP.out.can; rw [show mvO l (Acc.plc ⟨o0, o1, o2, o3⟩) q (hoX l (Acc.plc ⟨o0, o1, o2, o3⟩) q) q = h from HH.out.1] at this; exact this)
    have HBK : Hid (mvO h (⟨o0, o1⟩ : Plc) q (frX h ⟨o0, o1⟩ q) (wrap64 (-q)) = l) := hid_ (by have := HP.out.back; rw [show mvO l (Acc.plc ⟨o0, o1, o2, o3⟩) q (hoX l (Acc.plc ⟨o0, o1, o2, o3⟩) q) q = h from HH.out.1] at this; exact this)
    have HOKH : Hid (OkL h) := hid_ (by have := HP.out.ok; rw [show mvO l (Acc.plc ⟨o0, o1, o2, o3⟩) q (hoX l (Acc.plc ⟨o0, o1, o2, o3⟩) q) q = h from HH.out.1] at this; exact this)
    have HFN : Hid (findA h ⟨o0, o1⟩ = ⟨o0, o1, o2, o3 + q⟩) := hid_ (by have := HP.out.find; rw [show mvO l (Acc.plc ⟨o0, o1, o2, o3⟩) q (hoX l (Acc.plc ⟨o0, o1, o2, o3⟩) q) q = h from HH.out.1] at this; exact this)
    have HRG : Hid (1 ≤ q ∧ q ≤ dl ∧ o2 - o3 = dl ∧ n5 ≤ 201) := hid_ ⟨HP.out.lo, by rw [← HDL.out]; exact HP.out.hi, HDL.out, by have h1 := HHL.out; have h2 := HLA.out; have h3 := HN2.out; omega⟩
    go_wp2_with fail
    refine (free_any A5 n5 c5 h o0 o1 q w5 R5.out C5.out HOKH.out.srt (Nat.le_trans HRG.out.2.2.2 (by decide)) (Nat.le_trans HSZ.out.1 (by decide)) (Nat.le_trans HSZ.out.2 (by decide))).mono ?_
    rintro e w6 ⟨v, rfl, o, b6⟩
    rw [show mvE ⟨o0, o1⟩ q (if (findA h ⟨o0, o1⟩).held < q then 112 else 0) = 0 from HCAN.out]
    rw [show mvO h ⟨o0, o1⟩ q (if (findA h ⟨o0, o1⟩).held < q then 112 else 0) (wrap64 (-q)) = l from HBK.out] at o
    obtain ⟨A6, c6, rfl, hc6, r6⟩ := o.reads
    have R6 := hid_ r6
    have K6 := hid_ (K5.out.bel b6)
    have L6 := hid_ (A5'.out.bel b6)
    have S6 := hid_ (R5.out.bel b6)
    have B6 := hid_ (B5.out.trans b6)
    clear o hc6 r6 b6 q0 q1 q2 q3 hsub K5 A5' R5 B5
    go_wp2_with fail
    refine (sameAcc_any A6 _ c6 l (some ad) n c l w6 R6.out L6.out).mono ?_
    rintro e w7 ⟨rfl, b7⟩
    rw [eqB_1 (rfl : l = l)]
    have K7 := hid_ (K6.out.bel b7)
    have S7 := hid_ (S6.out.bel b7)
    have B7 := hid_ (B6.out.trans b7)
    clear b7 R6 K6 L6 S6 B6
    obtain ⟨x1, hx1⟩ : ∃ x1, -(dl - q) = x1 := ⟨_, rfl⟩
    have HX1 : Hid (-(dl - q) = x1 ∧ -9223372036854775807 ≤ x1 ∧ x1 ≤ 0) := hid_ (by have h1 := HRG.out; have h2 := H2.out; have h3 : 0 ≤ o3 ∧ o3 ≤ o2 := HS.out; omega)
    have HS0 : Hid (wrap64 (-wrap64 (wrap64 (o2 - o3) - q)) = x1) := hid_ (by have h1 := HX1.out; rw [HSUB.out, show wrap64 (dl - q) = dl - q by unfold wrap64; omega]; unfold wrap64; omega)
    have HS1 : Hid (wrap64 (wrap64 (-wrap64 (wrap64 (o2 - o3) - q)) - 1) = x1 - 1) := hid_ (by have h1 := HX1.out; rw [HS0.out]; unfold wrap64; omega)
    clear hx1
    have q0 := K7.out.cell 0 rfl
    have q1 := K7.out.cell 1 rfl
    have RL : Row legT (w7.alloc (.cells #[.string o0, .string o1, .int .i64 x1, .string zzP.who, .string zzP.asset, .int .i64 0] 52)) (some ⟨w7.heap.size, 0, none⟩) 2 [⟨o0, o1, x1⟩, ⟨zzP.who, zzP.asset, 0⟩] := Row.lit (T := legT) w7 [⟨o0, o1, x1⟩, ⟨zzP.who, zzP.asset, 0⟩] (0, 0) (by simp)
    have HRL := hid_ RL
    clear RL
    have HLZ : ∀ x, Hid (i64w x → ∀ y ∈ ([⟨o0, o1, x⟩, ⟨zzP.who, zzP.asset, 0⟩] : List Due), y.who.size ≤ 9223372036854775807 ∧ y.asset.size ≤ 9223372036854775807 ∧ i64w y.amount) := fun x => hid_ (fun hx y hy => by
      simp only [List.mem_cons, List.not_mem_nil, or_false] at hy
      rcases hy with rfl | rfl
      · have h9 : o0.size ≤ 100 ∧ o1.size ≤ 100 := HSZ.out; exact ⟨by show o0.size ≤ _; omega, by show o1.size ≤ _; omega, hx⟩
      · unfold i64w; decide +kernel)
    have HGV : ∀ x, Hid (-9223372036854775808 ≤ x → x ≤ 0 → -1 ≤ o2 + x → postE h [⟨o0, o1, x⟩, ⟨zzP.who, zzP.asset, 0⟩] = if o2 + x < o3 + q then 111 else 0) := fun x => hid_ (fun k1 k2 k3 => by
      have h1 : 0 ≤ o3 ∧ o3 ≤ o2 := HS.out
      have h2 := HRG.out
      exact give (p := ⟨o0, o1⟩) HOKH.out HHB.out (HOK.out.all _ HO.out).named HW.out (by rw [HFN.out]; exact ⟨rfl, rfl⟩) (by omega) (by omega) ⟨k1, by omega⟩ (.inr k3) k2)
    go_wp2_with fail
    rw [HS0.out]
    refine (post_any A5 n5 c5 h (some ⟨w7.heap.size, 0, none⟩) 2 2 [⟨o0, o1, x1⟩, ⟨zzP.who, zzP.asset, 0⟩] _ (S7.out.bel ((Bel.refl w7).alloc _)) HOKH.out.srt (Nat.le_trans HRG.out.2.2.2 (by decide)) HRL.out ((HLZ x1).out (by have := HX1.out; unfold i64w; omega)) HHB.out).mono ?_
    rintro e w8 ⟨v8, rfl, o8, b8⟩
    rw [(HGV x1).out (by have := HX1.out; omega) HX1.out.2.2 (by have h1 := HX1.out; have h2 := HRG.out; have h3 : 0 ≤ o3 ∧ o3 ≤ o2 := HS.out; omega), if_neg (by have h1 := HX1.out; have h2 := HRG.out; omega)]
    have b8' := ((Bel.refl w7).alloc _).trans b8
    have K8 := hid_ (K7.out.bel b8')
    have S8 := hid_ (S7.out.bel b8')
    have B8 := hid_ (B7.out.trans b8')
    clear o8 b8 b8' K7 S7 B7 HRL q0 q1
    have q0 := K8.out.cell 0 rfl
    have q1 := K8.out.cell 1 rfl
    have RL : Row legT (w8.alloc (.cells #[.string o0, .string o1, .int .i64 (x1 - 1), .string zzP.who, .string zzP.asset, .int .i64 0] 52)) (some ⟨w8.heap.size, 0, none⟩) 2 [⟨o0, o1, x1 - 1⟩, ⟨zzP.who, zzP.asset, 0⟩] := Row.lit (T := legT) w8 [⟨o0, o1, x1 - 1⟩, ⟨zzP.who, zzP.asset, 0⟩] (0, 0) (by simp)
    have HRL := hid_ RL
    clear RL
    go_wp2_with fail
    rw [HS1.out]
    refine (post_any A5 n5 c5 h (some ⟨w8.heap.size, 0, none⟩) 2 2 [⟨o0, o1, x1 - 1⟩, ⟨zzP.who, zzP.asset, 0⟩] _ (S8.out.bel ((Bel.refl w8).alloc _)) HOKH.out.srt (Nat.le_trans HRG.out.2.2.2 (by decide)) HRL.out ((HLZ (x1 - 1)).out (by have := HX1.out; unfold i64w; omega)) HHB.out).mono ?_
    rintro e w9 ⟨v9, rfl, o9, b9⟩
    rw [(HGV (x1 - 1)).out (by have := HX1.out; omega) (by have := HX1.out; omega) (by have h1 := HX1.out; have h2 := HRG.out; have h3 : 0 ≤ o3 ∧ o3 ≤ o2 := HS.out; omega), if_pos (by have h1 := HX1.out; have h2 := HRG.out; omega)]
    have B9 := hid_ (B8.out.trans (((Bel.refl w8).alloc _).trans b9))
    have e1 : decide (1 ≤ q) = true := decide_eq_true HRG.out.1
    have e2 : decide (q ≤ wrap64 (o2 - o3)) = true := decide_eq_true (by rw [HSUB.out]; exact HRG.out.2.1)
    have e3 : q ≤ wrap64 (o2 - o3) := by rw [HSUB.out]; exact HRG.out.2.1
    clear o9 b9 K8 S8 B8 HRL q0 q1
    go_wp2
    go_ret
    exact ⟨rfl, B9.out⟩
  · obtain ⟨t, rfl⟩ : ∃ t : Nat, at_ = (t : Int) := ⟨at_.toNat, by omega⟩
    have dn : decide ((t : Int) < 0) = false := by simp
    obtain ⟨k, hk⟩ : ∃ k, t % n = k := ⟨_, rfl⟩
    have hkn : k < n := by rw [← hk]; exact Nat.mod_lt _ (by omega)
    have hmod1 : (t : Int).tmod (n : Int) = (k : Int) := by rw [← hk]; rfl
    have hmod2 : (t : Int) % (n : Int) = (k : Int) := by rw [← hk]; rfl
    have hz : ((n : Int) == 0) = false := by simp; omega
    obtain ⟨ad, o0, o1, o2, o3, rfl, ho, d0, d1, d2, d3⟩ := f3A.out.acc hkn
    have HO := hid_ (mem_at ho)
    clear ho hk
    have i0 : (0 : Int) ≤ (k : Int) := by omega
    have i1 : (k : Int) < (n : Int) := by omega
    have kX := hid_ (Bx.new v3 49 [.string o0, .string o1, .int .i64 o2, .int .i64 o3])
    have HB4 := hid_ (f3B.out.alloc (.cells #[.string o0, .string o1, .int .i64 o2, .int .i64 o3] 49))
    have HA4 := hid_ (f3A.out.bel ((Bel.refl _).alloc (.cells #[.string o0, .string o1, .int .i64 o2, .int .i64 o3] 49)))
    by_cases hw : o0 = worldS
    · have qw : (o0.toList == ([119, 111, 114, 108, 100] : List UInt8)) = true := by rw [worldEq]; exact decide_eq_true hw
      clear hw
      go_wp2
      go_ret
      exact ⟨rfl, HB4.out⟩
    have qw : (o0.toList == ([119, 111, 114, 108, 100] : List UInt8)) = false := by rw [worldEq]; exact decide_eq_false hw
    have HW := hid_ hw
    clear hw
    go_wp2_with fail
    generalize v3.alloc (.cells #[.string o0, .string o1, .int .i64 o2, .int .i64 o3] 49) = w4 at kX HB4 HA4 ⊢
    generalize v3.heap.size = gX at kX ⊢
    clear d0 d1 d2 d3 hz hmod1 hmod2 i0 i1 qw hkn
    have HS := hid_ ((HOK.out.all _ HO.out).some_ HW.out)
    have HWL : Hid (∀ a ∈ l, i64w a.balance) := hid_ (fun a ha => i64w_wf (HWA.out a ha).2.2.1)
    have H2 : Hid (o2 ≤ 9223372036854775807) := hid_ (HWL.out _ HO.out).2
    have HSZ := hid_ (HQ.out.2.2.1 _ HO.out)
    have HN2 : Hid (n ≤ 200) := hid_ (by have := HQ.out.1; rw [HLA.out] at this; exact this)
    refine (hold_any (some ad) n c l o0 o1 q w4 HA4.out HNC.out HOK.out.srt (Nat.le_trans HN2.out (by decide)) (Nat.le_trans HSZ.out.1 (by decide)) (Nat.le_trans HSZ.out.2 (by decide))).mono ?_
    rintro e w5 ⟨v, rfl, o, b5⟩
    obtain ⟨pe, hpe⟩ : ∃ pe, mvE (⟨o0, o1⟩ : Plc) q (hoX l ⟨o0, o1⟩ q) = pe := ⟨_, rfl⟩
    have HE : mvE ⟨o0, o1⟩ q (if wrap64 ((findA l ⟨o0, o1⟩).balance - (findA l ⟨o0, o1⟩).held) < q then 111 else 0) = pe := hpe
    rw [HE]
    have o : Own accT w5 w4.heap.size v (mvO l ⟨o0, o1⟩ q (hoX l ⟨o0, o1⟩ q) q) := o
    have HHL := hid_ (mvO_len l ⟨o0, o1⟩ q (hoX l ⟨o0, o1⟩ q) q)
    have HHB := hid_ (mvO_i64 HOK.out.srt HWL.out ⟨o0, o1⟩ q (hoX l ⟨o0, o1⟩ q) q)
    obtain ⟨h, hh⟩ : ∃ h, mvO l ⟨o0, o1⟩ q (hoX l ⟨o0, o1⟩ q) q = h := ⟨_, rfl⟩
    rw [hh] at o HHL HHB
    obtain ⟨A5, c5, rfl, hc5, r5⟩ := o.reads
    have R5 := hid_ r5
    have C5 := hid_ hc5
    have K5 := hid_ (kX.out.bel b5)
    have A5' := hid_ (HA4.out.bel b5)
    have B5 := hid_ (HB4.out.trans b5)
    obtain ⟨n5, hn5⟩ : ∃ n5, h.length = n5 := ⟨_, rfl⟩
    rw [hn5] at HHL R5 C5 ⊢
    have HH := hid_ (And.intro hh hn5)
    obtain ⟨dl, hdl⟩ : ∃ dl, o2 - o3 = dl := ⟨_, rfl⟩
    have hsub : wrap64 (o2 - o3) = dl := by have h1 : 0 ≤ o3 ∧ o3 ≤ o2 := HS.out; have h2 := H2.out; rw [← hdl]; unfold wrap64; omega
    have HDL := hid_ hdl
    have HSUB := hid_ hsub
    have q0 := K5.out.cell 0 rfl
    have q1 := K5.out.cell 1 rfl
    have q2 := K5.out.cell 2 rfl
    have q3 := K5.out.cell 3 rfl
    clear HE o hh hc5 r5 b5 hn5 kX HA4 HB4
    by_cases h0 : pe = 0
    case neg =>
      have hno := held_no (a := ⟨o0, o1, o2, o3⟩) HOK.out HO.out HW.out H2.out (fun e => h0 (hpe.symm.trans e))
      have i0 : (pe == 0) = false := by simp [h0]
      rcases hno with ⟨k1, k2⟩ | ⟨k1, k2, k3⟩
      · obtain rfl : pe = 1 := hpe.symm.trans k2
        clear hpe h0 k2 hdl
        go_wp2
        go_ret
        exact ⟨rfl, B5.out⟩
      · obtain rfl : pe = 111 := hpe.symm.trans k3
        have k1' : decide (q < 1) = false := decide_eq_false k1
        have k2' : dl < q := by rw [← hdl]; exact k2
        clear hpe h0 k3 hdl k1 k2
        go_wp2
        go_ret
        exact ⟨rfl, B5.out⟩
    subst h0
    have HP := hid_ (held_yes (a := ⟨o0, o1, o2, o3⟩) HOK.out HO.out HW.out H2.out HQW.out.2 hpe)
    clear hpe hdl
    have HCAN : Hid (mvE (⟨o0, o1⟩ : Plc) q (frX h ⟨o0, o1⟩ q) = 0) := hid_ (by have := HP.out.can; rw [show mvO l (Acc.plc ⟨o0, o1, o2, o3⟩) q (hoX l (Acc.plc ⟨o0, o1, o2, o3⟩) q) q = h from HH.out.1] at this; exact this)
    have HBK : Hid (mvO h (⟨o0, o1⟩ : Plc) q (frX h ⟨o0, o1⟩ q) (wrap64 (-q)) = l) := hid_ (by have := HP.out.back; rw [show mvO l (Acc.plc ⟨o0, o1, o2, o3⟩) q (hoX l (Acc.plc ⟨o0, o1, o2, o3⟩) q) q = h from HH.out.1] at this; exact this)
    have HOKH : Hid (OkL h) := hid_ (by have := HP.out.ok; rw [show mvO l (Acc.plc ⟨o0, o1, o2, o3⟩) q (hoX l (Acc.plc ⟨o0, o1, o2, o3⟩) q) q = h from HH.out.1] at this; exact this)
    have HFN : Hid (findA h ⟨o0, o1⟩ = ⟨o0, o1, o2, o3 + q⟩) := hid_ (by have := HP.out.find; rw [show mvO l (Acc.plc ⟨o0, o1, o2, o3⟩) q (hoX l (Acc.plc ⟨o0, o1, o2, o3⟩) q) q = h from HH.out.1] at this; exact this)
    have HRG : Hid (1 ≤ q ∧ q ≤ dl ∧ o2 - o3 = dl ∧ n5 ≤ 201) := hid_ ⟨HP.out.lo, by rw [← HDL.out]; exact HP.out.hi, HDL.out, by have h1 := HHL.out; have h2 := HLA.out; have h3 := HN2.out; omega⟩
    go_wp2_with fail
    refine (free_any A5 n5 c5 h o0 o1 q w5 R5.out C5.out HOKH.out.srt (Nat.le_trans HRG.out.2.2.2 (by decide)) (Nat.le_trans HSZ.out.1 (by decide)) (Nat.le_trans HSZ.out.2 (by decide))).mono ?_
    rintro e w6 ⟨v, rfl, o, b6⟩
    rw [show mvE ⟨o0, o1⟩ q (if (findA h ⟨o0, o1⟩).held < q then 112 else 0) = 0 from HCAN.out]
    rw [show mvO h ⟨o0, o1⟩ q (if (findA h ⟨o0, o1⟩).held < q then 112 else 0) (wrap64 (-q)) = l from HBK.out] at o
    obtain ⟨A6, c6, rfl, hc6, r6⟩ := o.reads
    have R6 := hid_ r6
    have K6 := hid_ (K5.out.bel b6)
    have L6 := hid_ (A5'.out.bel b6)
    have S6 := hid_ (R5.out.bel b6)
    have B6 := hid_ (B5.out.trans b6)
    clear o hc6 r6 b6 q0 q1 q2 q3 hsub K5 A5' R5 B5
    go_wp2_with fail
    refine (sameAcc_any A6 _ c6 l (some ad) n c l w6 R6.out L6.out).mono ?_
    rintro e w7 ⟨rfl, b7⟩
    rw [eqB_1 (rfl : l = l)]
    have K7 := hid_ (K6.out.bel b7)
    have S7 := hid_ (S6.out.bel b7)
    have B7 := hid_ (B6.out.trans b7)
    clear b7 R6 K6 L6 S6 B6
    obtain ⟨x1, hx1⟩ : ∃ x1, -(dl - q) = x1 := ⟨_, rfl⟩
    have HX1 : Hid (-(dl - q) = x1 ∧ -9223372036854775807 ≤ x1 ∧ x1 ≤ 0) := hid_ (by have h1 := HRG.out; have h2 := H2.out; have h3 : 0 ≤ o3 ∧ o3 ≤ o2 := HS.out; omega)
    have HS0 : Hid (wrap64 (-wrap64 (wrap64 (o2 - o3) - q)) = x1) := hid_ (by have h1 := HX1.out; rw [HSUB.out, show wrap64 (dl - q) = dl - q by unfold wrap64; omega]; unfold wrap64; omega)
    have HS1 : Hid (wrap64 (wrap64 (-wrap64 (wrap64 (o2 - o3) - q)) - 1) = x1 - 1) := hid_ (by have h1 := HX1.out; rw [HS0.out]; unfold wrap64; omega)
    clear hx1
    have q0 := K7.out.cell 0 rfl
    have q1 := K7.out.cell 1 rfl
    have RL : Row legT (w7.alloc (.cells #[.string o0, .string o1, .int .i64 x1, .string zzP.who, .string zzP.asset, .int .i64 0] 52)) (some ⟨w7.heap.size, 0, none⟩) 2 [⟨o0, o1, x1⟩, ⟨zzP.who, zzP.asset, 0⟩] := Row.lit (T := legT) w7 [⟨o0, o1, x1⟩, ⟨zzP.who, zzP.asset, 0⟩] (0, 0) (by simp)
    have HRL := hid_ RL
    clear RL
    have HLZ : ∀ x, Hid (i64w x → ∀ y ∈ ([⟨o0, o1, x⟩, ⟨zzP.who, zzP.asset, 0⟩] : List Due), y.who.size ≤ 9223372036854775807 ∧ y.asset.size ≤ 9223372036854775807 ∧ i64w y.amount) := fun x => hid_ (fun hx y hy => by
      simp only [List.mem_cons, List.not_mem_nil, or_false] at hy
      rcases hy with rfl | rfl
      · have h9 : o0.size ≤ 100 ∧ o1.size ≤ 100 := HSZ.out; exact ⟨by show o0.size ≤ _; omega, by show o1.size ≤ _; omega, hx⟩
      · unfold i64w; decide +kernel)
    have HGV : ∀ x, Hid (-9223372036854775808 ≤ x → x ≤ 0 → -1 ≤ o2 + x → postE h [⟨o0, o1, x⟩, ⟨zzP.who, zzP.asset, 0⟩] = if o2 + x < o3 + q then 111 else 0) := fun x => hid_ (fun k1 k2 k3 => by
      have h1 : 0 ≤ o3 ∧ o3 ≤ o2 := HS.out
      have h2 := HRG.out
      exact give (p := ⟨o0, o1⟩) HOKH.out HHB.out (HOK.out.all _ HO.out).named HW.out (by rw [HFN.out]; exact ⟨rfl, rfl⟩) (by omega) (by omega) ⟨k1, by omega⟩ (.inr k3) k2)
    go_wp2_with fail
    rw [HS0.out]
    refine (post_any A5 n5 c5 h (some ⟨w7.heap.size, 0, none⟩) 2 2 [⟨o0, o1, x1⟩, ⟨zzP.who, zzP.asset, 0⟩] _ (S7.out.bel ((Bel.refl w7).alloc _)) HOKH.out.srt (Nat.le_trans HRG.out.2.2.2 (by decide)) HRL.out ((HLZ x1).out (by have := HX1.out; unfold i64w; omega)) HHB.out).mono ?_
    rintro e w8 ⟨v8, rfl, o8, b8⟩
    rw [(HGV x1).out (by have := HX1.out; omega) HX1.out.2.2 (by have h1 := HX1.out; have h2 := HRG.out; have h3 : 0 ≤ o3 ∧ o3 ≤ o2 := HS.out; omega), if_neg (by have h1 := HX1.out; have h2 := HRG.out; omega)]
    have b8' := ((Bel.refl w7).alloc _).trans b8
    have K8 := hid_ (K7.out.bel b8')
    have S8 := hid_ (S7.out.bel b8')
    have B8 := hid_ (B7.out.trans b8')
    clear o8 b8 b8' K7 S7 B7 HRL q0 q1
    have q0 := K8.out.cell 0 rfl
    have q1 := K8.out.cell 1 rfl
    have RL : Row legT (w8.alloc (.cells #[.string o0, .string o1, .int .i64 (x1 - 1), .string zzP.who, .string zzP.asset, .int .i64 0] 52)) (some ⟨w8.heap.size, 0, none⟩) 2 [⟨o0, o1, x1 - 1⟩, ⟨zzP.who, zzP.asset, 0⟩] := Row.lit (T := legT) w8 [⟨o0, o1, x1 - 1⟩, ⟨zzP.who, zzP.asset, 0⟩] (0, 0) (by simp)
    have HRL := hid_ RL
    clear RL
    go_wp2_with fail
    rw [HS1.out]
    refine (post_any A5 n5 c5 h (some ⟨w8.heap.size, 0, none⟩) 2 2 [⟨o0, o1, x1 - 1⟩, ⟨zzP.who, zzP.asset, 0⟩] _ (S8.out.bel ((Bel.refl w8).alloc _)) HOKH.out.srt (Nat.le_trans HRG.out.2.2.2 (by decide)) HRL.out ((HLZ (x1 - 1)).out (by have := HX1.out; unfold i64w; omega)) HHB.out).mono ?_
    rintro e w9 ⟨v9, rfl, o9, b9⟩
    rw [(HGV (x1 - 1)).out (by have := HX1.out; omega) (by have := HX1.out; omega) (by have h1 := HX1.out; have h2 := HRG.out; have h3 : 0 ≤ o3 ∧ o3 ≤ o2 := HS.out; omega), if_pos (by have h1 := HX1.out; have h2 := HRG.out; omega)]
    have B9 := hid_ (B8.out.trans (((Bel.refl w8).alloc _).trans b9))
    have e1 : decide (1 ≤ q) = true := decide_eq_true HRG.out.1
    have e2 : decide (q ≤ wrap64 (o2 - o3)) = true := decide_eq_true (by rw [HSUB.out]; exact HRG.out.2.1)
    have e3 : q ≤ wrap64 (o2 - o3) := by rw [HSUB.out]; exact HRG.out.2.1
    clear o9 b9 K8 S8 B8 HRL q0 q1
    go_wp2
    go_ret
    exact ⟨rfl, B9.out⟩
end Go.Proofs.Ytgnninpfhnpjoaa
