/- cambistref15.Dues. -/
import Derived.Test.YtgdonempmblhhaaNv17
import Derived.Test.YtgdonempmblhhaaNv8
set_option linter.unusedSimpArgs false
set_option linter.unusedVariables false
namespace Go.Proofs.Ytgdonempmblhhaa
open Go.RowKit Go.Lib
set_option maxRecDepth 10000 in
set_option maxHeartbeats 1000000 in
theorem refDues_any (tb ts tq tp b0 : Int) (b1 b2 : ByteArray) (b3 : Bool) (b4 b5 s0 : Int) (s1 s2 : ByteArray) (s3 : Bool) (s4 s5 : Int) (w : World) (hb1 : b1.size ≤ 4294967280) (hb2 : b2.size ≤ 4294967280) (hs1 : s1.size ≤ 4294967280) (hs2 : s2.size ≤ 4294967280) :
    Calls Try.prog 17 #[.agg #[.int .u64 tb, .int .u64 ts, .int .i64 tq, .int .i64 tp], .agg #[.int .u64 b0, .string b1, .string b2, .bool b3, .int .i64 b4, .int .i64 b5], .agg #[.int .u64 s0, .string s1, .string s2, .bool s3, .int .i64 s4, .int .i64 s5]] w fun e w' => ∃ A n c, e = .returned (.tuple #[.slice A n c, .int .i64 (duesE ⟨tb, ts, tq, tp⟩ ⟨b0, b1, b2, b3, b4, b5⟩ ⟨s0, s1, s2, s3, s4, s5⟩)]) ∧ Row dueT w' A n (duesO ⟨tb, ts, tq, tp⟩ ⟨b0, b1, b2, b3, b4, b5⟩ ⟨s0, s1, s2, s3, s4, s5⟩) ∧ Bel w w' := by
  obtain ⟨fo, hfo⟩ : ∃ fo, duesO ⟨tb, ts, tq, tp⟩ ⟨b0, b1, b2, b3, b4, b5⟩ ⟨s0, s1, s2, s3, s4, s5⟩ = fo := ⟨_, rfl⟩
  obtain ⟨fe, hfe⟩ : ∃ fe, duesE ⟨tb, ts, tq, tp⟩ ⟨b0, b1, b2, b3, b4, b5⟩ ⟨s0, s1, s2, s3, s4, s5⟩ = fe := ⟨_, rfl⟩
  rw [hfo, hfe]
  have HFO := hid_ hfo
  have HFE := hid_ hfe
  clear hfo hfe
  have z1 := sizeAl w (.cells #[.int .u64 tb, .int .u64 ts, .int .i64 tq, .int .i64 tp] 25)
  have z2 := sizeAl (w.alloc (.cells #[.int .u64 tb, .int .u64 ts, .int .i64 tq, .int .i64 tp] 25)) (.cells #[.int .u64 b0, .string b1, .string b2, .bool b3, .int .i64 b4, .int .i64 b5] 27)
  rw [z1] at z2
  have kt : Bx (((w.alloc (.cells #[.int .u64 tb, .int .u64 ts, .int .i64 tq, .int .i64 tp] 25)).alloc (.cells #[.int .u64 b0, .string b1, .string b2, .bool b3, .int .i64 b4, .int .i64 b5] 27)).alloc (.cells #[.int .u64 s0, .string s1, .string s2, .bool s3, .int .i64 s4, .int .i64 s5] 27)) w.heap.size 25 [.int .u64 tb, .int .u64 ts, .int .i64 tq, .int .i64 tp] := ((Bx.new w _ _).alloc _).alloc _
  have kb := (Bx.new (w.alloc (.cells #[.int .u64 tb, .int .u64 ts, .int .i64 tq, .int .i64 tp] 25)) 27 [.int .u64 b0, .string b1, .string b2, .bool b3, .int .i64 b4, .int .i64 b5]).alloc (.cells #[.int .u64 s0, .string s1, .string s2, .bool s3, .int .i64 s4, .int .i64 s5] 27)
  rw [z1] at kb
  have ks := Bx.new ((w.alloc (.cells #[.int .u64 tb, .int .u64 ts, .int .i64 tq, .int .i64 tp] 25)).alloc (.cells #[.int .u64 b0, .string b1, .string b2, .bool b3, .int .i64 b4, .int .i64 b5] 27)) 27 [.int .u64 s0, .string s1, .string s2, .bool s3, .int .i64 s4, .int .i64 s5]
  rw [z2] at ks
  have hb : Bel w (((w.alloc (.cells #[.int .u64 tb, .int .u64 ts, .int .i64 tq, .int .i64 tp] 25)).alloc (.cells #[.int .u64 b0, .string b1, .string b2, .bool b3, .int .i64 b4, .int .i64 b5] 27)).alloc (.cells #[.int .u64 s0, .string s1, .string s2, .bool s3, .int .i64 s4, .int .i64 s5] 27)) := (((Bel.refl w).alloc _).alloc _).alloc _
  have KT := hid_ kt
  have KB := hid_ kb
  have KS := hid_ ks
  have HB := hid_ hb
  have SZ : Hid ((b1.size ≤ 4294967280 ∧ b2.size ≤ 4294967280) ∧ (s1.size ≤ 4294967280 ∧ s2.size ≤ 4294967280)) := hid_ ⟨⟨hb1, hb2⟩, ⟨hs1, hs2⟩⟩
  clear z1 z2 kt kb ks hb hb1 hb2 hs1 hs2
  go_enter Try.func17, Try.ntmps17
  go_wp2_with fail
  generalize ((w.alloc (.cells #[.int .u64 tb, .int .u64 ts, .int .i64 tq, .int .i64 tp] 25)).alloc (.cells #[.int .u64 b0, .string b1, .string b2, .bool b3, .int .i64 b4, .int .i64 b5] 27)).alloc (.cells #[.int .u64 s0, .string s1, .string s2, .bool s3, .int .i64 s4, .int .i64 s5] 27) = W3 at KT KB KS HB ⊢
  generalize w.heap.size + 2 = gs at KS ⊢
  generalize w.heap.size + 1 = gb at KB ⊢
  obtain ⟨gt, hgt⟩ : ∃ gt, w.heap.size = gt := ⟨_, rfl⟩
  rw [hgt] at KT
  try rw [hgt]
  clear hgt
  refine (refFits_any tb ts tq tp b0 b1 b2 b3 b4 b5 s0 s1 s2 s3 s4 s5 W3 SZ.out.1.1 SZ.out.1.2 SZ.out.2.1 SZ.out.2.2).mono ?_
  rintro e w4 ⟨rfl, b⟩
  obtain ⟨fp, hfp⟩ : ∃ fp, fitsP ⟨tb, ts, tq, tp⟩ ⟨b0, b1, b2, b3, b4, b5⟩ ⟨s0, s1, s2, s3, s4, s5⟩ = fp := ⟨_, rfl⟩
  rw [hfp]
  cases fp
  · have H0 := hid_ (dues_0 hfp)
    have HE := hid_ (HB.out.trans b)
    have HR : Hid (Row dueT w4 none 0 fo) := hid_ (by rw [← HFO.out, H0.out.1]; exact Row.none_ _ _ _)
    have HV : Hid (fe = 150) := hid_ (by rw [← HFE.out, H0.out.2])
    clear HFO HFE KT KB KS HB SZ hfp b H0
    go_wp2
    go_ret2
    exact ⟨_, _, _, by rw [HV.out]; rfl, HR.out, HE.out⟩
  obtain ⟨p, q, hp, hq, hp1, hq1, hm⟩ := fitsP_nums hfp
  simp only at hp hq hm
  have H1 := hid_ (dues_1 hfp)
  have HMK := hid_ (mkt_1 hm)
  have KT4 := hid_ (KT.out.bel b)
  have KB4 := hid_ (KB.out.bel b)
  have KS4 := hid_ (KS.out.bel b)
  have HB4 := hid_ (HB.out.trans b)
  obtain ⟨sm, hsm⟩ : ∃ sm, tp * tq = sm := ⟨_, rfl⟩
  have hs0 : 0 ≤ sm ∧ sm ≤ 1000000000000 := by
    rw [← hsm, hp, hq]
    have h1 : p * q ≤ 1000000 * 1000000 := Nat.mul_le_mul hp1 hq1
    have h2 : (p : Int) * (q : Int) = ((p * q : Nat) : Int) := by simp
    rw [h2]
    omega
  have hq0 : 0 ≤ tq ∧ tq ≤ 1000000 := by omega
  have bw := KB4.out.cell 2 rfl
  have HSM := hid_ hsm
  have HS0 := hid_ hs0
  have HQ0 := hid_ hq0
  clear hfp b KT KB KS HB hm hp1 hq1 hp hq hsm hs0 hq0
  go_wp2_with fail
  refine (marketR_any b2 w4 SZ.out.1.2).mono ?_
  rintro e w5 ⟨rfl, b⟩
  rw [HMK.out.1, HMK.out.2.1, HMK.out.2.2]
  obtain ⟨ha, hha⟩ : ∃ ha, headB b2 = ha := ⟨_, rfl⟩
  obtain ⟨hc, hhc⟩ : ∃ hc, tailB b2 = hc := ⟨_, rfl⟩
  have HMA : Hid (headB b2 = ha ∧ tailB b2 = hc) := hid_ ⟨hha, hhc⟩
  rw [hha, hhc]
  clear hha hhc bw
  have t2 := (KT4.out.bel b).cell 2 rfl
  have t3 := (KT4.out.bel b).cell 3 rfl
  have b1w := (KB4.out.bel b).cell 1 rfl
  have s1w := (KS4.out.bel b).cell 1 rfl
  have HB5 := hid_ (HB4.out.trans b)
  have hsm := HSM.out
  have w0 : wrap64 sm = sm := IntWalk.wrap64_in _ (by have := HS0.out; omega)
  have w1 : wrap64 (-sm) = -sm := IntWalk.wrap64_in _ (by have := HS0.out; omega)
  have w2 : wrap64 (-tq) = -tq := IntWalk.wrap64_in _ (by have := HQ0.out; omega)
  have rl := Row.lit (T := dueT) w5 (duesL ⟨tb, ts, tq, tp⟩ ⟨b0, b1, b2, b3, b4, b5⟩ ⟨s0, s1, s2, s3, s4, s5⟩) (0, 0) (by simp [duesL, twoD])
  have hdl : duesL ⟨tb, ts, tq, tp⟩ ⟨b0, b1, b2, b3, b4, b5⟩ ⟨s0, s1, s2, s3, s4, s5⟩ = [⟨b1, ha, tq⟩, ⟨b1, hc, -sm⟩, ⟨s1, ha, -tq⟩, ⟨s1, hc, sm⟩] := by
    show twoD b1 (headB b2) (tailB b2) tq (-(tp * tq)) ++ twoD s1 (headB b2) (tailB b2) (-tq) (tp * tq) = _
    rw [HMA.out.1, HMA.out.2, hsm]
    rfl
  rw [hdl] at rl
  have RL : Hid (Row dueT (w5.alloc (.cells #[.string b1, .string ha, .int .i64 tq, .string b1, .string hc, .int .i64 (-sm), .string s1, .string ha, .int .i64 (-tq), .string s1, .string hc, .int .i64 sm] 41)) (some ⟨w5.heap.size, 0, none⟩) 4 fo) := hid_ (by
    rw [← HFO.out, H1.out.1, hdl]
    exact rl)
  have HV : Hid (fe = 0) := hid_ (by rw [← HFE.out, H1.out.2])
  clear rl hdl HFO HFE H1 KT4 KB4 KS4 HB4 HMK HMA SZ b HSM HS0 HQ0
  go_wp2
  go_ret2
  exact ⟨_, 4, _, by rw [HV.out]; rfl, RL.out, HB5.out.alloc _⟩
end Go.Proofs.Ytgdonempmblhhaa
