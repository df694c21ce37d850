/- NovateZero, walked. -/
import Derived.Test.YtgdonempmblhhaaNv23
import Derived.Test.YtgdonempmblhhaaOpOrd
import Derived.Test.YtgdonempmblhhaaOpTrd
set_option linter.unusedSimpArgs false
set_option linter.unusedVariables false
namespace Go.Proofs.Ytgdonempmblhhaa
open Go.RowKit Go.Lib
set_option maxRecDepth 10000 in
set_option maxHeartbeats 4000000 in
theorem walkNovateZero (w : World) (t : Trd) (wt : trdWf t) (b : Ord) (wb : ordWf b) (s : Ord) (ws : ordWf s) :
    Calls Try.prog 5 #[.agg (trdC t).toArray, .agg (ordC b).toArray, .agg (ordC s).toArray] w fun e w' => e = .returned (.bool true) ∧ Bel w w' := by
  obtain ⟨tb, ts, tq, tp⟩ := t
  obtain ⟨b0, b1, b2, b3, b4, b5⟩ := b
  obtain ⟨s0, s1, s2, s3, s4, s5⟩ := s
  simp only [trdC, ordC]
  have z0 := sizeAl w (.cells #[.int .u64 tb, .int .u64 ts, .int .i64 tq, .int .i64 tp] 25)
  have z1 := sizeAl (w.alloc (.cells #[.int .u64 tb, .int .u64 ts, .int .i64 tq, .int .i64 tp] 25)) (.cells #[.int .u64 b0, .string b1, .string b2, .bool b3, .int .i64 b4, .int .i64 b5] 27)
  rw [z0] at z1
  have k0 := ((Bx.new w 25 [.int .u64 tb, .int .u64 ts, .int .i64 tq, .int .i64 tp]).alloc (.cells #[.int .u64 b0, .string b1, .string b2, .bool b3, .int .i64 b4, .int .i64 b5] 27)).alloc (.cells #[.int .u64 s0, .string s1, .string s2, .bool s3, .int .i64 s4, .int .i64 s5] 27)
  have k0 : Bx (((w.alloc (.cells #[.int .u64 tb, .int .u64 ts, .int .i64 tq, .int .i64 tp] 25)).alloc (.cells #[.int .u64 b0, .string b1, .string b2, .bool b3, .int .i64 b4, .int .i64 b5] 27)).alloc (.cells #[.int .u64 s0, .string s1, .string s2, .bool s3, .int .i64 s4, .int .i64 s5] 27)) (w.heap.size) 25 [.int .u64 tb, .int .u64 ts, .int .i64 tq, .int .i64 tp] := k0
  have k1 := (Bx.new (w.alloc (.cells #[.int .u64 tb, .int .u64 ts, .int .i64 tq, .int .i64 tp] 25)) 27 [.int .u64 b0, .string b1, .string b2, .bool b3, .int .i64 b4, .int .i64 b5]).alloc (.cells #[.int .u64 s0, .string s1, .string s2, .bool s3, .int .i64 s4, .int .i64 s5] 27)
  rw [z0] at k1
  have k1 : Bx (((w.alloc (.cells #[.int .u64 tb, .int .u64 ts, .int .i64 tq, .int .i64 tp] 25)).alloc (.cells #[.int .u64 b0, .string b1, .string b2, .bool b3, .int .i64 b4, .int .i64 b5] 27)).alloc (.cells #[.int .u64 s0, .string s1, .string s2, .bool s3, .int .i64 s4, .int .i64 s5] 27)) (w.heap.size + 1) 27 [.int .u64 b0, .string b1, .string b2, .bool b3, .int .i64 b4, .int .i64 b5] := k1
  have k2 := Bx.new ((w.alloc (.cells #[.int .u64 tb, .int .u64 ts, .int .i64 tq, .int .i64 tp] 25)).alloc (.cells #[.int .u64 b0, .string b1, .string b2, .bool b3, .int .i64 b4, .int .i64 b5] 27)) 27 [.int .u64 s0, .string s1, .string s2, .bool s3, .int .i64 s4, .int .i64 s5]
  rw [z1] at k2
  have k2 : Bx (((w.alloc (.cells #[.int .u64 tb, .int .u64 ts, .int .i64 tq, .int .i64 tp] 25)).alloc (.cells #[.int .u64 b0, .string b1, .string b2, .bool b3, .int .i64 b4, .int .i64 b5] 27)).alloc (.cells #[.int .u64 s0, .string s1, .string s2, .bool s3, .int .i64 s4, .int .i64 s5] 27)) (w.heap.size + 1 + 1) 27 [.int .u64 s0, .string s1, .string s2, .bool s3, .int .i64 s4, .int .i64 s5] := k2
  have kB : Bel w (((w.alloc (.cells #[.int .u64 tb, .int .u64 ts, .int .i64 tq, .int .i64 tp] 25)).alloc (.cells #[.int .u64 b0, .string b1, .string b2, .bool b3, .int .i64 b4, .int .i64 b5] 27)).alloc (.cells #[.int .u64 s0, .string s1, .string s2, .bool s3, .int .i64 s4, .int .i64 s5] 27)) := (((Bel.refl w).alloc _).alloc _).alloc _
  have FT := hid_ k0
  have FP := hid_ k1
  have FS := hid_ k2
  have FB := hid_ kB
  clear k0 k1 k2 z0 z1 kB
  go_enter Try.func5, Try.ntmps5
  go_wp2_with fail
  generalize (((w.alloc (.cells #[.int .u64 tb, .int .u64 ts, .int .i64 tq, .int .i64 tp] 25)).alloc (.cells #[.int .u64 b0, .string b1, .string b2, .bool b3, .int .i64 b4, .int .i64 b5] 27)).alloc (.cells #[.int .u64 s0, .string s1, .string s2, .bool s3, .int .i64 s4, .int .i64 s5] 27)) = W0 at FT FP FS FB ⊢
  generalize w.heap.size + 1 + 1 = gS at FS ⊢
  generalize w.heap.size + 1 = gP at FP ⊢
  obtain ⟨gT, hgT⟩ : ∃ g, w.heap.size = g := ⟨_, rfl⟩
  rw [hgT] at FT
  try rw [hgT]
  clear hgT
  refine (awake15 _).mono ?_
  rintro e v1 ⟨rfl, b⟩
  have bb := b
  have f1T := hid_ (FT.out.bel bb)
  have f1P := hid_ (FP.out.bel bb)
  have f1S := hid_ (FS.out.bel bb)
  have f1B := hid_ (FB.out.trans bb)
  clear b bb FT FP FS FB
  have qP0 := f1P.out.cell 0 rfl
  have qP1 := f1P.out.cell 1 rfl
  have qP2 := f1P.out.cell 2 rfl
  have qP3 := f1P.out.cell 3 rfl
  have qP4 := f1P.out.cell 4 rfl
  have qP5 := f1P.out.cell 5 rfl
  have qS0 := f1S.out.cell 0 rfl
  have qS1 := f1S.out.cell 1 rfl
  have qS2 := f1S.out.cell 2 rfl
  have qS3 := f1S.out.cell 3 rfl
  have qS4 := f1S.out.cell 4 rfl
  have qS5 := f1S.out.cell 5 rfl
  go_wp2_with fail
  have rl := Row.lit (T := ordT) v1 [⟨b0, b1, b2, b3, b4, b5⟩, ⟨s0, s1, s2, s3, s4, s5⟩] (0, 0) (by simp)
  refine (few15_any _ 2 2 [⟨b0, b1, b2, b3, b4, b5⟩, ⟨s0, s1, s2, s3, s4, s5⟩] _ rl).mono ?_
  rintro e v2 ⟨rfl, b⟩
  have bb := ((Bel.refl v1).alloc _).trans b
  have f2T := hid_ (f1T.out.bel bb)
  have f2P := hid_ (f1P.out.bel bb)
  have f2S := hid_ (f1S.out.bel bb)
  have f2B := hid_ (f1B.out.trans bb)
  clear b bb f1T f1P f1S f1B qP0 qP1 qP2 qP3 qP4 qP5 qS0 qS1 qS2 qS3 qS4 qS5
  clear rl
  obtain ⟨fw, hfw⟩ : ∃ fw, fewO 200 [⟨b0, b1, b2, b3, b4, b5⟩, ⟨s0, s1, s2, s3, s4, s5⟩] = fw := ⟨_, rfl⟩
  rw [hfw]
  have HFW := hid_ hfw
  clear hfw
  cases fw
  · go_wp2
    go_ret
    exact ⟨rfl, f2B.out⟩
  have hs := (fewO_iff.1 HFW.out).2
  have hs1 := hs ⟨b0, b1, b2, b3, b4, b5⟩ (by simp)
  have hs2 := hs ⟨s0, s1, s2, s3, s4, s5⟩ (by simp)
  simp only at hs1 hs2
  have SZ : Hid ((b1.size ≤ 4294967280 ∧ b2.size ≤ 4294967280) ∧ (s1.size ≤ 4294967280 ∧ s2.size ≤ 4294967280)) := hid_ ⟨⟨by omega, by omega⟩, ⟨by omega, by omega⟩⟩
  clear hs hs1 hs2 HFW
  have qT0 := f2T.out.cell 0 rfl
  have qT1 := f2T.out.cell 1 rfl
  have qT2 := f2T.out.cell 2 rfl
  have qT3 := f2T.out.cell 3 rfl
  have qP0 := f2P.out.cell 0 rfl
  have qP1 := f2P.out.cell 1 rfl
  have qP2 := f2P.out.cell 2 rfl
  have qP3 := f2P.out.cell 3 rfl
  have qP4 := f2P.out.cell 4 rfl
  have qP5 := f2P.out.cell 5 rfl
  have qS0 := f2S.out.cell 0 rfl
  have qS1 := f2S.out.cell 1 rfl
  have qS2 := f2S.out.cell 2 rfl
  have qS3 := f2S.out.cell 3 rfl
  have qS4 := f2S.out.cell 4 rfl
  have qS5 := f2S.out.cell 5 rfl
  go_wp2_with fail
  refine (dues_any tb ts tq tp b0 b1 b2 b3 b4 b5 s0 s1 s2 s3 s4 s5 _ SZ.out.1.1 SZ.out.1.2 SZ.out.2.1 SZ.out.2.2).mono ?_
  rintro e v3 ⟨A, n, c, rfl, r, b⟩
  have bb := b
  have f3T := hid_ (f2T.out.bel bb)
  have f3P := hid_ (f2P.out.bel bb)
  have f3S := hid_ (f2S.out.bel bb)
  have f3B := hid_ (f2B.out.trans bb)
  have f3R := hid_ r
  clear b bb f2T f2P f2S f2B qT0 qT1 qT2 qT3 qP0 qP1 qP2 qP3 qP4 qP5 qS0 qS1 qS2 qS3 qS4 qS5 r
  obtain ⟨fp, hfp⟩ : ∃ fp, fitsP ⟨tb, ts, tq, tp⟩ ⟨b0, b1, b2, b3, b4, b5⟩ ⟨s0, s1, s2, s3, s4, s5⟩ = fp := ⟨_, rfl⟩
  cases fp
  · have H0 := hid_ (dues_0 hfp)
    rw [H0.out.2]
    have R0 := f3R.out
    rw [H0.out.1] at R0
    obtain rfl : n = 0 := R0.1.symm
    clear R0 H0 hfp
    go_wp2
    go_ret
    exact ⟨rfl, f3B.out⟩
  obtain ⟨p, q, hp, hq, hp1, hq1, hm⟩ := fitsP_nums hfp
  simp only at hp hq hm
  subst hp
  subst hq
  have H1 := hid_ (dues_1 hfp)
  rw [H1.out.2]
  have R1 := f3R.out
  rw [H1.out.1] at R1
  obtain rfl : n = 4 := R1.1.symm
  have HR1 := hid_ R1
  have HM := hid_ (mkt_1 hm)
  have PQ := hid_ (And.intro hp1 hq1)
  clear R1 H1 hfp hp1 hq1 hm
  clear f3R
  have qP2 := f3P.out.cell 2 rfl
  go_wp2_with fail
  refine (market_any b2 _ SZ.out.1.2).mono ?_
  rintro e v4 ⟨rfl, b⟩
  have bb := b
  have f4T := hid_ (f3T.out.bel bb)
  have f4P := hid_ (f3P.out.bel bb)
  have f4S := hid_ (f3S.out.bel bb)
  have f4B := hid_ (f3B.out.trans bb)
  have f4R := hid_ (HR1.out.bel bb)
  clear b bb f3T f3P f3S f3B HR1 qP2
  rw [HM.out.1, HM.out.2.1, HM.out.2.2]
  go_wp2_with fail
  have R9 := f4R.out
  have hdl : duesL ⟨tb, ts, (q : Int), (p : Int)⟩ ⟨b0, b1, b2, b3, b4, b5⟩ ⟨s0, s1, s2, s3, s4, s5⟩ = [⟨b1, headB b2, (q : Int)⟩, ⟨b1, tailB b2, -((p : Int) * (q : Int))⟩, ⟨s1, headB b2, -(q : Int)⟩, ⟨s1, tailB b2, (p : Int) * (q : Int)⟩] := rfl
  rw [hdl] at R9
  have hpq : p * q ≤ 1000000 * 1000000 := Nat.mul_le_mul PQ.out.1 PQ.out.2
  have hpc : (p : Int) * (q : Int) = ((p * q : Nat) : Int) := by simp
  have hqp : (q : Int) * (p : Int) = ((p * q : Nat) : Int) := by rw [← hpc, Int.mul_comm]
  rw [hpc] at R9
  generalize p * q = m at R9 hpq hqp
  generalize headB b2 = ha at R9 ⊢
  generalize tailB b2 = hc at R9 ⊢
  obtain ⟨ad0, x00, x01, x02, ea, ho, d00, d01, d02⟩ := R9.due (k := 0) (by decide)
  cases ea
  cases ho
  simp [Addr.add] at d00 d01 d02
  obtain ⟨ad1, x10, x11, x12, ea, ho, d10, d11, d12⟩ := R9.due (k := 1) (by decide)
  cases ea
  cases ho
  simp [Addr.add] at d10 d11 d12
  obtain ⟨ad2, x20, x21, x22, ea, ho, d20, d21, d22⟩ := R9.due (k := 2) (by decide)
  cases ea
  cases ho
  simp [Addr.add] at d20 d21 d22
  obtain ⟨ad3, x30, x31, x32, ea, ho, d30, d31, d32⟩ := R9.due (k := 3) (by decide)
  cases ea
  cases ho
  simp [Addr.add] at d30 d31 d32
  clear R9 hdl hpc
  have qT0 := f4T.out.cell 0 rfl
  have qT1 := f4T.out.cell 1 rfl
  have qT2 := f4T.out.cell 2 rfl
  have qT3 := f4T.out.cell 3 rfl
  have qP0 := f4P.out.cell 0 rfl
  have qP1 := f4P.out.cell 1 rfl
  have qP2 := f4P.out.cell 2 rfl
  have qP3 := f4P.out.cell 3 rfl
  have qP4 := f4P.out.cell 4 rfl
  have qP5 := f4P.out.cell 5 rfl
  have qS0 := f4S.out.cell 0 rfl
  have qS1 := f4S.out.cell 1 rfl
  have qS2 := f4S.out.cell 2 rfl
  have qS3 := f4S.out.cell 3 rfl
  have qS4 := f4S.out.cell 4 rfl
  have qS5 := f4S.out.cell 5 rfl
  have hq1 := PQ.out.2
  have wm : IntKind.i64.wrap (m : Int) = (m : Int) := by rw [IntWalk.i64_left]; exact IntWalk.wrap64_in _ (by omega)
  have w1 : IntKind.i64.wrap ((q : Int) + -(q : Int)) = 0 := by rw [Int.add_right_neg]; rfl
  have w2 : IntKind.i64.wrap (-(m : Int) + (m : Int)) = 0 := by rw [Int.add_left_neg]; rfl
  clear hq1 hpq PQ
  go_quiet (fail)
  go_wp2
  go_quiet (fail)
  go_wp2
  go_ret
  exact ⟨rfl, (f4B.out.drewN _).drewN _⟩
end Go.Proofs.Ytgdonempmblhhaa
