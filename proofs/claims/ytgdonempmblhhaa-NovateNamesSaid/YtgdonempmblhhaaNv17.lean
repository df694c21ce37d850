/- cambistref15.fits. -/
import Derived.Test.YtgdonempmblhhaaNv14
import Derived.Deep.DeepCutAuto
set_option linter.unusedSimpArgs false
set_option linter.unusedVariables false
namespace Go.Proofs.Ytgdonempmblhhaa
open Go.RowKit Go.Lib
theorem decide_eq_beq' (a b : Int) : decide (a = b) = (a == b) := by
  by_cases h : a = b <;> simp [h]
set_option maxRecDepth 10000 in
set_option maxHeartbeats 1000000 in
theorem refFits_any (tb ts tq tp b0 : Int) (b1 b2 : ByteArray) (b3 : Bool) (b4 b5 s0 : Int) (s1 s2 : ByteArray) (s3 : Bool) (s4 s5 : Int) (w : World) (hb1 : b1.size ≤ 4294967280) (hb2 : b2.size ≤ 4294967280) (hs1 : s1.size ≤ 4294967280) (hs2 : s2.size ≤ 4294967280) :
    Calls Try.prog 40 #[.agg #[.int .u64 tb, .int .u64 ts, .int .i64 tq, .int .i64 tp], .agg #[.int .u64 b0, .string b1, .string b2, .bool b3, .int .i64 b4, .int .i64 b5], .agg #[.int .u64 s0, .string s1, .string s2, .bool s3, .int .i64 s4, .int .i64 s5]] w fun e w' => e = .returned (.bool (fitsP ⟨tb, ts, tq, tp⟩ ⟨b0, b1, b2, b3, b4, b5⟩ ⟨s0, s1, s2, s3, s4, s5⟩)) ∧ Bel w w' := by
  obtain ⟨fp, hfp⟩ : ∃ fp, fitsP ⟨tb, ts, tq, tp⟩ ⟨b0, b1, b2, b3, b4, b5⟩ ⟨s0, s1, s2, s3, s4, s5⟩ = fp := ⟨_, rfl⟩
  rw [hfp]
  have HFP := hid_ hfp
  clear hfp
  have z1 := sizeAl w (.cells #[.int .u64 tb, .int .u64 ts, .int .i64 tq, .int .i64 tp] 25)
  have z2 := sizeAl (w.alloc (.cells #[.int .u64 tb, .int .u64 ts, .int .i64 tq, .int .i64 tp] 25)) (.cells #[.int .u64 b0, .string b1, .string b2, .bool b3, .int .i64 b4, .int .i64 b5] 27)
  rw [z1] at z2
  have kt : Bx (((w.alloc (.cells #[.int .u64 tb, .int .u64 ts, .int .i64 tq, .int .i64 tp] 25)).alloc (.cells #[.int .u64 b0, .string b1, .string b2, .bool b3, .int .i64 b4, .int .i64 b5] 27)).alloc (.cells #[.int .u64 s0, .string s1, .string s2, .bool s3, .int .i64 s4, .int .i64 s5] 27)) w.heap.size 25 [.int .u64 tb, .int .u64 ts, .int .i64 tq, .int .i64 tp] := ((Bx.new w _ _).alloc _).alloc _
  have kb := (Bx.new (w.alloc (.cells #[.int .u64 tb, .int .u64 ts, .int .i64 tq, .int .i64 tp] 25)) 27 [.int .u64 b0, .string b1, .string b2, .bool b3, .int .i64 b4, .int .i64 b5]).alloc (.cells #[.int .u64 s0, .string s1, .string s2, .bool s3, .int .i64 s4, .int .i64 s5] 27)
  rw [z1] at kb
  have ks := Bx.new ((w.alloc (.cells #[.int .u64 tb, .int .u64 ts, .int .i64 tq, .int .i64 tp] 25)).alloc (.cells #[.int .u64 b0, .string b1, .string b2, .bool b3, .int .i64 b4, .int .i64 b5] 27)) 27 [.int .u64 s0, .string s1, .string s2, .bool s3, .int .i64 s4, .int .i64 s5]
  rw [z2] at ks
  have hb : Bel w (((w.alloc (.cells #[.int .u64 tb, .int .u64 ts, .int .i64 tq, .int .i64 tp] 25)).alloc (.cells #[.int .u64 b0, .string b1, .string b2, .bool b3, .int .i64 b4, .int .i64 b5] 27)).alloc (.cells #[.int .u64 s0, .string s1, .string s2, .bool s3, .int .i64 s4, .int .i64 s5] 27)) := (((Bel.refl w).alloc _).alloc _).alloc _
  have KT := hid_ kt
  have KB := hid_ kb
  have KS := hid_ ks
  have HB := hid_ hb
  have SZ : Hid ((b1.size ≤ 4294967280 ∧ b2.size ≤ 4294967280) ∧ (s1.size ≤ 4294967280 ∧ s2.size ≤ 4294967280)) := hid_ ⟨⟨hb1, hb2⟩, ⟨hs1, hs2⟩⟩
  clear z1 z2 kt kb ks hb hb1 hb2 hs1 hs2
  go_enter Try.func40, Try.ntmps40
  go_upto_region 1 with (fail)
  generalize ((w.alloc (.cells #[.int .u64 tb, .int .u64 ts, .int .i64 tq, .int .i64 tp] 25)).alloc (.cells #[.int .u64 b0, .string b1, .string b2, .bool b3, .int .i64 b4, .int .i64 b5] 27)).alloc (.cells #[.int .u64 s0, .string s1, .string s2, .bool s3, .int .i64 s4, .int .i64 s5] 27) = W3 at KT KB KS HB ⊢
  generalize w.heap.size + 2 = gs at KS ⊢
  generalize w.heap.size + 1 = gb at KB ⊢
  obtain ⟨gt, hgt⟩ : ∃ gt, w.heap.size = gt := ⟨_, rfl⟩
  rw [hgt] at KT
  try rw [hgt]
  clear hgt
  obtain ⟨cb, hcb⟩ : ∃ cb, checkB b1 b2 b4 b5 = cb := ⟨_, rfl⟩
  obtain ⟨cs, hcs⟩ : ∃ cs, checkB s1 s2 s4 s5 = cs := ⟨_, rfl⟩
  obtain ⟨em, hem⟩ : ∃ em, decide (b2 = s2) = em := ⟨_, rfl⟩
  have e1 := bytesEq b2 s2
  rw [hem] at e1
  have CB := hid_ hcb
  have CS := hid_ hcs
  have EM := hid_ hem
  clear hcb hcs hem
  go_cut [7] (fun s7 wx => s7 = .bool (cb && (cs && em)) ∧ Bel W3 wx)
  case first =>
    have q0 := (KB.out).cell 0 rfl
    have q1 := (KB.out).cell 1 rfl
    have q2 := (KB.out).cell 2 rfl
    have q3 := (KB.out).cell 3 rfl
    have q4 := (KB.out).cell 4 rfl
    have q5 := (KB.out).cell 5 rfl
    go_wp2_with fail
    refine (refCheck_any b0 b1 b2 b3 b4 b5 W3 SZ.out.1.1 SZ.out.1.2).mono ?_
    rintro e w4 ⟨rfl, b⟩
    have HB4 := hid_ b
    clear q0 q1 q2 q3 q4 q5
    cases cb
    · rw [check_no CB.out]
      clear b
      go_wp2
      go_meet
      exact ⟨rfl, HB4.out⟩
    rw [check_yes CB.out]
    have r0 := (KS.out.bel b).cell 0 rfl
    have r1 := (KS.out.bel b).cell 1 rfl
    have r2 := (KS.out.bel b).cell 2 rfl
    have r3 := (KS.out.bel b).cell 3 rfl
    have r4 := (KS.out.bel b).cell 4 rfl
    have r5 := (KS.out.bel b).cell 5 rfl
    clear b
    go_wp2_with fail
    refine (refCheck_any s0 s1 s2 s3 s4 s5 w4 SZ.out.2.1 SZ.out.2.2).mono ?_
    rintro e w5 ⟨rfl, b⟩
    have HB5 := hid_ (HB4.out.trans b)
    clear r0 r1 r2 r3 r4 r5
    cases cs
    · rw [check_no CS.out]
      clear b
      go_wp2
      go_meet
      exact ⟨rfl, HB5.out⟩
    rw [check_yes CS.out]
    have q2 := (KB.out.bel HB5.out).cell 2 rfl
    have r2 := (KS.out.bel HB5.out).cell 2 rfl
    clear b
    go_wp2
    go_meet
    exact ⟨rfl, HB5.out⟩
  case rest =>
    obtain ⟨rfl, hbx⟩ := hcut
    have BX := hid_ hbx
    have t0 := (KT.out.bel hbx).cell 0 rfl
    have t1 := (KT.out.bel hbx).cell 1 rfl
    have t2 := (KT.out.bel hbx).cell 2 rfl
    have t3 := (KT.out.bel hbx).cell 3 rfl
    have q0 := (KB.out.bel hbx).cell 0 rfl
    have q3 := (KB.out.bel hbx).cell 3 rfl
    have q4 := (KB.out.bel hbx).cell 4 rfl
    have q5 := (KB.out.bel hbx).cell 5 rfl
    have r0 := (KS.out.bel hbx).cell 0 rfl
    have r3 := (KS.out.bel hbx).cell 3 rfl
    have r4 := (KS.out.bel hbx).cell 4 rfl
    have r5 := (KS.out.bel hbx).cell 5 rfl
    obtain ⟨g1, hg1⟩ : ∃ g1, (tb == b0) = g1 := ⟨_, rfl⟩
    obtain ⟨g2, hg2⟩ : ∃ g2, (ts == s0) = g2 := ⟨_, rfl⟩
    obtain ⟨g3, hg3⟩ : ∃ g3, decide (1 ≤ tq) = g3 := ⟨_, rfl⟩
    obtain ⟨g4, hg4⟩ : ∃ g4, decide (tq ≤ b5) = g4 := ⟨_, rfl⟩
    obtain ⟨g5, hg5⟩ : ∃ g5, decide (tq ≤ s5) = g5 := ⟨_, rfl⟩
    obtain ⟨g6, hg6⟩ : ∃ g6, decide (tp ≤ b4) = g6 := ⟨_, rfl⟩
    obtain ⟨g7, hg7⟩ : ∃ g7, decide (s4 ≤ tp) = g7 := ⟨_, rfl⟩
    have HFIN : Hid (fp = ((cb && (cs && em)) && ((b3 && (!s3 && (g1 && g2))) && ((g3 && (g4 && g5)) && (g6 && g7))))) := hid_ (by
      rw [← HFP.out, ← CB.out, ← CS.out, ← EM.out, ← hg1, ← hg2, ← hg3, ← hg4, ← hg5, ← hg6, ← hg7]
      unfold fitsP fit1
      simp only [decide_eq_beq']
      ac_rfl)
    obtain ⟨good, hgood⟩ : ∃ g, (cb && (cs && em)) = g := ⟨_, rfl⟩
    rw [hgood]
    rw [hgood] at HFIN
    clear hgood hbx e1
    go_upto_region 2 with (fail)
    go_cut [8] (fun s8 wx => s8 = .bool (b3 && (!s3 && (g1 && g2))) ∧ wc = wx)
    case first =>
      clear hg3 hg4 hg5 hg6 hg7
      cases b3
      · go_wp2; go_meet; exact ⟨rfl, rfl⟩
      cases s3
      · cases g1
        · go_wp2; go_meet; exact ⟨rfl, rfl⟩
        · go_wp2; go_meet; exact ⟨rfl, rfl⟩
      · go_wp2; go_meet; exact ⟨rfl, rfl⟩
    case rest =>
      obtain ⟨rfl, rfl⟩ := hcut
      clear hg1 hg2
      go_upto_region 3 with (fail)
      go_cut [9] (fun s9 wx => s9 = .bool (g3 && (g4 && g5)) ∧ wc = wx)
      case first =>
        clear hg6 hg7
        cases g3
        · go_wp2; go_meet; exact ⟨rfl, rfl⟩
        · cases g4
          · go_wp2; go_meet; exact ⟨rfl, rfl⟩
          · go_wp2; go_meet; exact ⟨rfl, rfl⟩
      case rest =>
        obtain ⟨rfl, rfl⟩ := hcut
        clear hg3 hg4 hg5
        generalize (b3 && (!s3 && (g1 && g2))) = sides at HFIN ⊢
        generalize (g3 && (g4 && g5)) = much at HFIN ⊢
        clear HFP CB CS EM
        cases good
        · have HF : Hid (fp = false) := hid_ (by rw [HFIN.out]; rfl)
          clear HFIN
          go_wp2
          go_ret
          exact ⟨by rw [HF.out]; rfl, HB.out.trans BX.out⟩
        cases sides
        · have HF : Hid (fp = false) := hid_ (by rw [HFIN.out]; rfl)
          clear HFIN
          go_wp2
          go_ret
          exact ⟨by rw [HF.out]; rfl, HB.out.trans BX.out⟩
        cases much
        · have HF : Hid (fp = false) := hid_ (by rw [HFIN.out]; rfl)
          clear HFIN
          go_wp2
          go_ret
          exact ⟨by rw [HF.out]; rfl, HB.out.trans BX.out⟩
        cases g6
        · have HF : Hid (fp = false) := hid_ (by rw [HFIN.out]; rfl)
          clear HFIN
          go_wp2
          go_ret
          exact ⟨by rw [HF.out]; rfl, HB.out.trans BX.out⟩
        · have HF : Hid (fp = g7) := hid_ (by rw [HFIN.out]; rfl)
          clear HFIN
          go_wp2
          go_ret
          exact ⟨by rw [HF.out]; rfl, HB.out.trans BX.out⟩
end Go.Proofs.Ytgdonempmblhhaa
