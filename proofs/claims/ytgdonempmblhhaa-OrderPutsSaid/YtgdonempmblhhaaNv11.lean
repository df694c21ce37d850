/- novate.fits. -/
import Derived.Test.YtgdonempmblhhaaNv9
import Derived.Test.YtgdonempmblhhaaNv10
import Derived.Test.YtgdonempmblhhaaTyTrd
import Derived.Test.YtgdonempmblhhaaBox
set_option linter.unusedSimpArgs false
set_option linter.unusedVariables false
namespace Go.Proofs.Ytgdonempmblhhaa
open Go.RowKit Go.Lib
def fit1 (q : Int) (o : Ord) : Bool := checkB o.who o.market o.price o.left && decide (q ≤ o.left)
def fitsP (t : Trd) (b s : Ord) : Bool := fit1 t.quantity b && (fit1 t.quantity s && (b.buy && (!s.buy && (decide (t.buy = b.number) && (decide (t.sell = s.number) && (decide (b.market = s.market) && (decide (1 ≤ t.quantity) && (decide (t.price ≤ b.price) && decide (s.price ≤ t.price)))))))))
/-- A text that came in is no longer than it may be. -/
def ordSz (o : Ord) : Prop := o.who.size ≤ 4294967280 ∧ o.market.size ≤ 4294967280
set_option maxRecDepth 10000 in
set_option maxHeartbeats 4000000 in
theorem fits_any (tb ts tq tp b0 : Int) (b1 b2 : ByteArray) (b3 : Bool) (b4 b5 s0 : Int) (s1 s2 : ByteArray) (s3 : Bool) (s4 s5 : Int) (w : World) (hb1 : b1.size ≤ 4294967280) (hb2 : b2.size ≤ 4294967280) (hs1 : s1.size ≤ 4294967280) (hs2 : s2.size ≤ 4294967280) :
    Calls Try.prog 36 #[.agg #[.int .u64 tb, .int .u64 ts, .int .i64 tq, .int .i64 tp], .agg #[.int .u64 b0, .string b1, .string b2, .bool b3, .int .i64 b4, .int .i64 b5], .agg #[.int .u64 s0, .string s1, .string s2, .bool s3, .int .i64 s4, .int .i64 s5]] w fun e w' => e = .returned (.bool (fitsP ⟨tb, ts, tq, tp⟩ ⟨b0, b1, b2, b3, b4, b5⟩ ⟨s0, s1, s2, s3, s4, s5⟩)) ∧ Bel w w' := by
  obtain ⟨fp, hfp⟩ : ∃ fp, fitsP ⟨tb, ts, tq, tp⟩ ⟨b0, b1, b2, b3, b4, b5⟩ ⟨s0, s1, s2, s3, s4, s5⟩ = fp := ⟨_, rfl⟩
  rw [hfp]
  have HFP := hid_ hfp
  clear hfp
  have z1 := sizeAl w (.cells #[.int .u64 tb, .int .u64 ts, .int .i64 tq, .int .i64 tp] 25)
  have z2 := sizeAl (w.alloc (.cells #[.int .u64 tb, .int .u64 ts, .int .i64 tq, .int .i64 tp] 25)) (.cells #[.int .u64 b0, .string b1, .string b2, .bool b3, .int .i64 b4, .int .i64 b5] 27)
  rw [z1] at z2
  have z3 := sizeAl ((w.alloc (.cells #[.int .u64 tb, .int .u64 ts, .int .i64 tq, .int .i64 tp] 25)).alloc (.cells #[.int .u64 b0, .string b1, .string b2, .bool b3, .int .i64 b4, .int .i64 b5] 27)) (.cells #[.int .u64 s0, .string s1, .string s2, .bool s3, .int .i64 s4, .int .i64 s5] 27)
  rw [z2] at z3
  have kt : Bx (((w.alloc (.cells #[.int .u64 tb, .int .u64 ts, .int .i64 tq, .int .i64 tp] 25)).alloc (.cells #[.int .u64 b0, .string b1, .string b2, .bool b3, .int .i64 b4, .int .i64 b5] 27)).alloc (.cells #[.int .u64 s0, .string s1, .string s2, .bool s3, .int .i64 s4, .int .i64 s5] 27)) w.heap.size 25 [.int .u64 tb, .int .u64 ts, .int .i64 tq, .int .i64 tp] := ((Bx.new w _ _).alloc _).alloc _
  have kb := (Bx.new (w.alloc (.cells #[.int .u64 tb, .int .u64 ts, .int .i64 tq, .int .i64 tp] 25)) 27 [.int .u64 b0, .string b1, .string b2, .bool b3, .int .i64 b4, .int .i64 b5]).alloc (.cells #[.int .u64 s0, .string s1, .string s2, .bool s3, .int .i64 s4, .int .i64 s5] 27)
  rw [z1] at kb
  have ks := Bx.new ((w.alloc (.cells #[.int .u64 tb, .int .u64 ts, .int .i64 tq, .int .i64 tp] 25)).alloc (.cells #[.int .u64 b0, .string b1, .string b2, .bool b3, .int .i64 b4, .int .i64 b5] 27)) 27 [.int .u64 s0, .string s1, .string s2, .bool s3, .int .i64 s4, .int .i64 s5]
  rw [z2] at ks
  have hb : Bel w (((w.alloc (.cells #[.int .u64 tb, .int .u64 ts, .int .i64 tq, .int .i64 tp] 25)).alloc (.cells #[.int .u64 b0, .string b1, .string b2, .bool b3, .int .i64 b4, .int .i64 b5] 27)).alloc (.cells #[.int .u64 s0, .string s1, .string s2, .bool s3, .int .i64 s4, .int .i64 s5] 27)) := (((Bel.refl w).alloc _).alloc _).alloc _
  have rl0 := Row.lit (T := ordT) (((w.alloc (.cells #[.int .u64 tb, .int .u64 ts, .int .i64 tq, .int .i64 tp] 25)).alloc (.cells #[.int .u64 b0, .string b1, .string b2, .bool b3, .int .i64 b4, .int .i64 b5] 27)).alloc (.cells #[.int .u64 s0, .string s1, .string s2, .bool s3, .int .i64 s4, .int .i64 s5] 27)) [⟨b0, b1, b2, b3, b4, b5⟩, ⟨s0, s1, s2, s3, s4, s5⟩] (0, 0) (by simp)
  rw [z3] at rl0
  have rl : Row ordT ((((w.alloc (.cells #[.int .u64 tb, .int .u64 ts, .int .i64 tq, .int .i64 tp] 25)).alloc (.cells #[.int .u64 b0, .string b1, .string b2, .bool b3, .int .i64 b4, .int .i64 b5] 27)).alloc (.cells #[.int .u64 s0, .string s1, .string s2, .bool s3, .int .i64 s4, .int .i64 s5] 27)).alloc (.cells (List.flatMap ordT.enc [⟨b0, b1, b2, b3, b4, b5⟩, ⟨s0, s1, s2, s3, s4, s5⟩]).toArray ordT.e)) (some ⟨w.heap.size + 3, 0, none⟩) 2 [⟨b0, b1, b2, b3, b4, b5⟩, ⟨s0, s1, s2, s3, s4, s5⟩] := rl0
  have KT := hid_ (kt.alloc (.cells (List.flatMap ordT.enc [⟨b0, b1, b2, b3, b4, b5⟩, ⟨s0, s1, s2, s3, s4, s5⟩]).toArray ordT.e))
  have KB := hid_ (kb.alloc (.cells (List.flatMap ordT.enc [⟨b0, b1, b2, b3, b4, b5⟩, ⟨s0, s1, s2, s3, s4, s5⟩]).toArray ordT.e))
  have KS := hid_ (ks.alloc (.cells (List.flatMap ordT.enc [⟨b0, b1, b2, b3, b4, b5⟩, ⟨s0, s1, s2, s3, s4, s5⟩]).toArray ordT.e))
  have HB := hid_ (hb.alloc (.cells (List.flatMap ordT.enc [⟨b0, b1, b2, b3, b4, b5⟩, ⟨s0, s1, s2, s3, s4, s5⟩]).toArray ordT.e))
  have RL := hid_ rl
  have SZ : Hid ((b1.size ≤ 4294967280 ∧ b2.size ≤ 4294967280) ∧ (s1.size ≤ 4294967280 ∧ s2.size ≤ 4294967280)) := hid_ ⟨⟨hb1, hb2⟩, ⟨hs1, hs2⟩⟩
  clear z1 z2 z3 kt kb ks hb rl rl0 hb1 hb2 hs1 hs2
  go_enter Try.func36, Try.ntmps36
  go_wp2_with fail
  obtain ⟨W4, hW4⟩ : ∃ W4, (((w.alloc (.cells #[.int .u64 tb, .int .u64 ts, .int .i64 tq, .int .i64 tp] 25)).alloc (.cells #[.int .u64 b0, .string b1, .string b2, .bool b3, .int .i64 b4, .int .i64 b5] 27)).alloc (.cells #[.int .u64 s0, .string s1, .string s2, .bool s3, .int .i64 s4, .int .i64 s5] 27)).alloc (.cells (List.flatMap ordT.enc [⟨b0, b1, b2, b3, b4, b5⟩, ⟨s0, s1, s2, s3, s4, s5⟩]).toArray ordT.e) = W4 := ⟨_, rfl⟩
  rw [hW4] at KT KB KS HB RL
  have hW4' : (((w.alloc (.cells #[.int .u64 tb, .int .u64 ts, .int .i64 tq, .int .i64 tp] 25)).alloc (.cells #[.int .u64 b0, .string b1, .string b2, .bool b3, .int .i64 b4, .int .i64 b5] 27)).alloc (.cells #[.int .u64 s0, .string s1, .string s2, .bool s3, .int .i64 s4, .int .i64 s5] 27)).alloc (.cells #[.int .u64 b0, .string b1, .string b2, .bool b3, .int .i64 b4, .int .i64 b5, .int .u64 s0, .string s1, .string s2, .bool s3, .int .i64 s4, .int .i64 s5] 27) = W4 := hW4
  rw [hW4']
  clear hW4 hW4'
  generalize (⟨w.heap.size + 3, 0, none⟩ : Addr) = AD at RL ⊢
  go_loopw [14] (fun i wr => ∃ j : Nat, j ≤ 2 ∧ i = .int .i64 j ∧ Hid (∀ k o, k < j → [(⟨b0, b1, b2, b3, b4, b5⟩ : Ord), ⟨s0, s1, s2, s3, s4, s5⟩][k]? = some o → fit1 tq o = true) ∧ Bel W4 wr) (fun i _ => 2 - (intOf i).toNat)
  case atStart => exact ⟨0, by omega, rfl, hid_ (fun k o h => absurd h (by omega)), Bel.refl _⟩
  case round =>
    obtain ⟨j, hj, rfl, hx, hbr⟩ := hrel
    have BR := hid_ hbr
    have t2 := (KT.out.bel hbr).cell 2 rfl
    clear hbr
    by_cases hj2 : j < 2
    · obtain ⟨ad, o0, o1, o2, o3, o4, o5, e, ho, d0, d1, d2, d3, d4, d5⟩ := (RL.out.bel BR.out).ord hj2
      cases e
      have HO := hid_ ho
      have SO : Hid (o1.size ≤ 4294967280 ∧ o2.size ≤ 4294967280) := hid_ (by
        rcases j with _ | _ | j
        · simp at ho; obtain ⟨_, rfl, rfl, _⟩ := ho; exact SZ.out.1
        · simp at ho; obtain ⟨_, rfl, rfl, _⟩ := ho; exact SZ.out.2
        · omega)
      clear ho
      go_wp2_with fail
      refine (orderCheck_any o0 o1 o2 o3 o4 o5 _ SO.out.1 SO.out.2).mono ?_
      rintro e w5 ⟨rfl, b⟩
      have b5 : Bel W4 w5 := BR.out.trans (((Bel.refl wr).alloc _).trans b)
      have KO := hid_ ((Bx.new wr 27 [.int .u64 o0, .string o1, .string o2, .bool o3, .int .i64 o4, .int .i64 o5]).bel b)
      have BR5 := hid_ b5
      clear d0 d1 d2 d3 d4 d5 t2
      have t2 := (KT.out.bel b5).cell 2 rfl
      have q5 := KO.out.cell 5 rfl
      clear b b5
      obtain ⟨cb, hcb⟩ : ∃ cb, checkB o1 o2 o4 o5 = cb := ⟨_, rfl⟩
      have CB := hid_ hcb
      clear hcb
      have hbad : fit1 tq ⟨o0, o1, o2, o3, o4, o5⟩ = false → fp = false := by
        intro hf
        rw [← HFP.out]
        have h1 := HO.out
        rcases j with _ | _ | j
        · have h2 : (⟨b0, b1, b2, b3, b4, b5⟩ : Ord) = ⟨o0, o1, o2, o3, o4, o5⟩ := by simpa using h1
          unfold fitsP
          rw [h2, hf]
          rfl
        · have h2 : (⟨s0, s1, s2, s3, s4, s5⟩ : Ord) = ⟨o0, o1, o2, o3, o4, o5⟩ := by simpa using h1
          unfold fitsP
          rw [h2, hf, Bool.false_and, Bool.and_false]
        · simp at h1
      have HBAD := hid_ hbad
      clear hbad
      cases cb
      · have HF : Hid (fp = false) := hid_ (HBAD.out (by unfold fit1; rw [CB.out]; rfl))
        rw [check_no CB.out]
        go_wp2
        go_ret
        exact ⟨by rw [HF.out]; rfl, HB.out.trans BR5.out⟩
      rw [check_yes CB.out]
      by_cases hq : o5 < tq
      · have HF : Hid (fp = false) := hid_ (HBAD.out (by unfold fit1; rw [decide_eq_false (show ¬ tq ≤ o5 by omega), Bool.and_false]))
        go_wp2
        go_ret
        exact ⟨by rw [HF.out]; rfl, HB.out.trans BR5.out⟩
      · have HN : Hid (∀ k o, k < j + 1 → [(⟨b0, b1, b2, b3, b4, b5⟩ : Ord), ⟨s0, s1, s2, s3, s4, s5⟩][k]? = some o → fit1 tq o = true) := hid_ (by
          intro k o hk hko
          rcases Nat.lt_or_ge k j with h | h
          · exact hx.out k o h hko
          · obtain rfl : k = j := by omega
            rw [HO.out] at hko
            cases hko
            unfold fit1
            rw [CB.out, decide_eq_true (show tq ≤ o5 by omega)]
            rfl)
        clear HBAD hx HO SO CB
        go_wp2
        case roundEnd =>
          go_roundw
          case rel => exact ⟨j + 1, by omega, by go_num, HN, BR5.out⟩
          case measure => simp [intOf]; omega
    · obtain rfl : j = 2 := by omega
      have f1 : fit1 tq ⟨b0, b1, b2, b3, b4, b5⟩ = true := hx.out 0 _ (by omega) rfl
      have f2 : fit1 tq ⟨s0, s1, s2, s3, s4, s5⟩ = true := hx.out 1 _ (by omega) rfl
      have hfp := HFP.out
      unfold fitsP at hfp
      rw [f1, f2, Bool.true_and, Bool.true_and] at hfp
      have HFP2 := hid_ hfp
      have HE := hid_ (HB.out.trans BR.out)
      have u0 := (KT.out.bel BR.out).cell 0 rfl
      have u1 := (KT.out.bel BR.out).cell 1 rfl
      have u3 := (KT.out.bel BR.out).cell 3 rfl
      have v0 := (KB.out.bel BR.out).cell 0 rfl
      have v2 := (KB.out.bel BR.out).cell 2 rfl
      have v3 := (KB.out.bel BR.out).cell 3 rfl
      have v4 := (KB.out.bel BR.out).cell 4 rfl
      have x0 := (KS.out.bel BR.out).cell 0 rfl
      have x2 := (KS.out.bel BR.out).cell 2 rfl
      have x3 := (KS.out.bel BR.out).cell 3 rfl
      have x4 := (KS.out.bel BR.out).cell 4 rfl
      clear hfp f1 f2 hx HFP KT KB KS HB RL SZ BR
      obtain ⟨em, hem⟩ : ∃ em, decide (b2 = s2) = em := ⟨_, rfl⟩
      have e1 := bytesEq b2 s2
      rw [hem] at e1
      have EM := hid_ hem
      clear hem
      cases b3
      · have HF : Hid (fp = false) := hid_ (by rw [← HFP2.out]; rfl)
        clear HFP2
        go_wp2
        go_ret
        exact ⟨by rw [HF.out]; rfl, HE.out⟩
      cases s3
      · by_cases c1 : tb = b0
        · by_cases c2 : ts = s0
          · cases em
            · have HF : Hid (fp = false) := hid_ (by rw [← HFP2.out, EM.out]; simp)
              clear HFP2
              have g1 : (tb == b0) = true := by simp [c1]
              have g2 : (ts == s0) = true := by simp [c2]
              clear c1 c2
              go_wp2
              go_ret
              exact ⟨by rw [HF.out]; rfl, HE.out⟩
            · have g1 : (tb == b0) = true := by simp [c1]
              have g2 : (ts == s0) = true := by simp [c2]
              by_cases c3 : 1 ≤ tq
              · by_cases c4 : tp ≤ b4
                · by_cases c5 : s4 ≤ tp
                  · have HF : Hid (fp = true) := hid_ (by rw [← HFP2.out, EM.out, decide_eq_true c1, decide_eq_true c2, decide_eq_true c3, decide_eq_true c4, decide_eq_true c5]; rfl)
                    clear HFP2 c1 c2
                    go_wp2
                    go_ret
                    exact ⟨by rw [HF.out]; rfl, HE.out⟩
                  · have HF : Hid (fp = false) := hid_ (by rw [← HFP2.out, decide_eq_false c5]; simp)
                    clear HFP2 c1 c2
                    go_wp2
                    go_ret
                    exact ⟨by rw [HF.out]; rfl, HE.out⟩
                · have HF : Hid (fp = false) := hid_ (by rw [← HFP2.out, decide_eq_false c4]; simp)
                  clear HFP2 c1 c2
                  go_wp2
                  go_ret
                  exact ⟨by rw [HF.out]; rfl, HE.out⟩
              · have HF : Hid (fp = false) := hid_ (by rw [← HFP2.out, decide_eq_false c3]; simp)
                clear HFP2 c1 c2
                go_wp2
                go_ret
                exact ⟨by rw [HF.out]; rfl, HE.out⟩
          · have HF : Hid (fp = false) := hid_ (by rw [← HFP2.out, decide_eq_false c2]; simp)
            have g1 : (tb == b0) = true := by simp [c1]
            have g2 : (ts == s0) = false := by simp [c2]
            clear HFP2 c1 c2
            go_wp2
            go_ret
            exact ⟨by rw [HF.out]; rfl, HE.out⟩
        · have HF : Hid (fp = false) := hid_ (by rw [← HFP2.out, decide_eq_false c1]; simp)
          have g1 : (tb == b0) = false := by simp [c1]
          clear HFP2 c1
          go_wp2
          go_ret
          exact ⟨by rw [HF.out]; rfl, HE.out⟩
      · have HF : Hid (fp = false) := hid_ (by rw [← HFP2.out]; rfl)
        clear HFP2
        go_wp2
        go_ret
        exact ⟨by rw [HF.out]; rfl, HE.out⟩
end Go.Proofs.Ytgdonempmblhhaa
