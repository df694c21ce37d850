/- page.Check: the walk of kind 2. -/
import Derived.Test.YtcfabnkkkpcelaaPg4
import Derived.Test.YtcfabnkkkpcelaaPgB
import Derived.Test.YtcfabnkkkpcelaaBox
import Derived.Deep.DeepCutAuto
set_option linter.unusedSimpArgs false
set_option linter.unusedVariables false
namespace Go.Proofs.Ytcfabnkkkpcelaa
open Go.RowKit Go.Lib
set_option maxRecDepth 10000 in
set_option maxHeartbeats 16000000 in
theorem check2_any (P : Pg) (A B C D : Option Addr) (n c m d k e l f : Nat) (w : World) (hP : PgAt w P A n B m C k D l) (hw : PgW P) (hs : n ≤ 4398046511104) (hs2 : m ≤ 17592186044416) (hs3 : k ≤ 17592186044416) (hs4 : l ≤ 17592186044416) (k2 : P.kind = 2) :
    Calls Try.prog 14 #[pgV P (.slice A n c) (.slice B m d) (.slice C k e) (.slice D l f)] w fun e w' => e = .returned (.int .i64 (chkP P)) ∧ Bel w w' := by
  have hn1 := hP.pairs.1
  have hn2 := hP.keys.1
  have hn3 := hP.kids.1
  have hn4 := hP.pages.1
  have HP := hid_ hP
  have HK := hid_ k2
  clear k2
  have HW := hid_ hw
  unfold pgV pgC
  go_enter Try.func14, Try.ntmps14
  go_upto_region 2 with (fail)
  have bx := Bx.new w 28 (pgC P (.slice A n c) (.slice B m d) (.slice C k e) (.slice D l f))
  have HB := hid_ ((Bel.refl w).alloc (.cells (pgC P (.slice A n c) (.slice B m d) (.slice C k e) (.slice D l f)).toArray 28))
  unfold pgC at bx HB
  generalize w.alloc (.cells #[.int .i64 P.kind, .slice A n c, .slice B m d, .slice C k e, .slice D l f, .int .i64 P.next, .int .u64 P.epoch, .int .i64 P.root, .int .i64 P.depth, .int .i64 P.count, .int .i64 P.high] 28) = W0 at bx HB ⊢
  generalize w.heap.size = g at bx ⊢
  have c0 := bx.cell 0 rfl
  have c1 := bx.cell 1 rfl
  have c2 := bx.cell 2 rfl
  have c3 := bx.cell 3 rfl
  have c4 := bx.cell 4 rfl
  have c5 := bx.cell 5 rfl
  have c6 := bx.cell 6 rfl
  have c7 := bx.cell 7 rfl
  have c8 := bx.cell 8 rfl
  have c9 := bx.cell 9 rfl
  have c10 := bx.cell 10 rfl
  have BX := hid_ bx
  clear bx hP hw
  go_quiet (fail)
  obtain ⟨W1, hW1, hb1⟩ : ∃ W1, W0.drewN nq = W1 ∧ Bel W0 W1 := ⟨_, rfl, (Bel.refl W0).drewN _⟩
  rw [hW1]
  have HB1 := hid_ (HB.out.trans hb1)
  replace c0 := hb1.cell_ c0
  replace c1 := hb1.cell_ c1
  replace c2 := hb1.cell_ c2
  replace c3 := hb1.cell_ c3
  replace c4 := hb1.cell_ c4
  replace c5 := hb1.cell_ c5
  replace c6 := hb1.cell_ c6
  replace c7 := hb1.cell_ c7
  replace c8 := hb1.cell_ c8
  replace c9 := hb1.cell_ c9
  replace c10 := hb1.cell_ c10
  have HP1 := hid_ (HP.out.bel HB1.out)
  clear hW1 hb1 HB BX HP
  have HH := hid_ (heads_eq HW.out)
  have E1 : Hid (decide (0 < n) = !noPairs P) := hid_ (by rw [noPairs, hn1, gt0])
  have E2 : Hid (decide (0 < (m : Int) + (k : Int)) = !noKids P) := hid_ (by rw [noKids, hn2, hn3, gt00])
  have E3 : Hid (decide (0 < l) = !noPages P) := hid_ (by rw [noPages, hn4, gt0])
  rw [E1.out, E2.out, E3.out]
  clear E1 E2 E3
  go_upto_region 3 with (fail)
  go_cut [7] (fun h wx => h = .bool (!headsB P) ∧ wx = W1)
  case first =>
    by_cases e0 : P.epoch = 0
    · rw [e0] at c6
      go_wp2_with fail
      go_meet
      exact ⟨by rw [← HH.out, e0]; rfl, rfl⟩
    · have q : (P.epoch != 0) = true := bne_iff_ne.2 e0
      clear e0
      go_wp2_with fail
      go_meet
      exact ⟨by rw [← HH.out, q]; rfl, rfl⟩
  case rest =>
    obtain ⟨rfl, rfl⟩ := hcut
    obtain ⟨W1, hW1⟩ : ∃ W1, wc = W1 := ⟨_, rfl⟩
    rw [hW1] at HB1 c0 c1 c2 c3 c4 c5 c6 c7 c8 c9 c10 HP1 ⊢
    clear hW1
    clear c6 HH
    obtain ⟨bp, hbp⟩ : ∃ t, noPairs P = t := ⟨_, rfl⟩
    obtain ⟨bk, hbk⟩ : ∃ t, noKids P = t := ⟨_, rfl⟩
    obtain ⟨bg, hbg⟩ : ∃ t, noPages P = t := ⟨_, rfl⟩
    obtain ⟨bh, hbh⟩ : ∃ t, headsB P = t := ⟨_, rfl⟩
    rw [hbp, hbk, hbg, hbh]
    have HBP := hid_ hbp
    have HBK := hid_ hbk
    have HBG := hid_ hbg
    have HBH := hid_ hbh
    clear hbp hbk hbg hbh
    · rw [HK.out] at c0
      by_cases qF1 : 1 ≤ m
      · have HF1 := hid_ (decide_eq_true qF1)
        by_cases qF2 : m ≤ 12
        · have HF2 := hid_ (decide_eq_true qF2)
          by_cases qF3 : k = m + 1
          · have HF3 := hid_ (decide_eq_true qF3)
            have rF3 : ((k : Int) == (m : Int) + 1) = true := by rw [beq_iff_eq]; omega
            clear qF3
            obtain ⟨t, ht⟩ : ∃ t, riseB P.keys = t := ⟨_, rfl⟩
            have HT := hid_ ht
            clear ht
            cases t
            · skip
              have HF : Hid (chkP P = 50) := hid_ (by rw [chk_2 HK.out, show ok2 P = false from by rw [ok2, fitB, hn2, hn3, HF1.out, HF2.out, HF3.out, HT.out]; rfl]; rfl)
              go_wp2_with (first | (go_at_call 33; refine (rise_any _ _ _ _ _ HP1.out.keys).mono ?_; rintro e _ ⟨rfl, rfl⟩; rw [HT.out]) | (go_at_call 34; refine (containsBad_any _ _ _ _ _ HP1.out.kids).mono ?_; rintro e _ ⟨rfl, rfl⟩; rw [HT2.out]))
              go_ret
              exact ⟨by rw [HF.out]; rfl, HB1.out⟩
            · skip
              obtain ⟨t2, ht2⟩ : ∃ t, P.kids.all placeB = t := ⟨_, rfl⟩
              have HT2 := hid_ ht2
              clear ht2
              cases t2
              · skip
                have HF : Hid (chkP P = 50) := hid_ (by rw [chk_2 HK.out, show ok2 P = false from by rw [ok2, fitB, hn2, hn3, HF1.out, HF2.out, HF3.out, HT.out, HT2.out]; rfl]; rfl)
                go_wp2_with (first | (go_at_call 33; refine (rise_any _ _ _ _ _ HP1.out.keys).mono ?_; rintro e _ ⟨rfl, rfl⟩; rw [HT.out]) | (go_at_call 34; refine (containsBad_any _ _ _ _ _ HP1.out.kids).mono ?_; rintro e _ ⟨rfl, rfl⟩; rw [HT2.out]))
                go_ret
                exact ⟨by rw [HF.out]; rfl, HB1.out⟩
              · skip
                cases bp
                · skip
                  have HF : Hid (chkP P = 50) := hid_ (by rw [chk_2 HK.out, show ok2 P = false from by rw [ok2, fitB, hn2, hn3, HF1.out, HF2.out, HF3.out, HT.out, HT2.out, HBP.out]; rfl]; rfl)
                  go_wp2_with (first | (go_at_call 33; refine (rise_any _ _ _ _ _ HP1.out.keys).mono ?_; rintro e _ ⟨rfl, rfl⟩; rw [HT.out]) | (go_at_call 34; refine (containsBad_any _ _ _ _ _ HP1.out.kids).mono ?_; rintro e _ ⟨rfl, rfl⟩; rw [HT2.out]))
                  go_ret
                  exact ⟨by rw [HF.out]; rfl, HB1.out⟩
                · skip
                  cases bg
                  · skip
                    have HF : Hid (chkP P = 50) := hid_ (by rw [chk_2 HK.out, show ok2 P = false from by rw [ok2, fitB, hn2, hn3, HF1.out, HF2.out, HF3.out, HT.out, HT2.out, HBP.out, HBG.out]; rfl]; rfl)
                    go_wp2_with (first | (go_at_call 33; refine (rise_any _ _ _ _ _ HP1.out.keys).mono ?_; rintro e _ ⟨rfl, rfl⟩; rw [HT.out]) | (go_at_call 34; refine (containsBad_any _ _ _ _ _ HP1.out.kids).mono ?_; rintro e _ ⟨rfl, rfl⟩; rw [HT2.out]))
                    go_ret
                    exact ⟨by rw [HF.out]; rfl, HB1.out⟩
                  · skip
                    cases bh
                    · skip
                      have HF : Hid (chkP P = 50) := hid_ (by rw [chk_2 HK.out, show ok2 P = false from by rw [ok2, fitB, hn2, hn3, HF1.out, HF2.out, HF3.out, HT.out, HT2.out, HBP.out, HBG.out, HBH.out]; rfl]; rfl)
                      go_wp2_with (first | (go_at_call 33; refine (rise_any _ _ _ _ _ HP1.out.keys).mono ?_; rintro e _ ⟨rfl, rfl⟩; rw [HT.out]) | (go_at_call 34; refine (containsBad_any _ _ _ _ _ HP1.out.kids).mono ?_; rintro e _ ⟨rfl, rfl⟩; rw [HT2.out]))
                      go_ret
                      exact ⟨by rw [HF.out]; rfl, HB1.out⟩
                    · skip
                      by_cases qN : P.next = 0
                      · have HN := hid_ (decide_eq_true qN)
                        rw [qN] at c5
                        clear qN
                        have HF : Hid (chkP P = 0) := hid_ (by rw [chk_2 HK.out, show ok2 P = true from by rw [ok2, fitB, hn2, hn3, HF1.out, HF2.out, HF3.out, HT.out, HT2.out, HBP.out, HBG.out, HBH.out, HN.out]; rfl]; rfl)
                        go_wp2_with (first | (go_at_call 33; refine (rise_any _ _ _ _ _ HP1.out.keys).mono ?_; rintro e _ ⟨rfl, rfl⟩; rw [HT.out]) | (go_at_call 34; refine (containsBad_any _ _ _ _ _ HP1.out.kids).mono ?_; rintro e _ ⟨rfl, rfl⟩; rw [HT2.out]))
                        go_ret
                        exact ⟨by rw [HF.out]; rfl, HB1.out⟩
                      · have HN := hid_ (decide_eq_false qN)
                        have rN : (P.next == 0) = false := by simp [qN]
                        clear qN
                        have HF : Hid (chkP P = 50) := hid_ (by rw [chk_2 HK.out, show ok2 P = false from by rw [ok2, fitB, hn2, hn3, HF1.out, HF2.out, HF3.out, HT.out, HT2.out, HBP.out, HBG.out, HBH.out, HN.out]; rfl]; rfl)
                        go_wp2_with (first | (go_at_call 33; refine (rise_any _ _ _ _ _ HP1.out.keys).mono ?_; rintro e _ ⟨rfl, rfl⟩; rw [HT.out]) | (go_at_call 34; refine (containsBad_any _ _ _ _ _ HP1.out.kids).mono ?_; rintro e _ ⟨rfl, rfl⟩; rw [HT2.out]))
                        go_ret
                        exact ⟨by rw [HF.out]; rfl, HB1.out⟩
          · have HF3 := hid_ (decide_eq_false qF3)
            have rF3 : ((k : Int) == (m : Int) + 1) = false := by rw [beq_eq_false_iff_ne]; omega
            clear qF3
            have HF : Hid (chkP P = 50) := hid_ (by rw [chk_2 HK.out, show ok2 P = false from by rw [ok2, fitB, hn2, hn3, HF1.out, HF2.out, HF3.out]; rfl]; rfl)
            go_wp2_with (first | (go_at_call 33; refine (rise_any _ _ _ _ _ HP1.out.keys).mono ?_; rintro e _ ⟨rfl, rfl⟩; rw [HT.out]) | (go_at_call 34; refine (containsBad_any _ _ _ _ _ HP1.out.kids).mono ?_; rintro e _ ⟨rfl, rfl⟩; rw [HT2.out]))
            go_ret
            exact ⟨by rw [HF.out]; rfl, HB1.out⟩
        · have HF2 := hid_ (decide_eq_false qF2)
          have rF2 : 12 < m := by omega
          clear qF2
          have HF : Hid (chkP P = 50) := hid_ (by rw [chk_2 HK.out, show ok2 P = false from by rw [ok2, fitB, hn2, hn3, HF1.out, HF2.out]; rfl]; rfl)
          go_wp2_with (first | (go_at_call 33; refine (rise_any _ _ _ _ _ HP1.out.keys).mono ?_; rintro e _ ⟨rfl, rfl⟩; rw [HT.out]) | (go_at_call 34; refine (containsBad_any _ _ _ _ _ HP1.out.kids).mono ?_; rintro e _ ⟨rfl, rfl⟩; rw [HT2.out]))
          go_ret
          exact ⟨by rw [HF.out]; rfl, HB1.out⟩
      · have HF1 := hid_ (decide_eq_false qF1)
        have rF1 : m < 1 := by omega
        clear qF1
        have HF : Hid (chkP P = 50) := hid_ (by rw [chk_2 HK.out, show ok2 P = false from by rw [ok2, fitB, hn2, hn3, HF1.out]; rfl]; rfl)
        go_wp2_with (first | (go_at_call 33; refine (rise_any _ _ _ _ _ HP1.out.keys).mono ?_; rintro e _ ⟨rfl, rfl⟩; rw [HT.out]) | (go_at_call 34; refine (containsBad_any _ _ _ _ _ HP1.out.kids).mono ?_; rintro e _ ⟨rfl, rfl⟩; rw [HT2.out]))
        go_ret
        exact ⟨by rw [HF.out]; rfl, HB1.out⟩
end Go.Proofs.Ytcfabnkkkpcelaa
