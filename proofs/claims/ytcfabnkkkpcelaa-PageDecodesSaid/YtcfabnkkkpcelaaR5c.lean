/- The document's answer on pages: Check: the walk. -/
import Derived.Test.YtcfabnkkkpcelaaR5b
import Derived.Deep.DeepCutAuto
set_option linter.unusedSimpArgs false
set_option linter.unusedVariables false
namespace Go.Proofs.Ytcfabnkkkpcelaa
open Go.RowKit Go.Lib
theorem ok2_5 (P : Pg) : ok2 P = (br5 P && (noPairs P && (noPages P && (headsB P && decide (P.next = 0))))) := by simp only [ok2, br5, Bool.and_assoc]
theorem ok3_5 (P : Pg) : ok3 P = (li5 P && (noPairs P && (noKids P && headsB P))) := by simp only [ok3, li5, Bool.and_assoc]
theorem ok1_5 (P : Pg) : ok1 P = (leafB P.pairs && (noKids P && (noPages P && (headsB P && decide (P.next = 0))))) := rfl
theorem ok4_5 (P : Pg) : ok4 P = (superB P && (noPairs P && (noKids P && noPages P))) := rfl
theorem lenB {n : Nat} {t : Bool} (h : decide (n = 0) = t) : ((n : Int) == 0) = t := by
  rw [← h, beqI]
  congr 1
  exact propext ⟨fun h => by omega, fun h => by omega⟩
set_option maxRecDepth 10000 in
set_option maxHeartbeats 8000000 in
theorem chkR_1 (P : Pg) (A B C D : Option Addr) (n c m d k e l f : Nat) (w : World) (hP : PgAt w P A n B m C k D l) (hm : m ≤ 1000000) (hkk : k ≤ 1000000) (hk : P.kind = 1) :
    Calls Try.prog 15 #[pgV P (.slice A n c) (.slice B m d) (.slice C k e) (.slice D l f)] w fun e w' => e = .returned (.int .i64 (chkP P)) ∧ Bel w w' := by
  have hn1 := hP.pairs.1
  have hn2 := hP.keys.1
  have hn3 := hP.kids.1
  have hn4 := hP.pages.1
  have HK := hid_ hk
  clear hk
  obtain ⟨bp, hbp⟩ : ∃ b, noPairs P = b := ⟨_, rfl⟩
  have Hbp := hid_ hbp
  obtain ⟨bk, hbk⟩ : ∃ b, noKids P = b := ⟨_, rfl⟩
  have Hbk := hid_ hbk
  obtain ⟨bg, hbg⟩ : ∃ b, noPages P = b := ⟨_, rfl⟩
  have Hbg := hid_ hbg
  obtain ⟨bh, hbh⟩ : ∃ b, headsB P = b := ⟨_, rfl⟩
  have Hbh := hid_ hbh
  obtain ⟨m0, hm0⟩ : ∃ b, decide (m = 0) = b := ⟨_, rfl⟩
  obtain ⟨k0, hk0⟩ : ∃ b, decide (k = 0) = b := ⟨_, rfl⟩
  obtain ⟨a0, ha0⟩ : ∃ b, decide (P.epoch = 0) = b := ⟨_, rfl⟩
  obtain ⟨a1, ha1⟩ : ∃ b, decide (P.root = 0) = b := ⟨_, rfl⟩
  obtain ⟨a2, ha2⟩ : ∃ b, decide (P.depth = 0) = b := ⟨_, rfl⟩
  obtain ⟨a3, ha3⟩ : ∃ b, decide (P.count = 0) = b := ⟨_, rfl⟩
  obtain ⟨a4, ha4⟩ : ∃ b, decide (P.high = 0) = b := ⟨_, rfl⟩
  have HKK : Hid (bk = (m0 && k0)) := hid_ (by rw [← hbk, noKids, hn2, hn3, hm0, hk0])
  have HHH : Hid (bh = (a0 && (a1 && (a2 && (a3 && a4))))) := hid_ (by rw [← hbh, headsB, ha0, ha1, ha2, ha3, ha4])
  have d1 : ((n : Int) == 0) = bp := lenB (by rw [← hbp, noPairs, hn1])
  have d2 : ((m : Int) == 0) = m0 := lenB hm0
  have d3 : ((k : Int) == 0) = k0 := lenB hk0
  have d4 : ((l : Int) == 0) = bg := lenB (by rw [← hbg, noPages, hn4])
  rw [← beqI] at ha0 ha1 ha2 ha3 ha4
  clear hbp hbk hbg hbh hm0 hk0 hn1 hn2 hn3 hn4
  have HP := hid_ hP
  unfold pgV pgC
  clear hP
  go_enter Try.func15, Try.ntmps15
  go_upto_region 1 with (fail)
  have bx := Bx.new w 28 (pgC P (.slice A n c) (.slice B m d) (.slice C k e) (.slice D l f))
  have hb := (Bel.refl w).alloc (.cells (pgC P (.slice A n c) (.slice B m d) (.slice C k e) (.slice D l f)).toArray 28)
  unfold pgC at bx hb
  generalize w.alloc _ = W0 at bx hb ⊢
  generalize w.heap.size = g at bx ⊢
  have HB := hid_ hb
  have HP := hid_ (HP.out.bel hb)
  have c0 := bx.cell 0 rfl
  have c1 := bx.cell 1 rfl
  have c2 := bx.cell 2 rfl
  have c3 := bx.cell 3 rfl
  have c4 := bx.cell 4 rfl
  have c5 := bx.cell 5 rfl
  have c6 := bx.cell 6 rfl
  have c7 := bx.cell 7 rfl
  have c8 := bx.cell 8 rfl
  have c9 := bx.cell 9 rfl
  have c10 := bx.cell 10 rfl
  clear bx hb
  go_upto_region 2 with (fail)
  go_cut [4] (fun h wx => h = .bool bk ∧ wx = W0)
  case first =>
    clear ha0 ha1 ha2 ha3 ha4 d1 d4
    cases m0
    · go_wp2_with fail
      go_meet
      exact ⟨by rw [HKK.out]; rfl, rfl⟩
    · cases k0
      · go_wp2_with fail
        go_meet
        exact ⟨by rw [HKK.out]; rfl, rfl⟩
      · go_wp2_with fail
        go_meet
        exact ⟨by rw [HKK.out]; rfl, rfl⟩
  case rest =>
    obtain ⟨rfl, rfl⟩ := hcut
    obtain ⟨W0, hW0⟩ : ∃ W0, wc = W0 := ⟨_, rfl⟩
    rw [hW0] at HB HP c0 c1 c2 c3 c4 c5 c6 c7 c8 c9 c10 ⊢
    clear hW0
    clear d2 d3 HKK
    go_upto_region 4 with (fail)
    go_cut [6] (fun h wx => h = .bool bh ∧ wx = W0)
    case first =>
      clear d1 d4
      cases a0
      · go_wp2_with fail
        go_meet
        exact ⟨by rw [HHH.out]; rfl, rfl⟩
      · cases a1
        · go_wp2_with fail
          go_meet
          exact ⟨by rw [HHH.out]; rfl, rfl⟩
        · cases a2
          · go_wp2_with fail
            go_meet
            exact ⟨by rw [HHH.out]; rfl, rfl⟩
          · cases a3
            · go_wp2_with fail
              go_meet
              exact ⟨by rw [HHH.out]; rfl, rfl⟩
            · cases a4
              · go_wp2_with fail
                go_meet
                exact ⟨by rw [HHH.out]; rfl, rfl⟩
              · go_wp2_with fail
                go_meet
                exact ⟨by rw [HHH.out]; rfl, rfl⟩
    case rest =>
      obtain ⟨rfl, rfl⟩ := hcut
      obtain ⟨W0, hW0⟩ : ∃ W0, wc = W0 := ⟨_, rfl⟩
      rw [hW0] at HB HP c0 c1 c2 c3 c4 c5 c6 c7 c8 c9 c10 ⊢
      clear hW0
      clear HHH ha0 ha1 ha2 ha3 ha4 d1 d4
      have r1 : (P.kind == 1) = true := by have := HK.out; rw [beqI]; exact decide_eq_true (by omega)
      obtain ⟨t, ht⟩ : ∃ t, leafB P.pairs = t := ⟨_, rfl⟩
      have HT := hid_ ht
      clear ht
      obtain ⟨nx, hnx⟩ : ∃ b, decide (P.next = 0) = b := ⟨_, rfl⟩
      have HN := hid_ hnx
      rw [← beqI] at hnx
      have HE : Hid (chkP P = if (t && (bk && (bg && (bh && (nx))))) then 0 else 50) := hid_ (by rw [chk_1 HK.out, ok1_5, HT.out, Hbk.out, Hbg.out, Hbh.out, HN.out])
      cases t
      · go_wp2_with fail
        refine (leaf5_any P A B C D n c m d k e l f _ HP.out).mono ?_
        rintro e w1 ⟨rfl, hb⟩
        rw [HT.out]
        replace c5 := hb.cell_ c5
        go_wp2
        go_ret
        exact ⟨by rw [HE.out]; first | rfl | simp, HB.out.trans hb⟩
      · cases bk
        · go_wp2_with fail
          refine (leaf5_any P A B C D n c m d k e l f _ HP.out).mono ?_
          rintro e w1 ⟨rfl, hb⟩
          rw [HT.out]
          replace c5 := hb.cell_ c5
          go_wp2
          go_ret
          exact ⟨by rw [HE.out]; first | rfl | simp, HB.out.trans hb⟩
        · cases bg
          · go_wp2_with fail
            refine (leaf5_any P A B C D n c m d k e l f _ HP.out).mono ?_
            rintro e w1 ⟨rfl, hb⟩
            rw [HT.out]
            replace c5 := hb.cell_ c5
            go_wp2
            go_ret
            exact ⟨by rw [HE.out]; first | rfl | simp, HB.out.trans hb⟩
          · cases bh
            · go_wp2_with fail
              refine (leaf5_any P A B C D n c m d k e l f _ HP.out).mono ?_
              rintro e w1 ⟨rfl, hb⟩
              rw [HT.out]
              replace c5 := hb.cell_ c5
              go_wp2
              go_ret
              exact ⟨by rw [HE.out]; first | rfl | simp, HB.out.trans hb⟩
            · cases nx
              · go_wp2_with fail
                refine (leaf5_any P A B C D n c m d k e l f _ HP.out).mono ?_
                rintro e w1 ⟨rfl, hb⟩
                rw [HT.out]
                replace c5 := hb.cell_ c5
                go_wp2
                go_ret
                exact ⟨by rw [HE.out]; first | rfl | simp, HB.out.trans hb⟩
              · go_wp2_with fail
                refine (leaf5_any P A B C D n c m d k e l f _ HP.out).mono ?_
                rintro e w1 ⟨rfl, hb⟩
                rw [HT.out]
                replace c5 := hb.cell_ c5
                go_wp2
                go_ret
                exact ⟨by rw [HE.out]; first | rfl | simp, HB.out.trans hb⟩
set_option maxRecDepth 10000 in
set_option maxHeartbeats 8000000 in
theorem chkR_2 (P : Pg) (A B C D : Option Addr) (n c m d k e l f : Nat) (w : World) (hP : PgAt w P A n B m C k D l) (hm : m ≤ 1000000) (hkk : k ≤ 1000000) (hk : P.kind = 2) :
    Calls Try.prog 15 #[pgV P (.slice A n c) (.slice B m d) (.slice C k e) (.slice D l f)] w fun e w' => e = .returned (.int .i64 (chkP P)) ∧ Bel w w' := by
  have hn1 := hP.pairs.1
  have hn2 := hP.keys.1
  have hn3 := hP.kids.1
  have hn4 := hP.pages.1
  have HK := hid_ hk
  clear hk
  obtain ⟨bp, hbp⟩ : ∃ b, noPairs P = b := ⟨_, rfl⟩
  have Hbp := hid_ hbp
  obtain ⟨bk, hbk⟩ : ∃ b, noKids P = b := ⟨_, rfl⟩
  have Hbk := hid_ hbk
  obtain ⟨bg, hbg⟩ : ∃ b, noPages P = b := ⟨_, rfl⟩
  have Hbg := hid_ hbg
  obtain ⟨bh, hbh⟩ : ∃ b, headsB P = b := ⟨_, rfl⟩
  have Hbh := hid_ hbh
  obtain ⟨m0, hm0⟩ : ∃ b, decide (m = 0) = b := ⟨_, rfl⟩
  obtain ⟨k0, hk0⟩ : ∃ b, decide (k = 0) = b := ⟨_, rfl⟩
  obtain ⟨a0, ha0⟩ : ∃ b, decide (P.epoch = 0) = b := ⟨_, rfl⟩
  obtain ⟨a1, ha1⟩ : ∃ b, decide (P.root = 0) = b := ⟨_, rfl⟩
  obtain ⟨a2, ha2⟩ : ∃ b, decide (P.depth = 0) = b := ⟨_, rfl⟩
  obtain ⟨a3, ha3⟩ : ∃ b, decide (P.count = 0) = b := ⟨_, rfl⟩
  obtain ⟨a4, ha4⟩ : ∃ b, decide (P.high = 0) = b := ⟨_, rfl⟩
  have HKK : Hid (bk = (m0 && k0)) := hid_ (by rw [← hbk, noKids, hn2, hn3, hm0, hk0])
  have HHH : Hid (bh = (a0 && (a1 && (a2 && (a3 && a4))))) := hid_ (by rw [← hbh, headsB, ha0, ha1, ha2, ha3, ha4])
  have d1 : ((n : Int) == 0) = bp := lenB (by rw [← hbp, noPairs, hn1])
  have d2 : ((m : Int) == 0) = m0 := lenB hm0
  have d3 : ((k : Int) == 0) = k0 := lenB hk0
  have d4 : ((l : Int) == 0) = bg := lenB (by rw [← hbg, noPages, hn4])
  rw [← beqI] at ha0 ha1 ha2 ha3 ha4
  clear hbp hbk hbg hbh hm0 hk0 hn1 hn2 hn3 hn4
  have HP := hid_ hP
  unfold pgV pgC
  clear hP
  go_enter Try.func15, Try.ntmps15
  go_upto_region 1 with (fail)
  have bx := Bx.new w 28 (pgC P (.slice A n c) (.slice B m d) (.slice C k e) (.slice D l f))
  have hb := (Bel.refl w).alloc (.cells (pgC P (.slice A n c) (.slice B m d) (.slice C k e) (.slice D l f)).toArray 28)
  unfold pgC at bx hb
  generalize w.alloc _ = W0 at bx hb ⊢
  generalize w.heap.size = g at bx ⊢
  have HB := hid_ hb
  have HP := hid_ (HP.out.bel hb)
  have c0 := bx.cell 0 rfl
  have c1 := bx.cell 1 rfl
  have c2 := bx.cell 2 rfl
  have c3 := bx.cell 3 rfl
  have c4 := bx.cell 4 rfl
  have c5 := bx.cell 5 rfl
  have c6 := bx.cell 6 rfl
  have c7 := bx.cell 7 rfl
  have c8 := bx.cell 8 rfl
  have c9 := bx.cell 9 rfl
  have c10 := bx.cell 10 rfl
  clear bx hb
  go_upto_region 2 with (fail)
  go_cut [4] (fun h wx => h = .bool bk ∧ wx = W0)
  case first =>
    clear ha0 ha1 ha2 ha3 ha4 d1 d4
    cases m0
    · go_wp2_with fail
      go_meet
      exact ⟨by rw [HKK.out]; rfl, rfl⟩
    · cases k0
      · go_wp2_with fail
        go_meet
        exact ⟨by rw [HKK.out]; rfl, rfl⟩
      · go_wp2_with fail
        go_meet
        exact ⟨by rw [HKK.out]; rfl, rfl⟩
  case rest =>
    obtain ⟨rfl, rfl⟩ := hcut
    obtain ⟨W0, hW0⟩ : ∃ W0, wc = W0 := ⟨_, rfl⟩
    rw [hW0] at HB HP c0 c1 c2 c3 c4 c5 c6 c7 c8 c9 c10 ⊢
    clear hW0
    clear d2 d3 HKK
    go_upto_region 4 with (fail)
    go_cut [6] (fun h wx => h = .bool bh ∧ wx = W0)
    case first =>
      clear d1 d4
      cases a0
      · go_wp2_with fail
        go_meet
        exact ⟨by rw [HHH.out]; rfl, rfl⟩
      · cases a1
        · go_wp2_with fail
          go_meet
          exact ⟨by rw [HHH.out]; rfl, rfl⟩
        · cases a2
          · go_wp2_with fail
            go_meet
            exact ⟨by rw [HHH.out]; rfl, rfl⟩
          · cases a3
            · go_wp2_with fail
              go_meet
              exact ⟨by rw [HHH.out]; rfl, rfl⟩
            · cases a4
              · go_wp2_with fail
                go_meet
                exact ⟨by rw [HHH.out]; rfl, rfl⟩
              · go_wp2_with fail
                go_meet
                exact ⟨by rw [HHH.out]; rfl, rfl⟩
    case rest =>
      obtain ⟨rfl, rfl⟩ := hcut
      obtain ⟨W0, hW0⟩ : ∃ W0, wc = W0 := ⟨_, rfl⟩
      rw [hW0] at HB HP c0 c1 c2 c3 c4 c5 c6 c7 c8 c9 c10 ⊢
      clear hW0
      clear HHH ha0 ha1 ha2 ha3 ha4 d1 d4
      have r1 : (P.kind == 1) = false := by have := HK.out; rw [beqI]; exact decide_eq_false (by omega)
      have r2 : (P.kind == 2) = true := by have := HK.out; rw [beqI]; exact decide_eq_true (by omega)
      obtain ⟨t, ht⟩ : ∃ t, br5 P = t := ⟨_, rfl⟩
      have HT := hid_ ht
      clear ht
      obtain ⟨nx, hnx⟩ : ∃ b, decide (P.next = 0) = b := ⟨_, rfl⟩
      have HN := hid_ hnx
      rw [← beqI] at hnx
      have HE : Hid (chkP P = if (t && (bp && (bg && (bh && (nx))))) then 0 else 50) := hid_ (by rw [chk_2 HK.out, ok2_5, HT.out, Hbp.out, Hbg.out, Hbh.out, HN.out])
      cases t
      · go_wp2_with fail
        refine (branch5_any P A B C D n c m d k e l f _ HP.out (by omega) (by omega)).mono ?_
        rintro e w1 ⟨rfl, hb⟩
        rw [HT.out]
        replace c5 := hb.cell_ c5
        go_wp2
        go_ret
        exact ⟨by rw [HE.out]; first | rfl | simp, HB.out.trans hb⟩
      · cases bp
        · go_wp2_with fail
          refine (branch5_any P A B C D n c m d k e l f _ HP.out (by omega) (by omega)).mono ?_
          rintro e w1 ⟨rfl, hb⟩
          rw [HT.out]
          replace c5 := hb.cell_ c5
          go_wp2
          go_ret
          exact ⟨by rw [HE.out]; first | rfl | simp, HB.out.trans hb⟩
        · cases bg
          · go_wp2_with fail
            refine (branch5_any P A B C D n c m d k e l f _ HP.out (by omega) (by omega)).mono ?_
            rintro e w1 ⟨rfl, hb⟩
            rw [HT.out]
            replace c5 := hb.cell_ c5
            go_wp2
            go_ret
            exact ⟨by rw [HE.out]; first | rfl | simp, HB.out.trans hb⟩
          · cases bh
            · go_wp2_with fail
              refine (branch5_any P A B C D n c m d k e l f _ HP.out (by omega) (by omega)).mono ?_
              rintro e w1 ⟨rfl, hb⟩
              rw [HT.out]
              replace c5 := hb.cell_ c5
              go_wp2
              go_ret
              exact ⟨by rw [HE.out]; first | rfl | simp, HB.out.trans hb⟩
            · cases nx
              · go_wp2_with fail
                refine (branch5_any P A B C D n c m d k e l f _ HP.out (by omega) (by omega)).mono ?_
                rintro e w1 ⟨rfl, hb⟩
                rw [HT.out]
                replace c5 := hb.cell_ c5
                go_wp2
                go_ret
                exact ⟨by rw [HE.out]; first | rfl | simp, HB.out.trans hb⟩
              · go_wp2_with fail
                refine (branch5_any P A B C D n c m d k e l f _ HP.out (by omega) (by omega)).mono ?_
                rintro e w1 ⟨rfl, hb⟩
                rw [HT.out]
                replace c5 := hb.cell_ c5
                go_wp2
                go_ret
                exact ⟨by rw [HE.out]; first | rfl | simp, HB.out.trans hb⟩
set_option maxRecDepth 10000 in
set_option maxHeartbeats 8000000 in
theorem chkR_3 (P : Pg) (A B C D : Option Addr) (n c m d k e l f : Nat) (w : World) (hP : PgAt w P A n B m C k D l) (hm : m ≤ 1000000) (hkk : k ≤ 1000000) (hk : P.kind = 3) :
    Calls Try.prog 15 #[pgV P (.slice A n c) (.slice B m d) (.slice C k e) (.slice D l f)] w fun e w' => e = .returned (.int .i64 (chkP P)) ∧ Bel w w' := by
  have hn1 := hP.pairs.1
  have hn2 := hP.keys.1
  have hn3 := hP.kids.1
  have hn4 := hP.pages.1
  have HK := hid_ hk
  clear hk
  obtain ⟨bp, hbp⟩ : ∃ b, noPairs P = b := ⟨_, rfl⟩
  have Hbp := hid_ hbp
  obtain ⟨bk, hbk⟩ : ∃ b, noKids P = b := ⟨_, rfl⟩
  have Hbk := hid_ hbk
  obtain ⟨bg, hbg⟩ : ∃ b, noPages P = b := ⟨_, rfl⟩
  have Hbg := hid_ hbg
  obtain ⟨bh, hbh⟩ : ∃ b, headsB P = b := ⟨_, rfl⟩
  have Hbh := hid_ hbh
  obtain ⟨m0, hm0⟩ : ∃ b, decide (m = 0) = b := ⟨_, rfl⟩
  obtain ⟨k0, hk0⟩ : ∃ b, decide (k = 0) = b := ⟨_, rfl⟩
  obtain ⟨a0, ha0⟩ : ∃ b, decide (P.epoch = 0) = b := ⟨_, rfl⟩
  obtain ⟨a1, ha1⟩ : ∃ b, decide (P.root = 0) = b := ⟨_, rfl⟩
  obtain ⟨a2, ha2⟩ : ∃ b, decide (P.depth = 0) = b := ⟨_, rfl⟩
  obtain ⟨a3, ha3⟩ : ∃ b, decide (P.count = 0) = b := ⟨_, rfl⟩
  obtain ⟨a4, ha4⟩ : ∃ b, decide (P.high = 0) = b := ⟨_, rfl⟩
  have HKK : Hid (bk = (m0 && k0)) := hid_ (by rw [← hbk, noKids, hn2, hn3, hm0, hk0])
  have HHH : Hid (bh = (a0 && (a1 && (a2 && (a3 && a4))))) := hid_ (by rw [← hbh, headsB, ha0, ha1, ha2, ha3, ha4])
  have d1 : ((n : Int) == 0) = bp := lenB (by rw [← hbp, noPairs, hn1])
  have d2 : ((m : Int) == 0) = m0 := lenB hm0
  have d3 : ((k : Int) == 0) = k0 := lenB hk0
  have d4 : ((l : Int) == 0) = bg := lenB (by rw [← hbg, noPages, hn4])
  rw [← beqI] at ha0 ha1 ha2 ha3 ha4
  clear hbp hbk hbg hbh hm0 hk0 hn1 hn2 hn3 hn4
  have HP := hid_ hP
  unfold pgV pgC
  clear hP
  go_enter Try.func15, Try.ntmps15
  go_upto_region 1 with (fail)
  have bx := Bx.new w 28 (pgC P (.slice A n c) (.slice B m d) (.slice C k e) (.slice D l f))
  have hb := (Bel.refl w).alloc (.cells (pgC P (.slice A n c) (.slice B m d) (.slice C k e) (.slice D l f)).toArray 28)
  unfold pgC at bx hb
  generalize w.alloc _ = W0 at bx hb ⊢
  generalize w.heap.size = g at bx ⊢
  have HB := hid_ hb
  have HP := hid_ (HP.out.bel hb)
  have c0 := bx.cell 0 rfl
  have c1 := bx.cell 1 rfl
  have c2 := bx.cell 2 rfl
  have c3 := bx.cell 3 rfl
  have c4 := bx.cell 4 rfl
  have c5 := bx.cell 5 rfl
  have c6 := bx.cell 6 rfl
  have c7 := bx.cell 7 rfl
  have c8 := bx.cell 8 rfl
  have c9 := bx.cell 9 rfl
  have c10 := bx.cell 10 rfl
  clear bx hb
  go_upto_region 2 with (fail)
  go_cut [4] (fun h wx => h = .bool bk ∧ wx = W0)
  case first =>
    clear ha0 ha1 ha2 ha3 ha4 d1 d4
    cases m0
    · go_wp2_with fail
      go_meet
      exact ⟨by rw [HKK.out]; rfl, rfl⟩
    · cases k0
      · go_wp2_with fail
        go_meet
        exact ⟨by rw [HKK.out]; rfl, rfl⟩
      · go_wp2_with fail
        go_meet
        exact ⟨by rw [HKK.out]; rfl, rfl⟩
  case rest =>
    obtain ⟨rfl, rfl⟩ := hcut
    obtain ⟨W0, hW0⟩ : ∃ W0, wc = W0 := ⟨_, rfl⟩
    rw [hW0] at HB HP c0 c1 c2 c3 c4 c5 c6 c7 c8 c9 c10 ⊢
    clear hW0
    clear d2 d3 HKK
    go_upto_region 4 with (fail)
    go_cut [6] (fun h wx => h = .bool bh ∧ wx = W0)
    case first =>
      clear d1 d4
      cases a0
      · go_wp2_with fail
        go_meet
        exact ⟨by rw [HHH.out]; rfl, rfl⟩
      · cases a1
        · go_wp2_with fail
          go_meet
          exact ⟨by rw [HHH.out]; rfl, rfl⟩
        · cases a2
          · go_wp2_with fail
            go_meet
            exact ⟨by rw [HHH.out]; rfl, rfl⟩
          · cases a3
            · go_wp2_with fail
              go_meet
              exact ⟨by rw [HHH.out]; rfl, rfl⟩
            · cases a4
              · go_wp2_with fail
                go_meet
                exact ⟨by rw [HHH.out]; rfl, rfl⟩
              · go_wp2_with fail
                go_meet
                exact ⟨by rw [HHH.out]; rfl, rfl⟩
    case rest =>
      obtain ⟨rfl, rfl⟩ := hcut
      obtain ⟨W0, hW0⟩ : ∃ W0, wc = W0 := ⟨_, rfl⟩
      rw [hW0] at HB HP c0 c1 c2 c3 c4 c5 c6 c7 c8 c9 c10 ⊢
      clear hW0
      clear HHH ha0 ha1 ha2 ha3 ha4 d1 d4
      have r1 : (P.kind == 1) = false := by have := HK.out; rw [beqI]; exact decide_eq_false (by omega)
      have r2 : (P.kind == 2) = false := by have := HK.out; rw [beqI]; exact decide_eq_false (by omega)
      have r3 : (P.kind == 3) = true := by have := HK.out; rw [beqI]; exact decide_eq_true (by omega)
      obtain ⟨t, ht⟩ : ∃ t, li5 P = t := ⟨_, rfl⟩
      have HT := hid_ ht
      clear ht
      have HE : Hid (chkP P = if (t && (bp && (bk && (bh)))) then 0 else 50) := hid_ (by rw [chk_3 HK.out, ok3_5, HT.out, Hbp.out, Hbk.out, Hbh.out])
      cases t
      · go_wp2_with fail
        refine (list5_any P A B C D n c m d k e l f _ HP.out).mono ?_
        rintro e w1 ⟨rfl, hb⟩
        rw [HT.out]
        replace c5 := hb.cell_ c5
        go_wp2
        go_ret
        exact ⟨by rw [HE.out]; first | rfl | simp, HB.out.trans hb⟩
      · cases bp
        · go_wp2_with fail
          refine (list5_any P A B C D n c m d k e l f _ HP.out).mono ?_
          rintro e w1 ⟨rfl, hb⟩
          rw [HT.out]
          replace c5 := hb.cell_ c5
          go_wp2
          go_ret
          exact ⟨by rw [HE.out]; first | rfl | simp, HB.out.trans hb⟩
        · cases bk
          · go_wp2_with fail
            refine (list5_any P A B C D n c m d k e l f _ HP.out).mono ?_
            rintro e w1 ⟨rfl, hb⟩
            rw [HT.out]
            replace c5 := hb.cell_ c5
            go_wp2
            go_ret
            exact ⟨by rw [HE.out]; first | rfl | simp, HB.out.trans hb⟩
          · cases bh
            · go_wp2_with fail
              refine (list5_any P A B C D n c m d k e l f _ HP.out).mono ?_
              rintro e w1 ⟨rfl, hb⟩
              rw [HT.out]
              replace c5 := hb.cell_ c5
              go_wp2
              go_ret
              exact ⟨by rw [HE.out]; first | rfl | simp, HB.out.trans hb⟩
            · go_wp2_with fail
              refine (list5_any P A B C D n c m d k e l f _ HP.out).mono ?_
              rintro e w1 ⟨rfl, hb⟩
              rw [HT.out]
              replace c5 := hb.cell_ c5
              go_wp2
              go_ret
              exact ⟨by rw [HE.out]; first | rfl | simp, HB.out.trans hb⟩
set_option maxRecDepth 10000 in
set_option maxHeartbeats 8000000 in
theorem chkR_4 (P : Pg) (A B C D : Option Addr) (n c m d k e l f : Nat) (w : World) (hP : PgAt w P A n B m C k D l) (hm : m ≤ 1000000) (hkk : k ≤ 1000000) (hk : P.kind = 4) :
    Calls Try.prog 15 #[pgV P (.slice A n c) (.slice B m d) (.slice C k e) (.slice D l f)] w fun e w' => e = .returned (.int .i64 (chkP P)) ∧ Bel w w' := by
  have hn1 := hP.pairs.1
  have hn2 := hP.keys.1
  have hn3 := hP.kids.1
  have hn4 := hP.pages.1
  have HK := hid_ hk
  clear hk
  obtain ⟨bp, hbp⟩ : ∃ b, noPairs P = b := ⟨_, rfl⟩
  have Hbp := hid_ hbp
  obtain ⟨bk, hbk⟩ : ∃ b, noKids P = b := ⟨_, rfl⟩
  have Hbk := hid_ hbk
  obtain ⟨bg, hbg⟩ : ∃ b, noPages P = b := ⟨_, rfl⟩
  have Hbg := hid_ hbg
  obtain ⟨bh, hbh⟩ : ∃ b, headsB P = b := ⟨_, rfl⟩
  have Hbh := hid_ hbh
  obtain ⟨m0, hm0⟩ : ∃ b, decide (m = 0) = b := ⟨_, rfl⟩
  obtain ⟨k0, hk0⟩ : ∃ b, decide (k = 0) = b := ⟨_, rfl⟩
  obtain ⟨a0, ha0⟩ : ∃ b, decide (P.epoch = 0) = b := ⟨_, rfl⟩
  obtain ⟨a1, ha1⟩ : ∃ b, decide (P.root = 0) = b := ⟨_, rfl⟩
  obtain ⟨a2, ha2⟩ : ∃ b, decide (P.depth = 0) = b := ⟨_, rfl⟩
  obtain ⟨a3, ha3⟩ : ∃ b, decide (P.count = 0) = b := ⟨_, rfl⟩
  obtain ⟨a4, ha4⟩ : ∃ b, decide (P.high = 0) = b := ⟨_, rfl⟩
  have HKK : Hid (bk = (m0 && k0)) := hid_ (by rw [← hbk, noKids, hn2, hn3, hm0, hk0])
  have HHH : Hid (bh = (a0 && (a1 && (a2 && (a3 && a4))))) := hid_ (by rw [← hbh, headsB, ha0, ha1, ha2, ha3, ha4])
  have d1 : ((n : Int) == 0) = bp := lenB (by rw [← hbp, noPairs, hn1])
  have d2 : ((m : Int) == 0) = m0 := lenB hm0
  have d3 : ((k : Int) == 0) = k0 := lenB hk0
  have d4 : ((l : Int) == 0) = bg := lenB (by rw [← hbg, noPages, hn4])
  rw [← beqI] at ha0 ha1 ha2 ha3 ha4
  clear hbp hbk hbg hbh hm0 hk0 hn1 hn2 hn3 hn4
  have HP := hid_ hP
  unfold pgV pgC
  clear hP
  go_enter Try.func15, Try.ntmps15
  go_upto_region 1 with (fail)
  have bx := Bx.new w 28 (pgC P (.slice A n c) (.slice B m d) (.slice C k e) (.slice D l f))
  have hb := (Bel.refl w).alloc (.cells (pgC P (.slice A n c) (.slice B m d) (.slice C k e) (.slice D l f)).toArray 28)
  unfold pgC at bx hb
  generalize w.alloc _ = W0 at bx hb ⊢
  generalize w.heap.size = g at bx ⊢
  have HB := hid_ hb
  have HP := hid_ (HP.out.bel hb)
  have c0 := bx.cell 0 rfl
  have c1 := bx.cell 1 rfl
  have c2 := bx.cell 2 rfl
  have c3 := bx.cell 3 rfl
  have c4 := bx.cell 4 rfl
  have c5 := bx.cell 5 rfl
  have c6 := bx.cell 6 rfl
  have c7 := bx.cell 7 rfl
  have c8 := bx.cell 8 rfl
  have c9 := bx.cell 9 rfl
  have c10 := bx.cell 10 rfl
  clear bx hb
  go_upto_region 2 with (fail)
  go_cut [4] (fun h wx => h = .bool bk ∧ wx = W0)
  case first =>
    clear ha0 ha1 ha2 ha3 ha4 d1 d4
    cases m0
    · go_wp2_with fail
      go_meet
      exact ⟨by rw [HKK.out]; rfl, rfl⟩
    · cases k0
      · go_wp2_with fail
        go_meet
        exact ⟨by rw [HKK.out]; rfl, rfl⟩
      · go_wp2_with fail
        go_meet
        exact ⟨by rw [HKK.out]; rfl, rfl⟩
  case rest =>
    obtain ⟨rfl, rfl⟩ := hcut
    obtain ⟨W0, hW0⟩ : ∃ W0, wc = W0 := ⟨_, rfl⟩
    rw [hW0] at HB HP c0 c1 c2 c3 c4 c5 c6 c7 c8 c9 c10 ⊢
    clear hW0
    clear d2 d3 HKK
    go_upto_region 4 with (fail)
    go_cut [6] (fun h wx => h = .bool bh ∧ wx = W0)
    case first =>
      clear d1 d4
      cases a0
      · go_wp2_with fail
        go_meet
        exact ⟨by rw [HHH.out]; rfl, rfl⟩
      · cases a1
        · go_wp2_with fail
          go_meet
          exact ⟨by rw [HHH.out]; rfl, rfl⟩
        · cases a2
          · go_wp2_with fail
            go_meet
            exact ⟨by rw [HHH.out]; rfl, rfl⟩
          · cases a3
            · go_wp2_with fail
              go_meet
              exact ⟨by rw [HHH.out]; rfl, rfl⟩
            · cases a4
              · go_wp2_with fail
                go_meet
                exact ⟨by rw [HHH.out]; rfl, rfl⟩
              · go_wp2_with fail
                go_meet
                exact ⟨by rw [HHH.out]; rfl, rfl⟩
    case rest =>
      obtain ⟨rfl, rfl⟩ := hcut
      obtain ⟨W0, hW0⟩ : ∃ W0, wc = W0 := ⟨_, rfl⟩
      rw [hW0] at HB HP c0 c1 c2 c3 c4 c5 c6 c7 c8 c9 c10 ⊢
      clear hW0
      clear HHH ha0 ha1 ha2 ha3 ha4 d1 d4
      have r1 : (P.kind == 1) = false := by have := HK.out; rw [beqI]; exact decide_eq_false (by omega)
      have r2 : (P.kind == 2) = false := by have := HK.out; rw [beqI]; exact decide_eq_false (by omega)
      have r3 : (P.kind == 3) = false := by have := HK.out; rw [beqI]; exact decide_eq_false (by omega)
      have r4 : (P.kind == 4) = true := by have := HK.out; rw [beqI]; exact decide_eq_true (by omega)
      obtain ⟨t, ht⟩ : ∃ t, superB P = t := ⟨_, rfl⟩
      have HT := hid_ ht
      clear ht
      have HE : Hid (chkP P = if (t && (bp && (bk && (bg)))) then 0 else 50) := hid_ (by rw [chk_4 HK.out, ok4_5, HT.out, Hbp.out, Hbk.out, Hbg.out])
      cases t
      · go_wp2_with fail
        refine (super5_any P A B C D n c m d k e l f _ HP.out).mono ?_
        rintro e w1 ⟨rfl, hb⟩
        rw [HT.out]
        replace c5 := hb.cell_ c5
        go_wp2
        go_ret
        exact ⟨by rw [HE.out]; first | rfl | simp, HB.out.trans hb⟩
      · cases bp
        · go_wp2_with fail
          refine (super5_any P A B C D n c m d k e l f _ HP.out).mono ?_
          rintro e w1 ⟨rfl, hb⟩
          rw [HT.out]
          replace c5 := hb.cell_ c5
          go_wp2
          go_ret
          exact ⟨by rw [HE.out]; first | rfl | simp, HB.out.trans hb⟩
        · cases bk
          · go_wp2_with fail
            refine (super5_any P A B C D n c m d k e l f _ HP.out).mono ?_
            rintro e w1 ⟨rfl, hb⟩
            rw [HT.out]
            replace c5 := hb.cell_ c5
            go_wp2
            go_ret
            exact ⟨by rw [HE.out]; first | rfl | simp, HB.out.trans hb⟩
          · cases bg
            · go_wp2_with fail
              refine (super5_any P A B C D n c m d k e l f _ HP.out).mono ?_
              rintro e w1 ⟨rfl, hb⟩
              rw [HT.out]
              replace c5 := hb.cell_ c5
              go_wp2
              go_ret
              exact ⟨by rw [HE.out]; first | rfl | simp, HB.out.trans hb⟩
            · go_wp2_with fail
              refine (super5_any P A B C D n c m d k e l f _ HP.out).mono ?_
              rintro e w1 ⟨rfl, hb⟩
              rw [HT.out]
              replace c5 := hb.cell_ c5
              go_wp2
              go_ret
              exact ⟨by rw [HE.out]; first | rfl | simp, HB.out.trans hb⟩
set_option maxRecDepth 10000 in
set_option maxHeartbeats 8000000 in
theorem chkR_5 (P : Pg) (A B C D : Option Addr) (n c m d k e l f : Nat) (w : World) (hP : PgAt w P A n B m C k D l) (hm : m ≤ 1000000) (hkk : k ≤ 1000000) (k1 : ¬ P.kind = 1) (k2 : ¬ P.kind = 2) (k3 : ¬ P.kind = 3) (k4 : ¬ P.kind = 4) :
    Calls Try.prog 15 #[pgV P (.slice A n c) (.slice B m d) (.slice C k e) (.slice D l f)] w fun e w' => e = .returned (.int .i64 (chkP P)) ∧ Bel w w' := by
  have hn1 := hP.pairs.1
  have hn2 := hP.keys.1
  have hn3 := hP.kids.1
  have hn4 := hP.pages.1
  have HK := hid_ (And.intro k1 (And.intro k2 (And.intro k3 k4)))
  clear k1 k2 k3 k4
  obtain ⟨bp, hbp⟩ : ∃ b, noPairs P = b := ⟨_, rfl⟩
  have Hbp := hid_ hbp
  obtain ⟨bk, hbk⟩ : ∃ b, noKids P = b := ⟨_, rfl⟩
  have Hbk := hid_ hbk
  obtain ⟨bg, hbg⟩ : ∃ b, noPages P = b := ⟨_, rfl⟩
  have Hbg := hid_ hbg
  obtain ⟨bh, hbh⟩ : ∃ b, headsB P = b := ⟨_, rfl⟩
  have Hbh := hid_ hbh
  obtain ⟨m0, hm0⟩ : ∃ b, decide (m = 0) = b := ⟨_, rfl⟩
  obtain ⟨k0, hk0⟩ : ∃ b, decide (k = 0) = b := ⟨_, rfl⟩
  obtain ⟨a0, ha0⟩ : ∃ b, decide (P.epoch = 0) = b := ⟨_, rfl⟩
  obtain ⟨a1, ha1⟩ : ∃ b, decide (P.root = 0) = b := ⟨_, rfl⟩
  obtain ⟨a2, ha2⟩ : ∃ b, decide (P.depth = 0) = b := ⟨_, rfl⟩
  obtain ⟨a3, ha3⟩ : ∃ b, decide (P.count = 0) = b := ⟨_, rfl⟩
  obtain ⟨a4, ha4⟩ : ∃ b, decide (P.high = 0) = b := ⟨_, rfl⟩
  have HKK : Hid (bk = (m0 && k0)) := hid_ (by rw [← hbk, noKids, hn2, hn3, hm0, hk0])
  have HHH : Hid (bh = (a0 && (a1 && (a2 && (a3 && a4))))) := hid_ (by rw [← hbh, headsB, ha0, ha1, ha2, ha3, ha4])
  have d1 : ((n : Int) == 0) = bp := lenB (by rw [← hbp, noPairs, hn1])
  have d2 : ((m : Int) == 0) = m0 := lenB hm0
  have d3 : ((k : Int) == 0) = k0 := lenB hk0
  have d4 : ((l : Int) == 0) = bg := lenB (by rw [← hbg, noPages, hn4])
  rw [← beqI] at ha0 ha1 ha2 ha3 ha4
  clear hbp hbk hbg hbh hm0 hk0 hn1 hn2 hn3 hn4
  have HP := hid_ hP
  unfold pgV pgC
  clear hP
  go_enter Try.func15, Try.ntmps15
  go_upto_region 1 with (fail)
  have bx := Bx.new w 28 (pgC P (.slice A n c) (.slice B m d) (.slice C k e) (.slice D l f))
  have hb := (Bel.refl w).alloc (.cells (pgC P (.slice A n c) (.slice B m d) (.slice C k e) (.slice D l f)).toArray 28)
  unfold pgC at bx hb
  generalize w.alloc _ = W0 at bx hb ⊢
  generalize w.heap.size = g at bx ⊢
  have HB := hid_ hb
  have HP := hid_ (HP.out.bel hb)
  have c0 := bx.cell 0 rfl
  have c1 := bx.cell 1 rfl
  have c2 := bx.cell 2 rfl
  have c3 := bx.cell 3 rfl
  have c4 := bx.cell 4 rfl
  have c5 := bx.cell 5 rfl
  have c6 := bx.cell 6 rfl
  have c7 := bx.cell 7 rfl
  have c8 := bx.cell 8 rfl
  have c9 := bx.cell 9 rfl
  have c10 := bx.cell 10 rfl
  clear bx hb
  go_upto_region 2 with (fail)
  go_cut [4] (fun h wx => h = .bool bk ∧ wx = W0)
  case first =>
    clear ha0 ha1 ha2 ha3 ha4 d1 d4
    cases m0
    · go_wp2_with fail
      go_meet
      exact ⟨by rw [HKK.out]; rfl, rfl⟩
    · cases k0
      · go_wp2_with fail
        go_meet
        exact ⟨by rw [HKK.out]; rfl, rfl⟩
      · go_wp2_with fail
        go_meet
        exact ⟨by rw [HKK.out]; rfl, rfl⟩
  case rest =>
    obtain ⟨rfl, rfl⟩ := hcut
    obtain ⟨W0, hW0⟩ : ∃ W0, wc = W0 := ⟨_, rfl⟩
    rw [hW0] at HB HP c0 c1 c2 c3 c4 c5 c6 c7 c8 c9 c10 ⊢
    clear hW0
    clear d2 d3 HKK
    go_upto_region 4 with (fail)
    go_cut [6] (fun h wx => h = .bool bh ∧ wx = W0)
    case first =>
      clear d1 d4
      cases a0
      · go_wp2_with fail
        go_meet
        exact ⟨by rw [HHH.out]; rfl, rfl⟩
      · cases a1
        · go_wp2_with fail
          go_meet
          exact ⟨by rw [HHH.out]; rfl, rfl⟩
        · cases a2
          · go_wp2_with fail
            go_meet
            exact ⟨by rw [HHH.out]; rfl, rfl⟩
          · cases a3
            · go_wp2_with fail
              go_meet
              exact ⟨by rw [HHH.out]; rfl, rfl⟩
            · cases a4
              · go_wp2_with fail
                go_meet
                exact ⟨by rw [HHH.out]; rfl, rfl⟩
              · go_wp2_with fail
                go_meet
                exact ⟨by rw [HHH.out]; rfl, rfl⟩
    case rest =>
      obtain ⟨rfl, rfl⟩ := hcut
      obtain ⟨W0, hW0⟩ : ∃ W0, wc = W0 := ⟨_, rfl⟩
      rw [hW0] at HB HP c0 c1 c2 c3 c4 c5 c6 c7 c8 c9 c10 ⊢
      clear hW0
      clear HHH ha0 ha1 ha2 ha3 ha4 d1 d4
      have HF : Hid (chkP P = 50) := hid_ (chk_5 HK.out.1 HK.out.2.1 HK.out.2.2.1 HK.out.2.2.2)
      have r1 : (P.kind == 1) = false := by have := HK.out; rw [beqI]; exact decide_eq_false (by omega)
      have r2 : (P.kind == 2) = false := by have := HK.out; rw [beqI]; exact decide_eq_false (by omega)
      have r3 : (P.kind == 3) = false := by have := HK.out; rw [beqI]; exact decide_eq_false (by omega)
      have r4 : (P.kind == 4) = false := by have := HK.out; rw [beqI]; exact decide_eq_false (by omega)
      go_wp2
      go_ret
      exact ⟨by rw [HF.out]; rfl, HB.out⟩
theorem chkR_any (P : Pg) (A B C D : Option Addr) (n c m d k e l f : Nat) (w : World) (hP : PgAt w P A n B m C k D l) (hm : m ≤ 1000000) (hkk : k ≤ 1000000) :
    Calls Try.prog 15 #[pgV P (.slice A n c) (.slice B m d) (.slice C k e) (.slice D l f)] w fun e w' => e = .returned (.int .i64 (chkP P)) ∧ Bel w w' := by
  by_cases k1 : P.kind = 1
  · exact chkR_1 P A B C D n c m d k e l f w hP hm hkk k1
  by_cases k2 : P.kind = 2
  · exact chkR_2 P A B C D n c m d k e l f w hP hm hkk k2
  by_cases k3 : P.kind = 3
  · exact chkR_3 P A B C D n c m d k e l f w hP hm hkk k3
  by_cases k4 : P.kind = 4
  · exact chkR_4 P A B C D n c m d k e l f w hP hm hkk k4
  exact chkR_5 P A B C D n c m d k e l f w hP hm hkk k1 k2 k3 k4
end Go.Proofs.Ytcfabnkkkpcelaa
