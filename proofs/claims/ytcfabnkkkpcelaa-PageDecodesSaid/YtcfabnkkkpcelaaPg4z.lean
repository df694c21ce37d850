/- page.Check: the walk. -/
import Derived.Test.YtcfabnkkkpcelaaPg4a
import Derived.Test.YtcfabnkkkpcelaaPg4b
import Derived.Test.YtcfabnkkkpcelaaPg4c
import Derived.Test.YtcfabnkkkpcelaaPg4d
import Derived.Test.YtcfabnkkkpcelaaPg4e
import Derived.Test.YtcfabnkkkpcelaaPg4f
import Derived.Test.YtcfabnkkkpcelaaPg4g
import Derived.Test.YtcfabnkkkpcelaaPg4h
import Derived.Test.YtcfabnkkkpcelaaPg4i
import Derived.Test.YtcfabnkkkpcelaaPg4j
import Derived.Test.YtcfabnkkkpcelaaPg4k
import Derived.Test.YtcfabnkkkpcelaaPg4l
import Derived.Test.YtcfabnkkkpcelaaPgB
import Derived.Test.YtcfabnkkkpcelaaBox
import Derived.Deep.DeepCutAuto
set_option linter.unusedSimpArgs false
set_option linter.unusedVariables false
namespace Go.Proofs.Ytcfabnkkkpcelaa
open Go.RowKit Go.Lib
set_option maxRecDepth 10000 in
set_option maxHeartbeats 16000000 in
theorem check5_any (P : Pg) (A B C D : Option Addr) (n c m d k e l f : Nat) (w : World) (hP : PgAt w P A n B m C k D l) (hw : PgW P) (hs : n ≤ 4398046511104) (hs2 : m ≤ 17592186044416) (hs3 : k ≤ 17592186044416) (hs4 : l ≤ 17592186044416) (k1 : ¬ P.kind = 1) (k2 : ¬ P.kind = 2) (k3 : ¬ P.kind = 3) (k4 : ¬ P.kind = 4) :
    Calls Try.prog 14 #[pgV P (.slice A n c) (.slice B m d) (.slice C k e) (.slice D l f)] w fun e w' => e = .returned (.int .i64 (chkP P)) ∧ Bel w w' := by
  have hn1 := hP.pairs.1
  have hn2 := hP.keys.1
  have hn3 := hP.kids.1
  have hn4 := hP.pages.1
  have HP := hid_ hP
  have HK1 := hid_ k1
  clear k1
  have HK2 := hid_ k2
  clear k2
  have HK3 := hid_ k3
  clear k3
  have HK4 := hid_ k4
  clear k4
  have HW := hid_ hw
  unfold pgV pgC
  go_enter Try.func14, Try.ntmps14
  go_upto_region 2 with (fail)
  have bx := Bx.new w 28 (pgC P (.slice A n c) (.slice B m d) (.slice C k e) (.slice D l f))
  have HB := hid_ ((Bel.refl w).alloc (.cells (pgC P (.slice A n c) (.slice B m d) (.slice C k e) (.slice D l f)).toArray 28))
  unfold pgC at bx HB
  generalize w.alloc (.cells #[.int .i64 P.kind, .slice A n c, .slice B m d, .slice C k e, .slice D l f, .int .i64 P.next, .int .u64 P.epoch, .int .i64 P.root, .int .i64 P.depth, .int .i64 P.count, .int .i64 P.high] 28) = W0 at bx HB ⊢
  generalize w.heap.size = g at bx ⊢
  have c0 := bx.cell 0 rfl
  have c1 := bx.cell 1 rfl
  have c2 := bx.cell 2 rfl
  have c3 := bx.cell 3 rfl
  have c4 := bx.cell 4 rfl
  have c5 := bx.cell 5 rfl
  have c6 := bx.cell 6 rfl
  have c7 := bx.cell 7 rfl
  have c8 := bx.cell 8 rfl
  have c9 := bx.cell 9 rfl
  have c10 := bx.cell 10 rfl
  have BX := hid_ bx
  clear bx hP hw
  go_quiet (fail)
  obtain ⟨W1, hW1, hb1⟩ : ∃ W1, W0.drewN nq = W1 ∧ Bel W0 W1 := ⟨_, rfl, (Bel.refl W0).drewN _⟩
  rw [hW1]
  have HB1 := hid_ (HB.out.trans hb1)
  replace c0 := hb1.cell_ c0
  replace c1 := hb1.cell_ c1
  replace c2 := hb1.cell_ c2
  replace c3 := hb1.cell_ c3
  replace c4 := hb1.cell_ c4
  replace c5 := hb1.cell_ c5
  replace c6 := hb1.cell_ c6
  replace c7 := hb1.cell_ c7
  replace c8 := hb1.cell_ c8
  replace c9 := hb1.cell_ c9
  replace c10 := hb1.cell_ c10
  have HP1 := hid_ (HP.out.bel HB1.out)
  clear hW1 hb1 HB BX HP
  have HH := hid_ (heads_eq HW.out)
  have E1 : Hid (decide (0 < n) = !noPairs P) := hid_ (by rw [noPairs, hn1, gt0])
  have E2 : Hid (decide (0 < (m : Int) + (k : Int)) = !noKids P) := hid_ (by rw [noKids, hn2, hn3, gt00])
  have E3 : Hid (decide (0 < l) = !noPages P) := hid_ (by rw [noPages, hn4, gt0])
  rw [E1.out, E2.out, E3.out]
  clear E1 E2 E3
  go_upto_region 3 with (fail)
  go_cut [7] (fun h wx => h = .bool (!headsB P) ∧ wx = W1)
  case first =>
    by_cases e0 : P.epoch = 0
    · rw [e0] at c6
      go_wp2_with fail
      go_meet
      exact ⟨by rw [← HH.out, e0]; rfl, rfl⟩
    · have q : (P.epoch != 0) = true := bne_iff_ne.2 e0
      clear e0
      go_wp2_with fail
      go_meet
      exact ⟨by rw [← HH.out, q]; rfl, rfl⟩
  case rest =>
    obtain ⟨rfl, rfl⟩ := hcut
    obtain ⟨W1, hW1⟩ : ∃ W1, wc = W1 := ⟨_, rfl⟩
    rw [hW1] at HB1 c0 c1 c2 c3 c4 c5 c6 c7 c8 c9 c10 HP1 ⊢
    clear hW1
    clear c6 HH
    obtain ⟨bp, hbp⟩ : ∃ t, noPairs P = t := ⟨_, rfl⟩
    obtain ⟨bk, hbk⟩ : ∃ t, noKids P = t := ⟨_, rfl⟩
    obtain ⟨bg, hbg⟩ : ∃ t, noPages P = t := ⟨_, rfl⟩
    obtain ⟨bh, hbh⟩ : ∃ t, headsB P = t := ⟨_, rfl⟩
    rw [hbp, hbk, hbg, hbh]
    have HBP := hid_ hbp
    have HBK := hid_ hbk
    have HBG := hid_ hbg
    have HBH := hid_ hbh
    clear hbp hbk hbg hbh
    have HF : Hid (chkP P = 50) := hid_ (chk_5 HK1.out HK2.out HK3.out HK4.out)
    have j1 : (P.kind == 1) = false := by simp [HK1.out]
    have j2 : (P.kind == 2) = false := by simp [HK2.out]
    have j3 : (P.kind == 3) = false := by simp [HK3.out]
    have j4 : (P.kind == 4) = false := by simp [HK4.out]
    go_wp2
    go_ret
    exact ⟨by rw [HF.out]; rfl, HB1.out⟩
theorem check_any (P : Pg) (A B C D : Option Addr) (n c m d k e l f : Nat) (w : World) (hP : PgAt w P A n B m C k D l) (hw : PgW P) (hs : n ≤ 4398046511104) (hs2 : m ≤ 17592186044416) (hs3 : k ≤ 17592186044416) (hs4 : l ≤ 17592186044416) :
    Calls Try.prog 14 #[pgV P (.slice A n c) (.slice B m d) (.slice C k e) (.slice D l f)] w fun e w' => e = .returned (.int .i64 (chkP P)) ∧ Bel w w' := by
  by_cases k1 : P.kind = 1
  · exact check1_any P A B C D n c m d k e l f w hP hw hs hs2 hs3 hs4 k1
  by_cases k2 : P.kind = 2
  · exact check2_any P A B C D n c m d k e l f w hP hw hs hs2 hs3 hs4 k2
  by_cases k3 : P.kind = 3
  · exact check3_any P A B C D n c m d k e l f w hP hw hs hs2 hs3 hs4 k3
  by_cases k4 : P.kind = 4
  · cases hbn : noneB P with
    | true => exact check4d_any P A B C D n c m d k e l f w hP hw hs hs2 hs3 hs4 k4 hbn
    | false =>
      cases hbs : someB P with
      | true => exact check4e_any P A B C D n c m d k e l f w hP hw hs hs2 hs3 hs4 k4 hbn hbs
      | false =>
        cases ha : placeB P.root with
        | false =>
          by_cases z1 : P.root = 0
          · by_cases z2 : P.depth = 0
            · by_cases z3 : P.count = 0
              · rw [noneB, decide_eq_true z1, decide_eq_true z2, decide_eq_true z3] at hbn
                cases hbn
              · exact check4l_any P A B C D n c m d k e l f w hP hw hs hs2 hs3 hs4 k4 hbn ha ⟨z1, z2, z3⟩
            · exact check4k_any P A B C D n c m d k e l f w hP hw hs hs2 hs3 hs4 k4 hbn ha ⟨z1, z2⟩
          · exact check4f_any P A B C D n c m d k e l f w hP hw hs hs2 hs3 hs4 k4 hbn ha z1
        | true =>
          by_cases h1 : P.depth < 1
          · exact check4g_any P A B C D n c m d k e l f w hP hw hs hs2 hs3 hs4 k4 hbn ha h1
          by_cases h2 : 20 < P.depth
          · exact check4h_any P A B C D n c m d k e l f w hP hw hs hs2 hs3 hs4 k4 hbn ha h2
          by_cases h3 : P.count < 1
          · exact check4i_any P A B C D n c m d k e l f w hP hw hs hs2 hs3 hs4 k4 hbn ha ⟨by omega, by omega, h3⟩
          by_cases h4 : 2147483647 < P.count
          · exact check4j_any P A B C D n c m d k e l f w hP hw hs hs2 hs3 hs4 k4 hbn ha ⟨by omega, by omega, h4⟩
          rw [someB, ha, decide_eq_true (show 1 ≤ P.depth by omega), decide_eq_true (show P.depth ≤ 20 by omega), decide_eq_true (show 1 ≤ P.count by omega), decide_eq_true (show P.count ≤ 2147483647 by omega)] at hbs
          cases hbs
  exact check5_any P A B C D n c m d k e l f w hP hw hs hs2 hs3 hs4 k1 k2 k3 k4
end Go.Proofs.Ytcfabnkkkpcelaa
