/- page.Encode refuses: the walk. -/
import Derived.Test.YtcfabnkkkpcelaaPgE4
import Derived.Test.YtcfabnkkkpcelaaPg4z
import Derived.Deep.DeepCutAuto
set_option linter.unusedSimpArgs false
set_option linter.unusedVariables false
namespace Go.Proofs.Ytcfabnkkkpcelaa
open Go.RowKit
set_option maxRecDepth 10000 in
set_option maxHeartbeats 4000000 in
theorem encode_no (s : Int) (P : Pg) (A B C D : Option Addr) (n c m d k e l f : Nat) (w : World) (hP : PgAt w P A n B m C k D l) (hw : PgW P) (hs : n ≤ 4398046511104) (hs2 : m ≤ 17592186044416) (hs3 : k ≤ 17592186044416) (hs4 : l ≤ 17592186044416) (hno : okE s P = false) :
    Calls Try.prog 12 #[.int .i64 s, pgV P (.slice A n c) (.slice B m d) (.slice C k e) (.slice D l f)] w fun e w' => e = .returned (.tuple #[.slice none 0 0, .int .i64 50]) ∧ Bel w w' := by
  have HN := hid_ hno
  clear hno
  have hchk := fun W hPW => check_any P A B C D n c m d k e l f W hPW hw hs hs2 hs3 hs4
  have HP := hid_ hP
  unfold pgV pgC at hchk
  have HCH := hid_ hchk
  unfold pgV pgC
  clear hchk
  go_enter Try.func12, Try.ntmps12
  go_upto_region 2 with (fail)
  have bx := Bx.new w 28 (pgC P (.slice A n c) (.slice B m d) (.slice C k e) (.slice D l f))
  have HB := hid_ ((Bel.refl w).alloc (.cells (pgC P (.slice A n c) (.slice B m d) (.slice C k e) (.slice D l f)).toArray 28))
  unfold pgC at bx HB
  generalize w.alloc (.cells #[.int .i64 P.kind, .slice A n c, .slice B m d, .slice C k e, .slice D l f, .int .i64 P.next, .int .u64 P.epoch, .int .i64 P.root, .int .i64 P.depth, .int .i64 P.count, .int .i64 P.high] 28) = W0 at bx HB ⊢
  generalize hg : w.heap.size = g at bx ⊢
  have c0 := bx.cell 0 rfl
  have c1 := bx.cell 1 rfl
  have c2 := bx.cell 2 rfl
  have c3 := bx.cell 3 rfl
  have c4 := bx.cell 4 rfl
  have c5 := bx.cell 5 rfl
  have c6 := bx.cell 6 rfl
  have c7 := bx.cell 7 rfl
  have c8 := bx.cell 8 rfl
  have c9 := bx.cell 9 rfl
  have c10 := bx.cell 10 rfl
  have HP1 := hid_ (HP.out.bel HB.out)
  have BX := hid_ bx
  have HG := hid_ hg
  clear bx hP HP hg
  obtain ⟨t, ht⟩ : ∃ t, okP P = t := ⟨_, rfl⟩
  have HT := hid_ ht
  clear ht
  cases t
  · have HC : Hid (chkP P = 50) := hid_ (by rw [chkP, HT.out]; rfl)
    by_cases k4 : P.kind = 4
    · have r1 : (P.kind == 4) = true := by rw [k4]; rfl
      clear k4
      go_wp2_with (first | (go_at_call 14; refine (HCH.out _ HP1.out).mono ?_; rintro e w1 ⟨rfl, hb1⟩; rw [HC.out]) | (go_at_call 19; refine (place_any _ _).mono ?_; rintro e _ ⟨rfl, rfl⟩; rw [HS.out]))
      first | go_ret2 | go_ret
      exact ⟨rfl, HB.out.trans hb1⟩
    · have r1 : (P.kind == 4) = false := by simp [k4]
      clear k4
      go_wp2_with (first | (go_at_call 14; refine (HCH.out _ HP1.out).mono ?_; rintro e w1 ⟨rfl, hb1⟩; rw [HC.out]) | (go_at_call 19; refine (place_any _ _).mono ?_; rintro e _ ⟨rfl, rfl⟩; rw [HS.out]))
      first | go_ret2 | go_ret
      exact ⟨rfl, HB.out.trans hb1⟩
  · have HC : Hid (chkP P = 0) := hid_ (by rw [chkP, HT.out]; rfl)
    by_cases k4 : P.kind = 4
    · have r1 : (P.kind == 4) = true := by rw [k4]; rfl
      have hS : ¬ s = 0 ∧ ¬ s = 1 := by
        have := HN.out
        rw [okE, HT.out, hereB, if_pos k4] at this
        simpa using this
      have r2 : (s != 0) = true := by simp [hS.1]
      have r3 : (s != 1) = true := by simp [hS.2]
      have r4 : (s == 0) = false := by simp [hS.1]
      have r5 : (s == 1) = false := by simp [hS.2]
      clear k4 hS
      go_wp2_with (first | (go_at_call 14; refine (HCH.out _ HP1.out).mono ?_; rintro e w1 ⟨rfl, hb1⟩; rw [HC.out]) | (go_at_call 19; refine (place_any _ _).mono ?_; rintro e _ ⟨rfl, rfl⟩; rw [HS.out]))
      first | go_ret2 | go_ret
      exact ⟨rfl, HB.out.trans hb1⟩
    · have r1 : (P.kind == 4) = false := by simp [k4]
      have HS : Hid (placeB s = false) := hid_ (by
        have := HN.out
        rw [okE, HT.out, hereB, if_neg k4] at this
        simpa using this)
      clear k4
      go_wp2_with (first | (go_at_call 14; refine (HCH.out _ HP1.out).mono ?_; rintro e w1 ⟨rfl, hb1⟩; rw [HC.out]) | (go_at_call 19; refine (place_any _ _).mono ?_; rintro e _ ⟨rfl, rfl⟩; rw [HS.out]))
      first | go_ret2 | go_ret
      exact ⟨rfl, HB.out.trans hb1⟩
end Go.Proofs.Ytcfabnkkkpcelaa
