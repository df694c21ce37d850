/- PagePlaces, walked. -/
import Derived.Test.YtcfabnkkkpcelaaPgL4
import Derived.Test.YtcfabnkkkpcelaaOpPage
set_option linter.unusedSimpArgs false
set_option linter.unusedVariables false
namespace Go.Proofs.Ytcfabnkkkpcelaa
open Go.RowKit Go.Lib
set_option maxRecDepth 10000 in
set_option maxHeartbeats 8000000 in
theorem places_a (w : World) (s : Int) (P : Pg) (A : Option Addr) (n c : Nat) (B : Option Addr) (m d : Nat) (C : Option Addr) (k e : Nat) (D : Option Addr) (l f : Nat) (hP : pageWf w P A n c B m d C k e D l f) (hk : P.kind = 4) (hs : s = 0) :
    Calls Try.prog 9 #[.int .i64 s, pgV P (.slice A n c) (.slice B m d) (.slice C k e) (.slice D l f)] w fun e w' => e = .returned (.bool true) ∧ Bel w w' := by
  have hh : hereB s P = true := by
    unfold hereB placeB
    first | (rw [if_pos hk]; simp; omega) | (rw [if_neg hk]; simp; omega)
  have HH := hid_ hh
  have HKK := hid_ hk
  have HSS := hid_ hs
  clear hh hk hs
  obtain ⟨_, _, _, _, hP, hw⟩ := hP
  have HP := hid_ hP
  have HW := hid_ hw
  unfold pgV pgC
  clear hP hw
  go_enter Try.func9, Try.ntmps9
  go_upto_region 1 with (fail)
  have bx := Bx.new w 28 (pgC P (.slice A n c) (.slice B m d) (.slice C k e) (.slice D l f))
  have hb := (Bel.refl w).alloc (.cells (pgC P (.slice A n c) (.slice B m d) (.slice C k e) (.slice D l f)).toArray 28)
  unfold pgC at bx hb
  generalize w.alloc _ = W0 at bx hb ⊢
  generalize w.heap.size = g at bx ⊢
  have HB := hid_ hb
  have HP := hid_ (HP.out.bel hb)
  have BX := hid_ bx
  clear bx hb
  go_wp2_with fail
  refine (awake_any _).mono ?_
  rintro e0 w1 ⟨rfl, hb⟩
  have HP := hid_ (HP.out.bel hb)
  have BX := hid_ (BX.out.bel hb)
  have HB := hid_ (HB.out.trans hb)
  clear hb
  have c0 := BX.out.cell 0 rfl
  have c1 := BX.out.cell 1 rfl
  have c2 := BX.out.cell 2 rfl
  have c3 := BX.out.cell 3 rfl
  have c4 := BX.out.cell 4 rfl
  have c5 := BX.out.cell 5 rfl
  have c6 := BX.out.cell 6 rfl
  have c7 := BX.out.cell 7 rfl
  have c8 := BX.out.cell 8 rfl
  have c9 := BX.out.cell 9 rfl
  have c10 := BX.out.cell 10 rfl
  go_wp2_with fail
  refine (few_any P A B C D n c m d k e l f _ HP.out).mono ?_
  rintro e1 w2 ⟨⟨t, rfl, ht⟩, hb⟩
  clear c0 c1 c2 c3 c4 c5 c6 c7 c8 c9 c10
  have HP := hid_ (HP.out.bel hb)
  have BX := hid_ (BX.out.bel hb)
  have HB := hid_ (HB.out.trans hb)
  clear hb
  cases t
  · clear ht
    go_wp2
    go_ret
    exact ⟨rfl, HB.out⟩
  have HT := hid_ (ht rfl)
  clear ht
  have c0 := BX.out.cell 0 rfl
  have c1 := BX.out.cell 1 rfl
  have c2 := BX.out.cell 2 rfl
  have c3 := BX.out.cell 3 rfl
  have c4 := BX.out.cell 4 rfl
  have c5 := BX.out.cell 5 rfl
  have c6 := BX.out.cell 6 rfl
  have c7 := BX.out.cell 7 rfl
  have c8 := BX.out.cell 8 rfl
  have c9 := BX.out.cell 9 rfl
  have c10 := BX.out.cell 10 rfl
  have hk := HKK.out
  have hs := HSS.out
  have r1 : (P.kind == 4) = true := by rw [hk]; rfl
  have s0 : (s == 0) = true := by simp; omega
  have s2 : decide (2 ≤ s) = false := by simp; omega
  clear hk hs
  obtain ⟨o, ho⟩ : ∃ o, okP P = o := ⟨_, rfl⟩
  have HOP := hid_ ho
  clear ho
  cases o
  · have HC : Hid (chkP P = 50) := hid_ (by rw [chkP, HOP.out]; rfl)
    have HO : Hid (okE s P = false) := hid_ (by rw [okE, HOP.out]; rfl)
    go_wp2_with (first | (go_at_call 12; refine (encode_no s P A B C D n c m d k e l f _ HP.out HW.out (Nat.le_trans HT.out.1 (by omega)) (Nat.le_trans HT.out.2.1 (by omega)) (Nat.le_trans HT.out.2.2.1 (by omega)) (Nat.le_trans HT.out.2.2.2 (by omega)) HO.out).mono ?_; rintro e3 w3 ⟨rfl, hb3⟩; replace c0 := hb3.cell_ c0; replace c1 := hb3.cell_ c1; replace c2 := hb3.cell_ c2; replace c3 := hb3.cell_ c3; replace c4 := hb3.cell_ c4; replace c5 := hb3.cell_ c5; replace c6 := hb3.cell_ c6; replace c7 := hb3.cell_ c7; replace c8 := hb3.cell_ c8; replace c9 := hb3.cell_ c9; replace c10 := hb3.cell_ c10) | (go_at_call 14; refine (check_any P A B C D n c m d k e l f _ (HP.out.bel hb3) HW.out (Nat.le_trans HT.out.1 (by omega)) (Nat.le_trans HT.out.2.1 (by omega)) (Nat.le_trans HT.out.2.2.1 (by omega)) (Nat.le_trans HT.out.2.2.2 (by omega))).mono ?_; rintro e4 w4 ⟨rfl, hb4⟩; rw [HC.out]))
    go_ret
    exact ⟨rfl, (HB.out.trans hb3).trans hb4⟩
  · have HC : Hid (chkP P = 0) := hid_ (by rw [chkP, HOP.out]; rfl)
    have HO : Hid (okE s P = true) := hid_ (by rw [okE, HOP.out, HH.out]; rfl)
    go_wp2_with (first | (go_at_call 12; refine (encode_yes s P A B C D n c m d k e l f _ HP.out HW.out (Nat.le_trans HT.out.1 (by omega)) (Nat.le_trans HT.out.2.1 (by omega)) (Nat.le_trans HT.out.2.2.1 (by omega)) (Nat.le_trans HT.out.2.2.2 (by omega)) HO.out).mono ?_; rintro e3 w3 ⟨g9, rfl, hR, hg9, hb3⟩; replace c0 := hb3.cell_ c0; replace c1 := hb3.cell_ c1; replace c2 := hb3.cell_ c2; replace c3 := hb3.cell_ c3; replace c4 := hb3.cell_ c4; replace c5 := hb3.cell_ c5; replace c6 := hb3.cell_ c6; replace c7 := hb3.cell_ c7; replace c8 := hb3.cell_ c8; replace c9 := hb3.cell_ c9; replace c10 := hb3.cell_ c10) | (go_at_call 14; refine (check_any P A B C D n c m d k e l f _ (HP.out.bel hb3) HW.out (Nat.le_trans HT.out.1 (by omega)) (Nat.le_trans HT.out.2.1 (by omega)) (Nat.le_trans HT.out.2.2.1 (by omega)) (Nat.le_trans HT.out.2.2.2 (by omega))).mono ?_; rintro e4 w4 ⟨rfl, hb4⟩; rw [HC.out]))
    go_ret
    exact ⟨rfl, (HB.out.trans hb3).trans hb4⟩
set_option maxRecDepth 10000 in
set_option maxHeartbeats 8000000 in
theorem places_b (w : World) (s : Int) (P : Pg) (A : Option Addr) (n c : Nat) (B : Option Addr) (m d : Nat) (C : Option Addr) (k e : Nat) (D : Option Addr) (l f : Nat) (hP : pageWf w P A n c B m d C k e D l f) (hk : P.kind = 4) (hs : s = 1) :
    Calls Try.prog 9 #[.int .i64 s, pgV P (.slice A n c) (.slice B m d) (.slice C k e) (.slice D l f)] w fun e w' => e = .returned (.bool true) ∧ Bel w w' := by
  have hh : hereB s P = true := by
    unfold hereB placeB
    first | (rw [if_pos hk]; simp; omega) | (rw [if_neg hk]; simp; omega)
  have HH := hid_ hh
  have HKK := hid_ hk
  have HSS := hid_ hs
  clear hh hk hs
  obtain ⟨_, _, _, _, hP, hw⟩ := hP
  have HP := hid_ hP
  have HW := hid_ hw
  unfold pgV pgC
  clear hP hw
  go_enter Try.func9, Try.ntmps9
  go_upto_region 1 with (fail)
  have bx := Bx.new w 28 (pgC P (.slice A n c) (.slice B m d) (.slice C k e) (.slice D l f))
  have hb := (Bel.refl w).alloc (.cells (pgC P (.slice A n c) (.slice B m d) (.slice C k e) (.slice D l f)).toArray 28)
  unfold pgC at bx hb
  generalize w.alloc _ = W0 at bx hb ⊢
  generalize w.heap.size = g at bx ⊢
  have HB := hid_ hb
  have HP := hid_ (HP.out.bel hb)
  have BX := hid_ bx
  clear bx hb
  go_wp2_with fail
  refine (awake_any _).mono ?_
  rintro e0 w1 ⟨rfl, hb⟩
  have HP := hid_ (HP.out.bel hb)
  have BX := hid_ (BX.out.bel hb)
  have HB := hid_ (HB.out.trans hb)
  clear hb
  have c0 := BX.out.cell 0 rfl
  have c1 := BX.out.cell 1 rfl
  have c2 := BX.out.cell 2 rfl
  have c3 := BX.out.cell 3 rfl
  have c4 := BX.out.cell 4 rfl
  have c5 := BX.out.cell 5 rfl
  have c6 := BX.out.cell 6 rfl
  have c7 := BX.out.cell 7 rfl
  have c8 := BX.out.cell 8 rfl
  have c9 := BX.out.cell 9 rfl
  have c10 := BX.out.cell 10 rfl
  go_wp2_with fail
  refine (few_any P A B C D n c m d k e l f _ HP.out).mono ?_
  rintro e1 w2 ⟨⟨t, rfl, ht⟩, hb⟩
  clear c0 c1 c2 c3 c4 c5 c6 c7 c8 c9 c10
  have HP := hid_ (HP.out.bel hb)
  have BX := hid_ (BX.out.bel hb)
  have HB := hid_ (HB.out.trans hb)
  clear hb
  cases t
  · clear ht
    go_wp2
    go_ret
    exact ⟨rfl, HB.out⟩
  have HT := hid_ (ht rfl)
  clear ht
  have c0 := BX.out.cell 0 rfl
  have c1 := BX.out.cell 1 rfl
  have c2 := BX.out.cell 2 rfl
  have c3 := BX.out.cell 3 rfl
  have c4 := BX.out.cell 4 rfl
  have c5 := BX.out.cell 5 rfl
  have c6 := BX.out.cell 6 rfl
  have c7 := BX.out.cell 7 rfl
  have c8 := BX.out.cell 8 rfl
  have c9 := BX.out.cell 9 rfl
  have c10 := BX.out.cell 10 rfl
  have hk := HKK.out
  have hs := HSS.out
  have r1 : (P.kind == 4) = true := by rw [hk]; rfl
  have s0 : (s == 0) = false := by simp; omega
  have s1 : (s == 1) = true := by simp; omega
  have s2 : decide (2 ≤ s) = false := by simp; omega
  clear hk hs
  obtain ⟨o, ho⟩ : ∃ o, okP P = o := ⟨_, rfl⟩
  have HOP := hid_ ho
  clear ho
  cases o
  · have HC : Hid (chkP P = 50) := hid_ (by rw [chkP, HOP.out]; rfl)
    have HO : Hid (okE s P = false) := hid_ (by rw [okE, HOP.out]; rfl)
    go_wp2_with (first | (go_at_call 12; refine (encode_no s P A B C D n c m d k e l f _ HP.out HW.out (Nat.le_trans HT.out.1 (by omega)) (Nat.le_trans HT.out.2.1 (by omega)) (Nat.le_trans HT.out.2.2.1 (by omega)) (Nat.le_trans HT.out.2.2.2 (by omega)) HO.out).mono ?_; rintro e3 w3 ⟨rfl, hb3⟩; replace c0 := hb3.cell_ c0; replace c1 := hb3.cell_ c1; replace c2 := hb3.cell_ c2; replace c3 := hb3.cell_ c3; replace c4 := hb3.cell_ c4; replace c5 := hb3.cell_ c5; replace c6 := hb3.cell_ c6; replace c7 := hb3.cell_ c7; replace c8 := hb3.cell_ c8; replace c9 := hb3.cell_ c9; replace c10 := hb3.cell_ c10) | (go_at_call 14; refine (check_any P A B C D n c m d k e l f _ (HP.out.bel hb3) HW.out (Nat.le_trans HT.out.1 (by omega)) (Nat.le_trans HT.out.2.1 (by omega)) (Nat.le_trans HT.out.2.2.1 (by omega)) (Nat.le_trans HT.out.2.2.2 (by omega))).mono ?_; rintro e4 w4 ⟨rfl, hb4⟩; rw [HC.out]))
    go_ret
    exact ⟨rfl, (HB.out.trans hb3).trans hb4⟩
  · have HC : Hid (chkP P = 0) := hid_ (by rw [chkP, HOP.out]; rfl)
    have HO : Hid (okE s P = true) := hid_ (by rw [okE, HOP.out, HH.out]; rfl)
    go_wp2_with (first | (go_at_call 12; refine (encode_yes s P A B C D n c m d k e l f _ HP.out HW.out (Nat.le_trans HT.out.1 (by omega)) (Nat.le_trans HT.out.2.1 (by omega)) (Nat.le_trans HT.out.2.2.1 (by omega)) (Nat.le_trans HT.out.2.2.2 (by omega)) HO.out).mono ?_; rintro e3 w3 ⟨g9, rfl, hR, hg9, hb3⟩; replace c0 := hb3.cell_ c0; replace c1 := hb3.cell_ c1; replace c2 := hb3.cell_ c2; replace c3 := hb3.cell_ c3; replace c4 := hb3.cell_ c4; replace c5 := hb3.cell_ c5; replace c6 := hb3.cell_ c6; replace c7 := hb3.cell_ c7; replace c8 := hb3.cell_ c8; replace c9 := hb3.cell_ c9; replace c10 := hb3.cell_ c10) | (go_at_call 14; refine (check_any P A B C D n c m d k e l f _ (HP.out.bel hb3) HW.out (Nat.le_trans HT.out.1 (by omega)) (Nat.le_trans HT.out.2.1 (by omega)) (Nat.le_trans HT.out.2.2.1 (by omega)) (Nat.le_trans HT.out.2.2.2 (by omega))).mono ?_; rintro e4 w4 ⟨rfl, hb4⟩; rw [HC.out]))
    go_ret
    exact ⟨rfl, (HB.out.trans hb3).trans hb4⟩
set_option maxRecDepth 10000 in
set_option maxHeartbeats 8000000 in
theorem places_c (w : World) (s : Int) (P : Pg) (A : Option Addr) (n c : Nat) (B : Option Addr) (m d : Nat) (C : Option Addr) (k e : Nat) (D : Option Addr) (l f : Nat) (hP : pageWf w P A n c B m d C k e D l f) (hk : P.kind = 4) (hs : s < 0) :
    Calls Try.prog 9 #[.int .i64 s, pgV P (.slice A n c) (.slice B m d) (.slice C k e) (.slice D l f)] w fun e w' => e = .returned (.bool true) ∧ Bel w w' := by
  have hh : hereB s P = false := by
    unfold hereB placeB
    first | (rw [if_pos hk]; simp; omega) | (rw [if_neg hk]; simp; omega)
  have HH := hid_ hh
  have HKK := hid_ hk
  have HSS := hid_ hs
  clear hh hk hs
  obtain ⟨_, _, _, _, hP, hw⟩ := hP
  have HP := hid_ hP
  have HW := hid_ hw
  unfold pgV pgC
  clear hP hw
  go_enter Try.func9, Try.ntmps9
  go_upto_region 1 with (fail)
  have bx := Bx.new w 28 (pgC P (.slice A n c) (.slice B m d) (.slice C k e) (.slice D l f))
  have hb := (Bel.refl w).alloc (.cells (pgC P (.slice A n c) (.slice B m d) (.slice C k e) (.slice D l f)).toArray 28)
  unfold pgC at bx hb
  generalize w.alloc _ = W0 at bx hb ⊢
  generalize w.heap.size = g at bx ⊢
  have HB := hid_ hb
  have HP := hid_ (HP.out.bel hb)
  have BX := hid_ bx
  clear bx hb
  go_wp2_with fail
  refine (awake_any _).mono ?_
  rintro e0 w1 ⟨rfl, hb⟩
  have HP := hid_ (HP.out.bel hb)
  have BX := hid_ (BX.out.bel hb)
  have HB := hid_ (HB.out.trans hb)
  clear hb
  have c0 := BX.out.cell 0 rfl
  have c1 := BX.out.cell 1 rfl
  have c2 := BX.out.cell 2 rfl
  have c3 := BX.out.cell 3 rfl
  have c4 := BX.out.cell 4 rfl
  have c5 := BX.out.cell 5 rfl
  have c6 := BX.out.cell 6 rfl
  have c7 := BX.out.cell 7 rfl
  have c8 := BX.out.cell 8 rfl
  have c9 := BX.out.cell 9 rfl
  have c10 := BX.out.cell 10 rfl
  go_wp2_with fail
  refine (few_any P A B C D n c m d k e l f _ HP.out).mono ?_
  rintro e1 w2 ⟨⟨t, rfl, ht⟩, hb⟩
  clear c0 c1 c2 c3 c4 c5 c6 c7 c8 c9 c10
  have HP := hid_ (HP.out.bel hb)
  have BX := hid_ (BX.out.bel hb)
  have HB := hid_ (HB.out.trans hb)
  clear hb
  cases t
  · clear ht
    go_wp2
    go_ret
    exact ⟨rfl, HB.out⟩
  have HT := hid_ (ht rfl)
  clear ht
  have c0 := BX.out.cell 0 rfl
  have c1 := BX.out.cell 1 rfl
  have c2 := BX.out.cell 2 rfl
  have c3 := BX.out.cell 3 rfl
  have c4 := BX.out.cell 4 rfl
  have c5 := BX.out.cell 5 rfl
  have c6 := BX.out.cell 6 rfl
  have c7 := BX.out.cell 7 rfl
  have c8 := BX.out.cell 8 rfl
  have c9 := BX.out.cell 9 rfl
  have c10 := BX.out.cell 10 rfl
  have hk := HKK.out
  have hs := HSS.out
  have r1 : (P.kind == 4) = true := by rw [hk]; rfl
  have s0 : (s == 0) = false := by simp; omega
  have s1 : (s == 1) = false := by simp; omega
  have s2 : decide (2 ≤ s) = false := by simp; omega
  clear hk hs
  obtain ⟨o, ho⟩ : ∃ o, okP P = o := ⟨_, rfl⟩
  have HOP := hid_ ho
  clear ho
  cases o
  · have HC : Hid (chkP P = 50) := hid_ (by rw [chkP, HOP.out]; rfl)
    have HO : Hid (okE s P = false) := hid_ (by rw [okE, HOP.out]; rfl)
    go_wp2_with (first | (go_at_call 12; refine (encode_no s P A B C D n c m d k e l f _ HP.out HW.out (Nat.le_trans HT.out.1 (by omega)) (Nat.le_trans HT.out.2.1 (by omega)) (Nat.le_trans HT.out.2.2.1 (by omega)) (Nat.le_trans HT.out.2.2.2 (by omega)) HO.out).mono ?_; rintro e3 w3 ⟨rfl, hb3⟩; replace c0 := hb3.cell_ c0; replace c1 := hb3.cell_ c1; replace c2 := hb3.cell_ c2; replace c3 := hb3.cell_ c3; replace c4 := hb3.cell_ c4; replace c5 := hb3.cell_ c5; replace c6 := hb3.cell_ c6; replace c7 := hb3.cell_ c7; replace c8 := hb3.cell_ c8; replace c9 := hb3.cell_ c9; replace c10 := hb3.cell_ c10) | (go_at_call 14; refine (check_any P A B C D n c m d k e l f _ (HP.out.bel hb3) HW.out (Nat.le_trans HT.out.1 (by omega)) (Nat.le_trans HT.out.2.1 (by omega)) (Nat.le_trans HT.out.2.2.1 (by omega)) (Nat.le_trans HT.out.2.2.2 (by omega))).mono ?_; rintro e4 w4 ⟨rfl, hb4⟩; rw [HC.out]))
    go_ret
    exact ⟨rfl, (HB.out.trans hb3).trans hb4⟩
  · have HC : Hid (chkP P = 0) := hid_ (by rw [chkP, HOP.out]; rfl)
    have HO : Hid (okE s P = false) := hid_ (by rw [okE, HOP.out, HH.out]; rfl)
    go_wp2_with (first | (go_at_call 12; refine (encode_no s P A B C D n c m d k e l f _ HP.out HW.out (Nat.le_trans HT.out.1 (by omega)) (Nat.le_trans HT.out.2.1 (by omega)) (Nat.le_trans HT.out.2.2.1 (by omega)) (Nat.le_trans HT.out.2.2.2 (by omega)) HO.out).mono ?_; rintro e3 w3 ⟨rfl, hb3⟩; replace c0 := hb3.cell_ c0; replace c1 := hb3.cell_ c1; replace c2 := hb3.cell_ c2; replace c3 := hb3.cell_ c3; replace c4 := hb3.cell_ c4; replace c5 := hb3.cell_ c5; replace c6 := hb3.cell_ c6; replace c7 := hb3.cell_ c7; replace c8 := hb3.cell_ c8; replace c9 := hb3.cell_ c9; replace c10 := hb3.cell_ c10) | (go_at_call 14; refine (check_any P A B C D n c m d k e l f _ (HP.out.bel hb3) HW.out (Nat.le_trans HT.out.1 (by omega)) (Nat.le_trans HT.out.2.1 (by omega)) (Nat.le_trans HT.out.2.2.1 (by omega)) (Nat.le_trans HT.out.2.2.2 (by omega))).mono ?_; rintro e4 w4 ⟨rfl, hb4⟩; rw [HC.out]))
    go_ret
    exact ⟨rfl, (HB.out.trans hb3).trans hb4⟩
set_option maxRecDepth 10000 in
set_option maxHeartbeats 8000000 in
theorem places_d (w : World) (s : Int) (P : Pg) (A : Option Addr) (n c : Nat) (B : Option Addr) (m d : Nat) (C : Option Addr) (k e : Nat) (D : Option Addr) (l f : Nat) (hP : pageWf w P A n c B m d C k e D l f) (hk : P.kind = 4) (hs : 2 ≤ s ∧ s ≤ 4095) :
    Calls Try.prog 9 #[.int .i64 s, pgV P (.slice A n c) (.slice B m d) (.slice C k e) (.slice D l f)] w fun e w' => e = .returned (.bool true) ∧ Bel w w' := by
  have hh : hereB s P = false := by
    unfold hereB placeB
    first | (rw [if_pos hk]; simp; omega) | (rw [if_neg hk]; simp; omega)
  have HH := hid_ hh
  have HKK := hid_ hk
  have HSS := hid_ hs
  clear hh hk hs
  obtain ⟨_, _, _, _, hP, hw⟩ := hP
  have HP := hid_ hP
  have HW := hid_ hw
  unfold pgV pgC
  clear hP hw
  go_enter Try.func9, Try.ntmps9
  go_upto_region 1 with (fail)
  have bx := Bx.new w 28 (pgC P (.slice A n c) (.slice B m d) (.slice C k e) (.slice D l f))
  have hb := (Bel.refl w).alloc (.cells (pgC P (.slice A n c) (.slice B m d) (.slice C k e) (.slice D l f)).toArray 28)
  unfold pgC at bx hb
  generalize w.alloc _ = W0 at bx hb ⊢
  generalize w.heap.size = g at bx ⊢
  have HB := hid_ hb
  have HP := hid_ (HP.out.bel hb)
  have BX := hid_ bx
  clear bx hb
  go_wp2_with fail
  refine (awake_any _).mono ?_
  rintro e0 w1 ⟨rfl, hb⟩
  have HP := hid_ (HP.out.bel hb)
  have BX := hid_ (BX.out.bel hb)
  have HB := hid_ (HB.out.trans hb)
  clear hb
  have c0 := BX.out.cell 0 rfl
  have c1 := BX.out.cell 1 rfl
  have c2 := BX.out.cell 2 rfl
  have c3 := BX.out.cell 3 rfl
  have c4 := BX.out.cell 4 rfl
  have c5 := BX.out.cell 5 rfl
  have c6 := BX.out.cell 6 rfl
  have c7 := BX.out.cell 7 rfl
  have c8 := BX.out.cell 8 rfl
  have c9 := BX.out.cell 9 rfl
  have c10 := BX.out.cell 10 rfl
  go_wp2_with fail
  refine (few_any P A B C D n c m d k e l f _ HP.out).mono ?_
  rintro e1 w2 ⟨⟨t, rfl, ht⟩, hb⟩
  clear c0 c1 c2 c3 c4 c5 c6 c7 c8 c9 c10
  have HP := hid_ (HP.out.bel hb)
  have BX := hid_ (BX.out.bel hb)
  have HB := hid_ (HB.out.trans hb)
  clear hb
  cases t
  · clear ht
    go_wp2
    go_ret
    exact ⟨rfl, HB.out⟩
  have HT := hid_ (ht rfl)
  clear ht
  have c0 := BX.out.cell 0 rfl
  have c1 := BX.out.cell 1 rfl
  have c2 := BX.out.cell 2 rfl
  have c3 := BX.out.cell 3 rfl
  have c4 := BX.out.cell 4 rfl
  have c5 := BX.out.cell 5 rfl
  have c6 := BX.out.cell 6 rfl
  have c7 := BX.out.cell 7 rfl
  have c8 := BX.out.cell 8 rfl
  have c9 := BX.out.cell 9 rfl
  have c10 := BX.out.cell 10 rfl
  have hk := HKK.out
  have hs := HSS.out
  have r1 : (P.kind == 4) = true := by rw [hk]; rfl
  have s0 : (s == 0) = false := by simp; omega
  have s1 : (s == 1) = false := by simp; omega
  have s2 : decide (2 ≤ s) = true := by simp; omega
  have s3 : decide (s ≤ 4095) = true := by simp; omega
  clear hk hs
  obtain ⟨o, ho⟩ : ∃ o, okP P = o := ⟨_, rfl⟩
  have HOP := hid_ ho
  clear ho
  cases o
  · have HC : Hid (chkP P = 50) := hid_ (by rw [chkP, HOP.out]; rfl)
    have HO : Hid (okE s P = false) := hid_ (by rw [okE, HOP.out]; rfl)
    go_wp2_with (first | (go_at_call 12; refine (encode_no s P A B C D n c m d k e l f _ HP.out HW.out (Nat.le_trans HT.out.1 (by omega)) (Nat.le_trans HT.out.2.1 (by omega)) (Nat.le_trans HT.out.2.2.1 (by omega)) (Nat.le_trans HT.out.2.2.2 (by omega)) HO.out).mono ?_; rintro e3 w3 ⟨rfl, hb3⟩; replace c0 := hb3.cell_ c0; replace c1 := hb3.cell_ c1; replace c2 := hb3.cell_ c2; replace c3 := hb3.cell_ c3; replace c4 := hb3.cell_ c4; replace c5 := hb3.cell_ c5; replace c6 := hb3.cell_ c6; replace c7 := hb3.cell_ c7; replace c8 := hb3.cell_ c8; replace c9 := hb3.cell_ c9; replace c10 := hb3.cell_ c10) | (go_at_call 14; refine (check_any P A B C D n c m d k e l f _ (HP.out.bel hb3) HW.out (Nat.le_trans HT.out.1 (by omega)) (Nat.le_trans HT.out.2.1 (by omega)) (Nat.le_trans HT.out.2.2.1 (by omega)) (Nat.le_trans HT.out.2.2.2 (by omega))).mono ?_; rintro e4 w4 ⟨rfl, hb4⟩; rw [HC.out]))
    go_ret
    exact ⟨rfl, (HB.out.trans hb3).trans hb4⟩
  · have HC : Hid (chkP P = 0) := hid_ (by rw [chkP, HOP.out]; rfl)
    have HO : Hid (okE s P = false) := hid_ (by rw [okE, HOP.out, HH.out]; rfl)
    go_wp2_with (first | (go_at_call 12; refine (encode_no s P A B C D n c m d k e l f _ HP.out HW.out (Nat.le_trans HT.out.1 (by omega)) (Nat.le_trans HT.out.2.1 (by omega)) (Nat.le_trans HT.out.2.2.1 (by omega)) (Nat.le_trans HT.out.2.2.2 (by omega)) HO.out).mono ?_; rintro e3 w3 ⟨rfl, hb3⟩; replace c0 := hb3.cell_ c0; replace c1 := hb3.cell_ c1; replace c2 := hb3.cell_ c2; replace c3 := hb3.cell_ c3; replace c4 := hb3.cell_ c4; replace c5 := hb3.cell_ c5; replace c6 := hb3.cell_ c6; replace c7 := hb3.cell_ c7; replace c8 := hb3.cell_ c8; replace c9 := hb3.cell_ c9; replace c10 := hb3.cell_ c10) | (go_at_call 14; refine (check_any P A B C D n c m d k e l f _ (HP.out.bel hb3) HW.out (Nat.le_trans HT.out.1 (by omega)) (Nat.le_trans HT.out.2.1 (by omega)) (Nat.le_trans HT.out.2.2.1 (by omega)) (Nat.le_trans HT.out.2.2.2 (by omega))).mono ?_; rintro e4 w4 ⟨rfl, hb4⟩; rw [HC.out]))
    go_ret
    exact ⟨rfl, (HB.out.trans hb3).trans hb4⟩
set_option maxRecDepth 10000 in
set_option maxHeartbeats 8000000 in
theorem places_e (w : World) (s : Int) (P : Pg) (A : Option Addr) (n c : Nat) (B : Option Addr) (m d : Nat) (C : Option Addr) (k e : Nat) (D : Option Addr) (l f : Nat) (hP : pageWf w P A n c B m d C k e D l f) (hk : P.kind = 4) (hs : 4095 < s) :
    Calls Try.prog 9 #[.int .i64 s, pgV P (.slice A n c) (.slice B m d) (.slice C k e) (.slice D l f)] w fun e w' => e = .returned (.bool true) ∧ Bel w w' := by
  have hh : hereB s P = false := by
    unfold hereB placeB
    first | (rw [if_pos hk]; simp; omega) | (rw [if_neg hk]; simp; omega)
  have HH := hid_ hh
  have HKK := hid_ hk
  have HSS := hid_ hs
  clear hh hk hs
  obtain ⟨_, _, _, _, hP, hw⟩ := hP
  have HP := hid_ hP
  have HW := hid_ hw
  unfold pgV pgC
  clear hP hw
  go_enter Try.func9, Try.ntmps9
  go_upto_region 1 with (fail)
  have bx := Bx.new w 28 (pgC P (.slice A n c) (.slice B m d) (.slice C k e) (.slice D l f))
  have hb := (Bel.refl w).alloc (.cells (pgC P (.slice A n c) (.slice B m d) (.slice C k e) (.slice D l f)).toArray 28)
  unfold pgC at bx hb
  generalize w.alloc _ = W0 at bx hb ⊢
  generalize w.heap.size = g at bx ⊢
  have HB := hid_ hb
  have HP := hid_ (HP.out.bel hb)
  have BX := hid_ bx
  clear bx hb
  go_wp2_with fail
  refine (awake_any _).mono ?_
  rintro e0 w1 ⟨rfl, hb⟩
  have HP := hid_ (HP.out.bel hb)
  have BX := hid_ (BX.out.bel hb)
  have HB := hid_ (HB.out.trans hb)
  clear hb
  have c0 := BX.out.cell 0 rfl
  have c1 := BX.out.cell 1 rfl
  have c2 := BX.out.cell 2 rfl
  have c3 := BX.out.cell 3 rfl
  have c4 := BX.out.cell 4 rfl
  have c5 := BX.out.cell 5 rfl
  have c6 := BX.out.cell 6 rfl
  have c7 := BX.out.cell 7 rfl
  have c8 := BX.out.cell 8 rfl
  have c9 := BX.out.cell 9 rfl
  have c10 := BX.out.cell 10 rfl
  go_wp2_with fail
  refine (few_any P A B C D n c m d k e l f _ HP.out).mono ?_
  rintro e1 w2 ⟨⟨t, rfl, ht⟩, hb⟩
  clear c0 c1 c2 c3 c4 c5 c6 c7 c8 c9 c10
  have HP := hid_ (HP.out.bel hb)
  have BX := hid_ (BX.out.bel hb)
  have HB := hid_ (HB.out.trans hb)
  clear hb
  cases t
  · clear ht
    go_wp2
    go_ret
    exact ⟨rfl, HB.out⟩
  have HT := hid_ (ht rfl)
  clear ht
  have c0 := BX.out.cell 0 rfl
  have c1 := BX.out.cell 1 rfl
  have c2 := BX.out.cell 2 rfl
  have c3 := BX.out.cell 3 rfl
  have c4 := BX.out.cell 4 rfl
  have c5 := BX.out.cell 5 rfl
  have c6 := BX.out.cell 6 rfl
  have c7 := BX.out.cell 7 rfl
  have c8 := BX.out.cell 8 rfl
  have c9 := BX.out.cell 9 rfl
  have c10 := BX.out.cell 10 rfl
  have hk := HKK.out
  have hs := HSS.out
  have r1 : (P.kind == 4) = true := by rw [hk]; rfl
  have s0 : (s == 0) = false := by simp; omega
  have s1 : (s == 1) = false := by simp; omega
  have s2 : decide (2 ≤ s) = true := by simp; omega
  have s3 : decide (s ≤ 4095) = false := by simp; omega
  clear hk hs
  obtain ⟨o, ho⟩ : ∃ o, okP P = o := ⟨_, rfl⟩
  have HOP := hid_ ho
  clear ho
  cases o
  · have HC : Hid (chkP P = 50) := hid_ (by rw [chkP, HOP.out]; rfl)
    have HO : Hid (okE s P = false) := hid_ (by rw [okE, HOP.out]; rfl)
    go_wp2_with (first | (go_at_call 12; refine (encode_no s P A B C D n c m d k e l f _ HP.out HW.out (Nat.le_trans HT.out.1 (by omega)) (Nat.le_trans HT.out.2.1 (by omega)) (Nat.le_trans HT.out.2.2.1 (by omega)) (Nat.le_trans HT.out.2.2.2 (by omega)) HO.out).mono ?_; rintro e3 w3 ⟨rfl, hb3⟩; replace c0 := hb3.cell_ c0; replace c1 := hb3.cell_ c1; replace c2 := hb3.cell_ c2; replace c3 := hb3.cell_ c3; replace c4 := hb3.cell_ c4; replace c5 := hb3.cell_ c5; replace c6 := hb3.cell_ c6; replace c7 := hb3.cell_ c7; replace c8 := hb3.cell_ c8; replace c9 := hb3.cell_ c9; replace c10 := hb3.cell_ c10) | (go_at_call 14; refine (check_any P A B C D n c m d k e l f _ (HP.out.bel hb3) HW.out (Nat.le_trans HT.out.1 (by omega)) (Nat.le_trans HT.out.2.1 (by omega)) (Nat.le_trans HT.out.2.2.1 (by omega)) (Nat.le_trans HT.out.2.2.2 (by omega))).mono ?_; rintro e4 w4 ⟨rfl, hb4⟩; rw [HC.out]))
    go_ret
    exact ⟨rfl, (HB.out.trans hb3).trans hb4⟩
  · have HC : Hid (chkP P = 0) := hid_ (by rw [chkP, HOP.out]; rfl)
    have HO : Hid (okE s P = false) := hid_ (by rw [okE, HOP.out, HH.out]; rfl)
    go_wp2_with (first | (go_at_call 12; refine (encode_no s P A B C D n c m d k e l f _ HP.out HW.out (Nat.le_trans HT.out.1 (by omega)) (Nat.le_trans HT.out.2.1 (by omega)) (Nat.le_trans HT.out.2.2.1 (by omega)) (Nat.le_trans HT.out.2.2.2 (by omega)) HO.out).mono ?_; rintro e3 w3 ⟨rfl, hb3⟩; replace c0 := hb3.cell_ c0; replace c1 := hb3.cell_ c1; replace c2 := hb3.cell_ c2; replace c3 := hb3.cell_ c3; replace c4 := hb3.cell_ c4; replace c5 := hb3.cell_ c5; replace c6 := hb3.cell_ c6; replace c7 := hb3.cell_ c7; replace c8 := hb3.cell_ c8; replace c9 := hb3.cell_ c9; replace c10 := hb3.cell_ c10) | (go_at_call 14; refine (check_any P A B C D n c m d k e l f _ (HP.out.bel hb3) HW.out (Nat.le_trans HT.out.1 (by omega)) (Nat.le_trans HT.out.2.1 (by omega)) (Nat.le_trans HT.out.2.2.1 (by omega)) (Nat.le_trans HT.out.2.2.2 (by omega))).mono ?_; rintro e4 w4 ⟨rfl, hb4⟩; rw [HC.out]))
    go_ret
    exact ⟨rfl, (HB.out.trans hb3).trans hb4⟩
set_option maxRecDepth 10000 in
set_option maxHeartbeats 8000000 in
theorem places_f (w : World) (s : Int) (P : Pg) (A : Option Addr) (n c : Nat) (B : Option Addr) (m d : Nat) (C : Option Addr) (k e : Nat) (D : Option Addr) (l f : Nat) (hP : pageWf w P A n c B m d C k e D l f) (hk : ¬ P.kind = 4) (hs : 2 ≤ s ∧ s ≤ 4095) :
    Calls Try.prog 9 #[.int .i64 s, pgV P (.slice A n c) (.slice B m d) (.slice C k e) (.slice D l f)] w fun e w' => e = .returned (.bool true) ∧ Bel w w' := by
  have hh : hereB s P = true := by
    unfold hereB placeB
    first | (rw [if_pos hk]; simp; omega) | (rw [if_neg hk]; simp; omega)
  have HH := hid_ hh
  have HKK := hid_ hk
  have HSS := hid_ hs
  clear hh hk hs
  obtain ⟨_, _, _, _, hP, hw⟩ := hP
  have HP := hid_ hP
  have HW := hid_ hw
  unfold pgV pgC
  clear hP hw
  go_enter Try.func9, Try.ntmps9
  go_upto_region 1 with (fail)
  have bx := Bx.new w 28 (pgC P (.slice A n c) (.slice B m d) (.slice C k e) (.slice D l f))
  have hb := (Bel.refl w).alloc (.cells (pgC P (.slice A n c) (.slice B m d) (.slice C k e) (.slice D l f)).toArray 28)
  unfold pgC at bx hb
  generalize w.alloc _ = W0 at bx hb ⊢
  generalize w.heap.size = g at bx ⊢
  have HB := hid_ hb
  have HP := hid_ (HP.out.bel hb)
  have BX := hid_ bx
  clear bx hb
  go_wp2_with fail
  refine (awake_any _).mono ?_
  rintro e0 w1 ⟨rfl, hb⟩
  have HP := hid_ (HP.out.bel hb)
  have BX := hid_ (BX.out.bel hb)
  have HB := hid_ (HB.out.trans hb)
  clear hb
  have c0 := BX.out.cell 0 rfl
  have c1 := BX.out.cell 1 rfl
  have c2 := BX.out.cell 2 rfl
  have c3 := BX.out.cell 3 rfl
  have c4 := BX.out.cell 4 rfl
  have c5 := BX.out.cell 5 rfl
  have c6 := BX.out.cell 6 rfl
  have c7 := BX.out.cell 7 rfl
  have c8 := BX.out.cell 8 rfl
  have c9 := BX.out.cell 9 rfl
  have c10 := BX.out.cell 10 rfl
  go_wp2_with fail
  refine (few_any P A B C D n c m d k e l f _ HP.out).mono ?_
  rintro e1 w2 ⟨⟨t, rfl, ht⟩, hb⟩
  clear c0 c1 c2 c3 c4 c5 c6 c7 c8 c9 c10
  have HP := hid_ (HP.out.bel hb)
  have BX := hid_ (BX.out.bel hb)
  have HB := hid_ (HB.out.trans hb)
  clear hb
  cases t
  · clear ht
    go_wp2
    go_ret
    exact ⟨rfl, HB.out⟩
  have HT := hid_ (ht rfl)
  clear ht
  have c0 := BX.out.cell 0 rfl
  have c1 := BX.out.cell 1 rfl
  have c2 := BX.out.cell 2 rfl
  have c3 := BX.out.cell 3 rfl
  have c4 := BX.out.cell 4 rfl
  have c5 := BX.out.cell 5 rfl
  have c6 := BX.out.cell 6 rfl
  have c7 := BX.out.cell 7 rfl
  have c8 := BX.out.cell 8 rfl
  have c9 := BX.out.cell 9 rfl
  have c10 := BX.out.cell 10 rfl
  have hk := HKK.out
  have hs := HSS.out
  have r1 : (P.kind == 4) = false := by simp [hk]
  have s2 : decide (2 ≤ s) = true := by simp; omega
  have s3 : decide (s ≤ 4095) = true := by simp; omega
  clear hk hs
  obtain ⟨o, ho⟩ : ∃ o, okP P = o := ⟨_, rfl⟩
  have HOP := hid_ ho
  clear ho
  cases o
  · have HC : Hid (chkP P = 50) := hid_ (by rw [chkP, HOP.out]; rfl)
    have HO : Hid (okE s P = false) := hid_ (by rw [okE, HOP.out]; rfl)
    go_wp2_with (first | (go_at_call 12; refine (encode_no s P A B C D n c m d k e l f _ HP.out HW.out (Nat.le_trans HT.out.1 (by omega)) (Nat.le_trans HT.out.2.1 (by omega)) (Nat.le_trans HT.out.2.2.1 (by omega)) (Nat.le_trans HT.out.2.2.2 (by omega)) HO.out).mono ?_; rintro e3 w3 ⟨rfl, hb3⟩; replace c0 := hb3.cell_ c0; replace c1 := hb3.cell_ c1; replace c2 := hb3.cell_ c2; replace c3 := hb3.cell_ c3; replace c4 := hb3.cell_ c4; replace c5 := hb3.cell_ c5; replace c6 := hb3.cell_ c6; replace c7 := hb3.cell_ c7; replace c8 := hb3.cell_ c8; replace c9 := hb3.cell_ c9; replace c10 := hb3.cell_ c10) | (go_at_call 14; refine (check_any P A B C D n c m d k e l f _ (HP.out.bel hb3) HW.out (Nat.le_trans HT.out.1 (by omega)) (Nat.le_trans HT.out.2.1 (by omega)) (Nat.le_trans HT.out.2.2.1 (by omega)) (Nat.le_trans HT.out.2.2.2 (by omega))).mono ?_; rintro e4 w4 ⟨rfl, hb4⟩; rw [HC.out]))
    go_ret
    exact ⟨rfl, (HB.out.trans hb3).trans hb4⟩
  · have HC : Hid (chkP P = 0) := hid_ (by rw [chkP, HOP.out]; rfl)
    have HO : Hid (okE s P = true) := hid_ (by rw [okE, HOP.out, HH.out]; rfl)
    go_wp2_with (first | (go_at_call 12; refine (encode_yes s P A B C D n c m d k e l f _ HP.out HW.out (Nat.le_trans HT.out.1 (by omega)) (Nat.le_trans HT.out.2.1 (by omega)) (Nat.le_trans HT.out.2.2.1 (by omega)) (Nat.le_trans HT.out.2.2.2 (by omega)) HO.out).mono ?_; rintro e3 w3 ⟨g9, rfl, hR, hg9, hb3⟩; replace c0 := hb3.cell_ c0; replace c1 := hb3.cell_ c1; replace c2 := hb3.cell_ c2; replace c3 := hb3.cell_ c3; replace c4 := hb3.cell_ c4; replace c5 := hb3.cell_ c5; replace c6 := hb3.cell_ c6; replace c7 := hb3.cell_ c7; replace c8 := hb3.cell_ c8; replace c9 := hb3.cell_ c9; replace c10 := hb3.cell_ c10) | (go_at_call 14; refine (check_any P A B C D n c m d k e l f _ (HP.out.bel hb3) HW.out (Nat.le_trans HT.out.1 (by omega)) (Nat.le_trans HT.out.2.1 (by omega)) (Nat.le_trans HT.out.2.2.1 (by omega)) (Nat.le_trans HT.out.2.2.2 (by omega))).mono ?_; rintro e4 w4 ⟨rfl, hb4⟩; rw [HC.out]))
    go_ret
    exact ⟨rfl, (HB.out.trans hb3).trans hb4⟩
set_option maxRecDepth 10000 in
set_option maxHeartbeats 8000000 in
theorem places_g (w : World) (s : Int) (P : Pg) (A : Option Addr) (n c : Nat) (B : Option Addr) (m d : Nat) (C : Option Addr) (k e : Nat) (D : Option Addr) (l f : Nat) (hP : pageWf w P A n c B m d C k e D l f) (hk : ¬ P.kind = 4) (hs : s < 2) :
    Calls Try.prog 9 #[.int .i64 s, pgV P (.slice A n c) (.slice B m d) (.slice C k e) (.slice D l f)] w fun e w' => e = .returned (.bool true) ∧ Bel w w' := by
  have hh : hereB s P = false := by
    unfold hereB placeB
    first | (rw [if_pos hk]; simp; omega) | (rw [if_neg hk]; simp; omega)
  have HH := hid_ hh
  have HKK := hid_ hk
  have HSS := hid_ hs
  clear hh hk hs
  obtain ⟨_, _, _, _, hP, hw⟩ := hP
  have HP := hid_ hP
  have HW := hid_ hw
  unfold pgV pgC
  clear hP hw
  go_enter Try.func9, Try.ntmps9
  go_upto_region 1 with (fail)
  have bx := Bx.new w 28 (pgC P (.slice A n c) (.slice B m d) (.slice C k e) (.slice D l f))
  have hb := (Bel.refl w).alloc (.cells (pgC P (.slice A n c) (.slice B m d) (.slice C k e) (.slice D l f)).toArray 28)
  unfold pgC at bx hb
  generalize w.alloc _ = W0 at bx hb ⊢
  generalize w.heap.size = g at bx ⊢
  have HB := hid_ hb
  have HP := hid_ (HP.out.bel hb)
  have BX := hid_ bx
  clear bx hb
  go_wp2_with fail
  refine (awake_any _).mono ?_
  rintro e0 w1 ⟨rfl, hb⟩
  have HP := hid_ (HP.out.bel hb)
  have BX := hid_ (BX.out.bel hb)
  have HB := hid_ (HB.out.trans hb)
  clear hb
  have c0 := BX.out.cell 0 rfl
  have c1 := BX.out.cell 1 rfl
  have c2 := BX.out.cell 2 rfl
  have c3 := BX.out.cell 3 rfl
  have c4 := BX.out.cell 4 rfl
  have c5 := BX.out.cell 5 rfl
  have c6 := BX.out.cell 6 rfl
  have c7 := BX.out.cell 7 rfl
  have c8 := BX.out.cell 8 rfl
  have c9 := BX.out.cell 9 rfl
  have c10 := BX.out.cell 10 rfl
  go_wp2_with fail
  refine (few_any P A B C D n c m d k e l f _ HP.out).mono ?_
  rintro e1 w2 ⟨⟨t, rfl, ht⟩, hb⟩
  clear c0 c1 c2 c3 c4 c5 c6 c7 c8 c9 c10
  have HP := hid_ (HP.out.bel hb)
  have BX := hid_ (BX.out.bel hb)
  have HB := hid_ (HB.out.trans hb)
  clear hb
  cases t
  · clear ht
    go_wp2
    go_ret
    exact ⟨rfl, HB.out⟩
  have HT := hid_ (ht rfl)
  clear ht
  have c0 := BX.out.cell 0 rfl
  have c1 := BX.out.cell 1 rfl
  have c2 := BX.out.cell 2 rfl
  have c3 := BX.out.cell 3 rfl
  have c4 := BX.out.cell 4 rfl
  have c5 := BX.out.cell 5 rfl
  have c6 := BX.out.cell 6 rfl
  have c7 := BX.out.cell 7 rfl
  have c8 := BX.out.cell 8 rfl
  have c9 := BX.out.cell 9 rfl
  have c10 := BX.out.cell 10 rfl
  have hk := HKK.out
  have hs := HSS.out
  have r1 : (P.kind == 4) = false := by simp [hk]
  have s2 : decide (2 ≤ s) = false := by simp; omega
  clear hk hs
  obtain ⟨o, ho⟩ : ∃ o, okP P = o := ⟨_, rfl⟩
  have HOP := hid_ ho
  clear ho
  cases o
  · have HC : Hid (chkP P = 50) := hid_ (by rw [chkP, HOP.out]; rfl)
    have HO : Hid (okE s P = false) := hid_ (by rw [okE, HOP.out]; rfl)
    go_wp2_with (first | (go_at_call 12; refine (encode_no s P A B C D n c m d k e l f _ HP.out HW.out (Nat.le_trans HT.out.1 (by omega)) (Nat.le_trans HT.out.2.1 (by omega)) (Nat.le_trans HT.out.2.2.1 (by omega)) (Nat.le_trans HT.out.2.2.2 (by omega)) HO.out).mono ?_; rintro e3 w3 ⟨rfl, hb3⟩; replace c0 := hb3.cell_ c0; replace c1 := hb3.cell_ c1; replace c2 := hb3.cell_ c2; replace c3 := hb3.cell_ c3; replace c4 := hb3.cell_ c4; replace c5 := hb3.cell_ c5; replace c6 := hb3.cell_ c6; replace c7 := hb3.cell_ c7; replace c8 := hb3.cell_ c8; replace c9 := hb3.cell_ c9; replace c10 := hb3.cell_ c10) | (go_at_call 14; refine (check_any P A B C D n c m d k e l f _ (HP.out.bel hb3) HW.out (Nat.le_trans HT.out.1 (by omega)) (Nat.le_trans HT.out.2.1 (by omega)) (Nat.le_trans HT.out.2.2.1 (by omega)) (Nat.le_trans HT.out.2.2.2 (by omega))).mono ?_; rintro e4 w4 ⟨rfl, hb4⟩; rw [HC.out]))
    go_ret
    exact ⟨rfl, (HB.out.trans hb3).trans hb4⟩
  · have HC : Hid (chkP P = 0) := hid_ (by rw [chkP, HOP.out]; rfl)
    have HO : Hid (okE s P = false) := hid_ (by rw [okE, HOP.out, HH.out]; rfl)
    go_wp2_with (first | (go_at_call 12; refine (encode_no s P A B C D n c m d k e l f _ HP.out HW.out (Nat.le_trans HT.out.1 (by omega)) (Nat.le_trans HT.out.2.1 (by omega)) (Nat.le_trans HT.out.2.2.1 (by omega)) (Nat.le_trans HT.out.2.2.2 (by omega)) HO.out).mono ?_; rintro e3 w3 ⟨rfl, hb3⟩; replace c0 := hb3.cell_ c0; replace c1 := hb3.cell_ c1; replace c2 := hb3.cell_ c2; replace c3 := hb3.cell_ c3; replace c4 := hb3.cell_ c4; replace c5 := hb3.cell_ c5; replace c6 := hb3.cell_ c6; replace c7 := hb3.cell_ c7; replace c8 := hb3.cell_ c8; replace c9 := hb3.cell_ c9; replace c10 := hb3.cell_ c10) | (go_at_call 14; refine (check_any P A B C D n c m d k e l f _ (HP.out.bel hb3) HW.out (Nat.le_trans HT.out.1 (by omega)) (Nat.le_trans HT.out.2.1 (by omega)) (Nat.le_trans HT.out.2.2.1 (by omega)) (Nat.le_trans HT.out.2.2.2 (by omega))).mono ?_; rintro e4 w4 ⟨rfl, hb4⟩; rw [HC.out]))
    go_ret
    exact ⟨rfl, (HB.out.trans hb3).trans hb4⟩
set_option maxRecDepth 10000 in
set_option maxHeartbeats 8000000 in
theorem places_h (w : World) (s : Int) (P : Pg) (A : Option Addr) (n c : Nat) (B : Option Addr) (m d : Nat) (C : Option Addr) (k e : Nat) (D : Option Addr) (l f : Nat) (hP : pageWf w P A n c B m d C k e D l f) (hk : ¬ P.kind = 4) (hs : 4095 < s) :
    Calls Try.prog 9 #[.int .i64 s, pgV P (.slice A n c) (.slice B m d) (.slice C k e) (.slice D l f)] w fun e w' => e = .returned (.bool true) ∧ Bel w w' := by
  have hh : hereB s P = false := by
    unfold hereB placeB
    first | (rw [if_pos hk]; simp; omega) | (rw [if_neg hk]; simp; omega)
  have HH := hid_ hh
  have HKK := hid_ hk
  have HSS := hid_ hs
  clear hh hk hs
  obtain ⟨_, _, _, _, hP, hw⟩ := hP
  have HP := hid_ hP
  have HW := hid_ hw
  unfold pgV pgC
  clear hP hw
  go_enter Try.func9, Try.ntmps9
  go_upto_region 1 with (fail)
  have bx := Bx.new w 28 (pgC P (.slice A n c) (.slice B m d) (.slice C k e) (.slice D l f))
  have hb := (Bel.refl w).alloc (.cells (pgC P (.slice A n c) (.slice B m d) (.slice C k e) (.slice D l f)).toArray 28)
  unfold pgC at bx hb
  generalize w.alloc _ = W0 at bx hb ⊢
  generalize w.heap.size = g at bx ⊢
  have HB := hid_ hb
  have HP := hid_ (HP.out.bel hb)
  have BX := hid_ bx
  clear bx hb
  go_wp2_with fail
  refine (awake_any _).mono ?_
  rintro e0 w1 ⟨rfl, hb⟩
  have HP := hid_ (HP.out.bel hb)
  have BX := hid_ (BX.out.bel hb)
  have HB := hid_ (HB.out.trans hb)
  clear hb
  have c0 := BX.out.cell 0 rfl
  have c1 := BX.out.cell 1 rfl
  have c2 := BX.out.cell 2 rfl
  have c3 := BX.out.cell 3 rfl
  have c4 := BX.out.cell 4 rfl
  have c5 := BX.out.cell 5 rfl
  have c6 := BX.out.cell 6 rfl
  have c7 := BX.out.cell 7 rfl
  have c8 := BX.out.cell 8 rfl
  have c9 := BX.out.cell 9 rfl
  have c10 := BX.out.cell 10 rfl
  go_wp2_with fail
  refine (few_any P A B C D n c m d k e l f _ HP.out).mono ?_
  rintro e1 w2 ⟨⟨t, rfl, ht⟩, hb⟩
  clear c0 c1 c2 c3 c4 c5 c6 c7 c8 c9 c10
  have HP := hid_ (HP.out.bel hb)
  have BX := hid_ (BX.out.bel hb)
  have HB := hid_ (HB.out.trans hb)
  clear hb
  cases t
  · clear ht
    go_wp2
    go_ret
    exact ⟨rfl, HB.out⟩
  have HT := hid_ (ht rfl)
  clear ht
  have c0 := BX.out.cell 0 rfl
  have c1 := BX.out.cell 1 rfl
  have c2 := BX.out.cell 2 rfl
  have c3 := BX.out.cell 3 rfl
  have c4 := BX.out.cell 4 rfl
  have c5 := BX.out.cell 5 rfl
  have c6 := BX.out.cell 6 rfl
  have c7 := BX.out.cell 7 rfl
  have c8 := BX.out.cell 8 rfl
  have c9 := BX.out.cell 9 rfl
  have c10 := BX.out.cell 10 rfl
  have hk := HKK.out
  have hs := HSS.out
  have r1 : (P.kind == 4) = false := by simp [hk]
  have s2 : decide (2 ≤ s) = true := by simp; omega
  have s3 : decide (s ≤ 4095) = false := by simp; omega
  clear hk hs
  obtain ⟨o, ho⟩ : ∃ o, okP P = o := ⟨_, rfl⟩
  have HOP := hid_ ho
  clear ho
  cases o
  · have HC : Hid (chkP P = 50) := hid_ (by rw [chkP, HOP.out]; rfl)
    have HO : Hid (okE s P = false) := hid_ (by rw [okE, HOP.out]; rfl)
    go_wp2_with (first | (go_at_call 12; refine (encode_no s P A B C D n c m d k e l f _ HP.out HW.out (Nat.le_trans HT.out.1 (by omega)) (Nat.le_trans HT.out.2.1 (by omega)) (Nat.le_trans HT.out.2.2.1 (by omega)) (Nat.le_trans HT.out.2.2.2 (by omega)) HO.out).mono ?_; rintro e3 w3 ⟨rfl, hb3⟩; replace c0 := hb3.cell_ c0; replace c1 := hb3.cell_ c1; replace c2 := hb3.cell_ c2; replace c3 := hb3.cell_ c3; replace c4 := hb3.cell_ c4; replace c5 := hb3.cell_ c5; replace c6 := hb3.cell_ c6; replace c7 := hb3.cell_ c7; replace c8 := hb3.cell_ c8; replace c9 := hb3.cell_ c9; replace c10 := hb3.cell_ c10) | (go_at_call 14; refine (check_any P A B C D n c m d k e l f _ (HP.out.bel hb3) HW.out (Nat.le_trans HT.out.1 (by omega)) (Nat.le_trans HT.out.2.1 (by omega)) (Nat.le_trans HT.out.2.2.1 (by omega)) (Nat.le_trans HT.out.2.2.2 (by omega))).mono ?_; rintro e4 w4 ⟨rfl, hb4⟩; rw [HC.out]))
    go_ret
    exact ⟨rfl, (HB.out.trans hb3).trans hb4⟩
  · have HC : Hid (chkP P = 0) := hid_ (by rw [chkP, HOP.out]; rfl)
    have HO : Hid (okE s P = false) := hid_ (by rw [okE, HOP.out, HH.out]; rfl)
    go_wp2_with (first | (go_at_call 12; refine (encode_no s P A B C D n c m d k e l f _ HP.out HW.out (Nat.le_trans HT.out.1 (by omega)) (Nat.le_trans HT.out.2.1 (by omega)) (Nat.le_trans HT.out.2.2.1 (by omega)) (Nat.le_trans HT.out.2.2.2 (by omega)) HO.out).mono ?_; rintro e3 w3 ⟨rfl, hb3⟩; replace c0 := hb3.cell_ c0; replace c1 := hb3.cell_ c1; replace c2 := hb3.cell_ c2; replace c3 := hb3.cell_ c3; replace c4 := hb3.cell_ c4; replace c5 := hb3.cell_ c5; replace c6 := hb3.cell_ c6; replace c7 := hb3.cell_ c7; replace c8 := hb3.cell_ c8; replace c9 := hb3.cell_ c9; replace c10 := hb3.cell_ c10) | (go_at_call 14; refine (check_any P A B C D n c m d k e l f _ (HP.out.bel hb3) HW.out (Nat.le_trans HT.out.1 (by omega)) (Nat.le_trans HT.out.2.1 (by omega)) (Nat.le_trans HT.out.2.2.1 (by omega)) (Nat.le_trans HT.out.2.2.2 (by omega))).mono ?_; rintro e4 w4 ⟨rfl, hb4⟩; rw [HC.out]))
    go_ret
    exact ⟨rfl, (HB.out.trans hb3).trans hb4⟩
theorem walkPagePlaces (w : World) (s : Int) (hs : (Lit.int .i64 s).wf = true) (P : Pg) (A : Option Addr) (n c : Nat) (B : Option Addr) (m d : Nat) (C : Option Addr) (k e : Nat) (D : Option Addr) (l f : Nat) (hP : pageWf w P A n c B m d C k e D l f) :
    Calls Try.prog 9 #[.int .i64 s, pgV P (.slice A n c) (.slice B m d) (.slice C k e) (.slice D l f)] w fun e w' => e = .returned (.bool true) ∧ Bel w w' := by
  clear hs
  by_cases hk : P.kind = 4
  · by_cases h0 : s = 0
    · exact places_a w s P A n c B m d C k e D l f hP hk h0
    by_cases h1 : s = 1
    · exact places_b w s P A n c B m d C k e D l f hP hk h1
    by_cases h2 : s < 0
    · exact places_c w s P A n c B m d C k e D l f hP hk h2
    by_cases h3 : s ≤ 4095
    · exact places_d w s P A n c B m d C k e D l f hP hk (by omega)
    · exact places_e w s P A n c B m d C k e D l f hP hk (by omega)
  · by_cases h2 : s < 2
    · exact places_g w s P A n c B m d C k e D l f hP hk h2
    by_cases h3 : s ≤ 4095
    · exact places_f w s P A n c B m d C k e D l f hP hk (by omega)
    · exact places_h w s P A n c B m d C k e D l f hP hk (by omega)
end Go.Proofs.Ytcfabnkkkpcelaa
