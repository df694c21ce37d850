/- PageEncodes, walked. -/
import Derived.Test.YtcfabnkkkpcelaaR5e
import Derived.Test.YtcfabnkkkpcelaaPgL4
import Derived.Test.YtcfabnkkkpcelaaOpPage
set_option linter.unusedSimpArgs false
set_option linter.unusedVariables false
namespace Go.Proofs.Ytcfabnkkkpcelaa
open Go.RowKit Go.Lib
set_option maxRecDepth 10000 in
set_option maxHeartbeats 8000000 in
theorem encodes_yes (w : World) (s : Int) (P : Pg) (A : Option Addr) (n c : Nat) (B : Option Addr) (m d : Nat) (C : Option Addr) (k e : Nat) (D : Option Addr) (l f : Nat) (hP : pageWf w P A n c B m d C k e D l f) (hy : okE s P = true) :
    Calls Try.prog 4 #[.int .i64 s, pgV P (.slice A n c) (.slice B m d) (.slice C k e) (.slice D l f)] w fun e w' => e = .returned (.bool true) ∧ Bel w w' := by
  have HO := hid_ hy
  clear hy
  obtain ⟨_, _, _, _, hP, hw⟩ := hP
  have HP := hid_ hP
  have HW := hid_ hw
  unfold pgV pgC
  clear hP hw
  go_enter Try.func4, Try.ntmps4
  go_upto_region 1 with (fail)
  have bx := Bx.new w 28 (pgC P (.slice A n c) (.slice B m d) (.slice C k e) (.slice D l f))
  have hb := (Bel.refl w).alloc (.cells (pgC P (.slice A n c) (.slice B m d) (.slice C k e) (.slice D l f)).toArray 28)
  unfold pgC at bx hb
  generalize w.alloc _ = W0 at bx hb ⊢
  generalize w.heap.size = g at bx ⊢
  have HB := hid_ hb
  have HP := hid_ (HP.out.bel hb)
  have BX := hid_ bx
  clear bx hb
  go_wp2_with fail
  refine (awake_any _).mono ?_
  rintro e0 w1 ⟨rfl, hb⟩
  have HP := hid_ (HP.out.bel hb)
  have BX := hid_ (BX.out.bel hb)
  have HB := hid_ (HB.out.trans hb)
  clear hb
  have c0 := BX.out.cell 0 rfl
  have c1 := BX.out.cell 1 rfl
  have c2 := BX.out.cell 2 rfl
  have c3 := BX.out.cell 3 rfl
  have c4 := BX.out.cell 4 rfl
  have c5 := BX.out.cell 5 rfl
  have c6 := BX.out.cell 6 rfl
  have c7 := BX.out.cell 7 rfl
  have c8 := BX.out.cell 8 rfl
  have c9 := BX.out.cell 9 rfl
  have c10 := BX.out.cell 10 rfl
  go_wp2_with fail
  refine (few_any P A B C D n c m d k e l f _ HP.out).mono ?_
  rintro e1 w2 ⟨⟨t, rfl, ht⟩, hb⟩
  clear c0 c1 c2 c3 c4 c5 c6 c7 c8 c9 c10
  have HP := hid_ (HP.out.bel hb)
  have BX := hid_ (BX.out.bel hb)
  have HB := hid_ (HB.out.trans hb)
  clear hb
  cases t
  · clear ht
    go_wp2
    go_ret
    exact ⟨rfl, HB.out⟩
  have HT := hid_ (ht rfl)
  clear ht
  have c0 := BX.out.cell 0 rfl
  have c1 := BX.out.cell 1 rfl
  have c2 := BX.out.cell 2 rfl
  have c3 := BX.out.cell 3 rfl
  have c4 := BX.out.cell 4 rfl
  have c5 := BX.out.cell 5 rfl
  have c6 := BX.out.cell 6 rfl
  have c7 := BX.out.cell 7 rfl
  have c8 := BX.out.cell 8 rfl
  have c9 := BX.out.cell 9 rfl
  have c10 := BX.out.cell 10 rfl
  go_wp2_with fail
  refine (encode_yes s P A B C D n c m d k e l f _ HP.out HW.out (Nat.le_trans HT.out.1 (by omega)) (Nat.le_trans HT.out.2.1 (by omega)) (Nat.le_trans HT.out.2.2.1 (by omega)) (Nat.le_trans HT.out.2.2.2 (by omega)) HO.out).mono ?_
  rintro e3 w3 ⟨g9, rfl, hR, hg9, hb⟩
  clear c0 c1 c2 c3 c4 c5 c6 c7 c8 c9 c10
  have HRA := hid_ hR
  clear hR hg9
  have HP := hid_ (HP.out.bel hb)
  have BX := hid_ (BX.out.bel hb)
  have HB := hid_ (HB.out.trans hb)
  clear hb
  have c0 := BX.out.cell 0 rfl
  have c1 := BX.out.cell 1 rfl
  have c2 := BX.out.cell 2 rfl
  have c3 := BX.out.cell 3 rfl
  have c4 := BX.out.cell 4 rfl
  have c5 := BX.out.cell 5 rfl
  have c6 := BX.out.cell 6 rfl
  have c7 := BX.out.cell 7 rfl
  have c8 := BX.out.cell 8 rfl
  have c9 := BX.out.cell 9 rfl
  have c10 := BX.out.cell 10 rfl
  go_wp2_with fail
  refine (encode5_yes s P A B C D n c m d k e l f _ HP.out HW.out (Nat.le_trans HT.out.2.1 (by omega)) (Nat.le_trans HT.out.2.2.1 (by omega)) HO.out).mono ?_
  rintro e4 w4 ⟨AR, cR, rfl, hcR, hRR, hb⟩
  clear c0 c1 c2 c3 c4 c5 c6 c7 c8 c9 c10
  have HRA := hid_ (HRA.out.bel hb)
  have HRB := hid_ hRR
  clear hRR hcR
  have HP := hid_ (HP.out.bel hb)
  have BX := hid_ (BX.out.bel hb)
  have HB := hid_ (HB.out.trans hb)
  clear hb
  obtain ⟨W0, hW0⟩ : ∃ W0, w4 = W0 := ⟨_, rfl⟩
  rw [hW0] at HP BX HB HRA HRB ⊢
  clear hW0
  have c0 := BX.out.cell 0 rfl
  have c1 := BX.out.cell 1 rfl
  have c2 := BX.out.cell 2 rfl
  have c3 := BX.out.cell 3 rfl
  have c4 := BX.out.cell 4 rfl
  have c5 := BX.out.cell 5 rfl
  have c6 := BX.out.cell 6 rfl
  have c7 := BX.out.cell 7 rfl
  have c8 := BX.out.cell 8 rfl
  have c9 := BX.out.cell 9 rfl
  have c10 := BX.out.cell 10 rfl
  obtain ⟨q, hq⟩ : ∃ q, chkP P = q := ⟨_, rfl⟩
  have HQ := hid_ hq
  have hqq : (q == q) = true := beq_self_eq_true q
  have hC := Bel.refl W0
  clear hq
  have HKP : Hid (∀ W, Bel W0 W → (fun W => W.cell? ⟨g, 0, none⟩ = some (.int .i64 P.kind) ∧ W.cell? ⟨g, 1, none⟩ = some (.slice A n c) ∧ W.cell? ⟨g, 2, none⟩ = some (.slice B m d) ∧ W.cell? ⟨g, 3, none⟩ = some (.slice C k e) ∧ W.cell? ⟨g, 4, none⟩ = some (.slice D l f) ∧ W.cell? ⟨g, 5, none⟩ = some (.int .i64 P.next) ∧ W.cell? ⟨g, 6, none⟩ = some (.int .u64 P.epoch) ∧ W.cell? ⟨g, 7, none⟩ = some (.int .i64 P.root) ∧ W.cell? ⟨g, 8, none⟩ = some (.int .i64 P.depth) ∧ W.cell? ⟨g, 9, none⟩ = some (.int .i64 P.count) ∧ W.cell? ⟨g, 10, none⟩ = some (.int .i64 P.high) ∧ (convert 30 9 (.slice (some ⟨g9, 0, none⟩) 1024 1024)).run Try.prog W = .ok (.string (strOfNums (encP s P))) W ∧ (convert 30 9 (.slice AR 1024 cR)).run Try.prog W = .ok (.string (strOfNums (encP s P))) W) W) := hid_ (fun W hW => ⟨hW.cell_ c0, hW.cell_ c1, hW.cell_ c2, hW.cell_ c3, hW.cell_ c4, hW.cell_ c5, hW.cell_ c6, hW.cell_ c7, hW.cell_ c8, hW.cell_ c9, hW.cell_ c10, run_str (HRA.out.bel hW), run_str (HRB.out.bel hW)⟩)
  have s1 := (HKP.out W0 hC).2.2.2.2.2.2.2.2.2.2.2.1
  have s2 := (HKP.out W0 hC).2.2.2.2.2.2.2.2.2.2.2.2
  have HK1 : Hid (∀ Y, Bel W0 Y → Calls Try.prog 14 #[.agg #[.int .i64 P.kind, .slice A n c, .slice B m d, .slice C k e, .slice D l f, .int .i64 P.next, .int .u64 P.epoch, .int .i64 P.root, .int .i64 P.depth, .int .i64 P.count, .int .i64 P.high]] Y fun e w' => e = .returned (.int .i64 q) ∧ Bel Y w') := hid_ (fun Y hY => by rw [← HQ.out]; exact check_any P A B C D n c m d k e l f Y (HP.out.bel hY) HW.out (Nat.le_trans HT.out.1 (by omega)) (Nat.le_trans HT.out.2.1 (by omega)) (Nat.le_trans HT.out.2.2.1 (by omega)) (Nat.le_trans HT.out.2.2.2 (by omega)))
  have HK2 : Hid (∀ Y, Bel W0 Y → Calls Try.prog 15 #[.agg #[.int .i64 P.kind, .slice A n c, .slice B m d, .slice C k e, .slice D l f, .int .i64 P.next, .int .u64 P.epoch, .int .i64 P.root, .int .i64 P.depth, .int .i64 P.count, .int .i64 P.high]] Y fun e w' => e = .returned (.int .i64 q) ∧ Bel Y w') := hid_ (fun Y hY => by rw [← HQ.out]; exact chkR_any P A B C D n c m d k e l f Y (HP.out.bel hY) (Nat.le_trans HT.out.2.1 (by omega)) (Nat.le_trans HT.out.2.2.1 (by omega)))
  go_upto_region 6 with (fail)
  go_region_held3 (fun W => W.cell? ⟨g, 0, none⟩ = some (.int .i64 P.kind) ∧ W.cell? ⟨g, 1, none⟩ = some (.slice A n c) ∧ W.cell? ⟨g, 2, none⟩ = some (.slice B m d) ∧ W.cell? ⟨g, 3, none⟩ = some (.slice C k e) ∧ W.cell? ⟨g, 4, none⟩ = some (.slice D l f) ∧ W.cell? ⟨g, 5, none⟩ = some (.int .i64 P.next) ∧ W.cell? ⟨g, 6, none⟩ = some (.int .u64 P.epoch) ∧ W.cell? ⟨g, 7, none⟩ = some (.int .i64 P.root) ∧ W.cell? ⟨g, 8, none⟩ = some (.int .i64 P.depth) ∧ W.cell? ⟨g, 9, none⟩ = some (.int .i64 P.count) ∧ W.cell? ⟨g, 10, none⟩ = some (.int .i64 P.high) ∧ (convert 30 9 (.slice (some ⟨g9, 0, none⟩) 1024 1024)).run Try.prog W = .ok (.string (strOfNums (encP s P))) W ∧ (convert 30 9 (.slice AR 1024 cR)).run Try.prog W = .ok (.string (strOfNums (encP s P))) W) ((refine HKP.out _ ?_; repeat first | with_reducible exact hC | with_reducible exact Bel.refl _ | with_reducible apply Bel.drew | with_reducible apply Bel.alloc))
    (first
    | (go_at_call 14; with_reducible refine' Calls.mono (HK1.out _ (hC.trans (by repeat first | with_reducible exact Bel.refl _ | with_reducible apply Bel.drew | with_reducible apply Bel.alloc))) ?_; rintro e wa ⟨rfl, ha⟩; replace hC := (hC.trans (by repeat first | with_reducible exact Bel.refl _ | with_reducible apply Bel.drew | with_reducible apply Bel.alloc)).trans ha; clear ha)
    | (go_at_call 15; with_reducible refine' Calls.mono (HK2.out _ (hC.trans (by repeat first | with_reducible exact Bel.refl _ | with_reducible apply Bel.drew | with_reducible apply Bel.alloc))) ?_; rintro e wa ⟨rfl, ha⟩; replace hC := (hC.trans (by repeat first | with_reducible exact Bel.refl _ | with_reducible apply Bel.drew | with_reducible apply Bel.alloc)).trans ha; clear ha))
  all_goals (
    go_wp2
    go_ret
    exact ⟨rfl, HB.out.trans hC⟩)
set_option maxRecDepth 10000 in
set_option maxHeartbeats 8000000 in
theorem encodes_no (w : World) (s : Int) (P : Pg) (A : Option Addr) (n c : Nat) (B : Option Addr) (m d : Nat) (C : Option Addr) (k e : Nat) (D : Option Addr) (l f : Nat) (hP : pageWf w P A n c B m d C k e D l f) (hy : okE s P = false) :
    Calls Try.prog 4 #[.int .i64 s, pgV P (.slice A n c) (.slice B m d) (.slice C k e) (.slice D l f)] w fun e w' => e = .returned (.bool true) ∧ Bel w w' := by
  have HO := hid_ hy
  clear hy
  obtain ⟨_, _, _, _, hP, hw⟩ := hP
  have HP := hid_ hP
  have HW := hid_ hw
  unfold pgV pgC
  clear hP hw
  go_enter Try.func4, Try.ntmps4
  go_upto_region 1 with (fail)
  have bx := Bx.new w 28 (pgC P (.slice A n c) (.slice B m d) (.slice C k e) (.slice D l f))
  have hb := (Bel.refl w).alloc (.cells (pgC P (.slice A n c) (.slice B m d) (.slice C k e) (.slice D l f)).toArray 28)
  unfold pgC at bx hb
  generalize w.alloc _ = W0 at bx hb ⊢
  generalize w.heap.size = g at bx ⊢
  have HB := hid_ hb
  have HP := hid_ (HP.out.bel hb)
  have BX := hid_ bx
  clear bx hb
  go_wp2_with fail
  refine (awake_any _).mono ?_
  rintro e0 w1 ⟨rfl, hb⟩
  have HP := hid_ (HP.out.bel hb)
  have BX := hid_ (BX.out.bel hb)
  have HB := hid_ (HB.out.trans hb)
  clear hb
  have c0 := BX.out.cell 0 rfl
  have c1 := BX.out.cell 1 rfl
  have c2 := BX.out.cell 2 rfl
  have c3 := BX.out.cell 3 rfl
  have c4 := BX.out.cell 4 rfl
  have c5 := BX.out.cell 5 rfl
  have c6 := BX.out.cell 6 rfl
  have c7 := BX.out.cell 7 rfl
  have c8 := BX.out.cell 8 rfl
  have c9 := BX.out.cell 9 rfl
  have c10 := BX.out.cell 10 rfl
  go_wp2_with fail
  refine (few_any P A B C D n c m d k e l f _ HP.out).mono ?_
  rintro e1 w2 ⟨⟨t, rfl, ht⟩, hb⟩
  clear c0 c1 c2 c3 c4 c5 c6 c7 c8 c9 c10
  have HP := hid_ (HP.out.bel hb)
  have BX := hid_ (BX.out.bel hb)
  have HB := hid_ (HB.out.trans hb)
  clear hb
  cases t
  · clear ht
    go_wp2
    go_ret
    exact ⟨rfl, HB.out⟩
  have HT := hid_ (ht rfl)
  clear ht
  have c0 := BX.out.cell 0 rfl
  have c1 := BX.out.cell 1 rfl
  have c2 := BX.out.cell 2 rfl
  have c3 := BX.out.cell 3 rfl
  have c4 := BX.out.cell 4 rfl
  have c5 := BX.out.cell 5 rfl
  have c6 := BX.out.cell 6 rfl
  have c7 := BX.out.cell 7 rfl
  have c8 := BX.out.cell 8 rfl
  have c9 := BX.out.cell 9 rfl
  have c10 := BX.out.cell 10 rfl
  go_wp2_with fail
  refine (encode_no s P A B C D n c m d k e l f _ HP.out HW.out (Nat.le_trans HT.out.1 (by omega)) (Nat.le_trans HT.out.2.1 (by omega)) (Nat.le_trans HT.out.2.2.1 (by omega)) (Nat.le_trans HT.out.2.2.2 (by omega)) HO.out).mono ?_
  rintro e3 w3 ⟨rfl, hb⟩
  clear c0 c1 c2 c3 c4 c5 c6 c7 c8 c9 c10
  have HP := hid_ (HP.out.bel hb)
  have BX := hid_ (BX.out.bel hb)
  have HB := hid_ (HB.out.trans hb)
  clear hb
  have c0 := BX.out.cell 0 rfl
  have c1 := BX.out.cell 1 rfl
  have c2 := BX.out.cell 2 rfl
  have c3 := BX.out.cell 3 rfl
  have c4 := BX.out.cell 4 rfl
  have c5 := BX.out.cell 5 rfl
  have c6 := BX.out.cell 6 rfl
  have c7 := BX.out.cell 7 rfl
  have c8 := BX.out.cell 8 rfl
  have c9 := BX.out.cell 9 rfl
  have c10 := BX.out.cell 10 rfl
  go_wp2_with fail
  refine (encode5_no s P A B C D n c m d k e l f _ HP.out HW.out (Nat.le_trans HT.out.2.1 (by omega)) (Nat.le_trans HT.out.2.2.1 (by omega)) HO.out).mono ?_
  rintro e4 w4 ⟨rfl, hb⟩
  clear c0 c1 c2 c3 c4 c5 c6 c7 c8 c9 c10
  have HP := hid_ (HP.out.bel hb)
  have BX := hid_ (BX.out.bel hb)
  have HB := hid_ (HB.out.trans hb)
  clear hb
  obtain ⟨W0, hW0⟩ : ∃ W0, w4 = W0 := ⟨_, rfl⟩
  rw [hW0] at HP BX HB ⊢
  clear hW0
  have c0 := BX.out.cell 0 rfl
  have c1 := BX.out.cell 1 rfl
  have c2 := BX.out.cell 2 rfl
  have c3 := BX.out.cell 3 rfl
  have c4 := BX.out.cell 4 rfl
  have c5 := BX.out.cell 5 rfl
  have c6 := BX.out.cell 6 rfl
  have c7 := BX.out.cell 7 rfl
  have c8 := BX.out.cell 8 rfl
  have c9 := BX.out.cell 9 rfl
  have c10 := BX.out.cell 10 rfl
  obtain ⟨q, hq⟩ : ∃ q, chkP P = q := ⟨_, rfl⟩
  have HQ := hid_ hq
  have hqq : (q == q) = true := beq_self_eq_true q
  have hC := Bel.refl W0
  clear hq
  have HKP : Hid (∀ W, Bel W0 W → (fun W => W.cell? ⟨g, 0, none⟩ = some (.int .i64 P.kind) ∧ W.cell? ⟨g, 1, none⟩ = some (.slice A n c) ∧ W.cell? ⟨g, 2, none⟩ = some (.slice B m d) ∧ W.cell? ⟨g, 3, none⟩ = some (.slice C k e) ∧ W.cell? ⟨g, 4, none⟩ = some (.slice D l f) ∧ W.cell? ⟨g, 5, none⟩ = some (.int .i64 P.next) ∧ W.cell? ⟨g, 6, none⟩ = some (.int .u64 P.epoch) ∧ W.cell? ⟨g, 7, none⟩ = some (.int .i64 P.root) ∧ W.cell? ⟨g, 8, none⟩ = some (.int .i64 P.depth) ∧ W.cell? ⟨g, 9, none⟩ = some (.int .i64 P.count) ∧ W.cell? ⟨g, 10, none⟩ = some (.int .i64 P.high) ∧ (convert 30 9 (.slice none 0 0)).run Try.prog W = .ok (.string (strOfNums [])) W) W) := hid_ (fun W hW => ⟨hW.cell_ c0, hW.cell_ c1, hW.cell_ c2, hW.cell_ c3, hW.cell_ c4, hW.cell_ c5, hW.cell_ c6, hW.cell_ c7, hW.cell_ c8, hW.cell_ c9, hW.cell_ c10, run_str (Row.none_ byteT _ none)⟩)
  have s1 := (HKP.out W0 hC).2.2.2.2.2.2.2.2.2.2.2
  have HK1 : Hid (∀ Y, Bel W0 Y → Calls Try.prog 14 #[.agg #[.int .i64 P.kind, .slice A n c, .slice B m d, .slice C k e, .slice D l f, .int .i64 P.next, .int .u64 P.epoch, .int .i64 P.root, .int .i64 P.depth, .int .i64 P.count, .int .i64 P.high]] Y fun e w' => e = .returned (.int .i64 q) ∧ Bel Y w') := hid_ (fun Y hY => by rw [← HQ.out]; exact check_any P A B C D n c m d k e l f Y (HP.out.bel hY) HW.out (Nat.le_trans HT.out.1 (by omega)) (Nat.le_trans HT.out.2.1 (by omega)) (Nat.le_trans HT.out.2.2.1 (by omega)) (Nat.le_trans HT.out.2.2.2 (by omega)))
  have HK2 : Hid (∀ Y, Bel W0 Y → Calls Try.prog 15 #[.agg #[.int .i64 P.kind, .slice A n c, .slice B m d, .slice C k e, .slice D l f, .int .i64 P.next, .int .u64 P.epoch, .int .i64 P.root, .int .i64 P.depth, .int .i64 P.count, .int .i64 P.high]] Y fun e w' => e = .returned (.int .i64 q) ∧ Bel Y w') := hid_ (fun Y hY => by rw [← HQ.out]; exact chkR_any P A B C D n c m d k e l f Y (HP.out.bel hY) (Nat.le_trans HT.out.2.1 (by omega)) (Nat.le_trans HT.out.2.2.1 (by omega)))
  go_upto_region 6 with (fail)
  go_region_held3 (fun W => W.cell? ⟨g, 0, none⟩ = some (.int .i64 P.kind) ∧ W.cell? ⟨g, 1, none⟩ = some (.slice A n c) ∧ W.cell? ⟨g, 2, none⟩ = some (.slice B m d) ∧ W.cell? ⟨g, 3, none⟩ = some (.slice C k e) ∧ W.cell? ⟨g, 4, none⟩ = some (.slice D l f) ∧ W.cell? ⟨g, 5, none⟩ = some (.int .i64 P.next) ∧ W.cell? ⟨g, 6, none⟩ = some (.int .u64 P.epoch) ∧ W.cell? ⟨g, 7, none⟩ = some (.int .i64 P.root) ∧ W.cell? ⟨g, 8, none⟩ = some (.int .i64 P.depth) ∧ W.cell? ⟨g, 9, none⟩ = some (.int .i64 P.count) ∧ W.cell? ⟨g, 10, none⟩ = some (.int .i64 P.high) ∧ (convert 30 9 (.slice none 0 0)).run Try.prog W = .ok (.string (strOfNums [])) W) ((refine HKP.out _ ?_; repeat first | with_reducible exact hC | with_reducible exact Bel.refl _ | with_reducible apply Bel.drew | with_reducible apply Bel.alloc))
    (first
    | (go_at_call 14; with_reducible refine' Calls.mono (HK1.out _ (hC.trans (by repeat first | with_reducible exact Bel.refl _ | with_reducible apply Bel.drew | with_reducible apply Bel.alloc))) ?_; rintro e wa ⟨rfl, ha⟩; replace hC := (hC.trans (by repeat first | with_reducible exact Bel.refl _ | with_reducible apply Bel.drew | with_reducible apply Bel.alloc)).trans ha; clear ha)
    | (go_at_call 15; with_reducible refine' Calls.mono (HK2.out _ (hC.trans (by repeat first | with_reducible exact Bel.refl _ | with_reducible apply Bel.drew | with_reducible apply Bel.alloc))) ?_; rintro e wa ⟨rfl, ha⟩; replace hC := (hC.trans (by repeat first | with_reducible exact Bel.refl _ | with_reducible apply Bel.drew | with_reducible apply Bel.alloc)).trans ha; clear ha))
  all_goals (
    go_wp2
    go_ret
    exact ⟨rfl, HB.out.trans hC⟩)
theorem walkPageEncodes (w : World) (s : Int) (hs : (Lit.int .i64 s).wf = true) (P : Pg) (A : Option Addr) (n c : Nat) (B : Option Addr) (m d : Nat) (C : Option Addr) (k e : Nat) (D : Option Addr) (l f : Nat) (hP : pageWf w P A n c B m d C k e D l f) :
    Calls Try.prog 4 #[.int .i64 s, pgV P (.slice A n c) (.slice B m d) (.slice C k e) (.slice D l f)] w fun e w' => e = .returned (.bool true) ∧ Bel w w' := by
  clear hs
  by_cases ho : okE s P = true
  · exact encodes_yes w s P A n c B m d C k e D l f hP ho
  · exact encodes_no w s P A n c B m d C k e D l f hP (by simpa using ho)
end Go.Proofs.Ytcfabnkkkpcelaa
