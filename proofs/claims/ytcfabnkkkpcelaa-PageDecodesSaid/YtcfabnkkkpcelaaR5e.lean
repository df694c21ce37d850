/- The document's answer on pages: Encode: the walk. -/
import Derived.Test.YtcfabnkkkpcelaaR5c
import Derived.Test.YtcfabnkkkpcelaaR5d
import Derived.Deep.DeepCutAuto
set_option linter.unusedSimpArgs false
set_option linter.unusedVariables false
namespace Go.Proofs.Ytcfabnkkkpcelaa
open Go.RowKit Go.Lib
theorem pad_two {t : List Int} {a : Nat} (b : Nat) (h : t.length ≤ a) : padB a t ++ List.replicate b 0 = padB (a + b) t := by
  rw [padB, padB, List.append_assoc, List.replicate_append_replicate]
  congr 2
  omega
theorem encS_5 {s : Int} {P : Pg} (h : P.kind = 4) : padB 1016 (padB 512 ([] ++ ei P.epoch ++ padB 496 (textP s P)) ++ padB 496 (textP s P)) ++ ei P.epoch = encS s P := by
  have h15 := text4_len s h
  have l1 : (padB 496 (textP s P)).length = 496 := pad_len (by omega)
  have e1 : padB 512 ([] ++ ei P.epoch ++ padB 496 (textP s P)) = ei P.epoch ++ padB 504 (textP s P) := by
    rw [padB, List.nil_append, List.length_append, l1, ei_len, List.append_assoc, pad_two _ (by omega)]
  have l2 : (ei P.epoch ++ padB 504 (textP s P)).length = 512 := by rw [List.length_append, pad_len (by omega), ei_len]
  rw [e1]
  have e2 : padB 1016 (ei P.epoch ++ padB 504 (textP s P) ++ padB 496 (textP s P)) = ei P.epoch ++ padB 504 (textP s P) ++ padB 504 (textP s P) := by
    rw [padB, List.length_append, l1, l2, List.append_assoc _ (padB 496 _), pad_two _ (by omega)]
  rw [e2, encS, List.append_assoc]
set_option maxRecDepth 10000 in
set_option maxHeartbeats 8000000 in
theorem encode5_no (s : Int) (P : Pg) (A B C D : Option Addr) (n c m d k e l f : Nat) (w : World) (hP : PgAt w P A n B m C k D l) (hw : PgW P) (hm : m ≤ 1000000) (hk : k ≤ 1000000) (hno : okE s P = false) :
    Calls Try.prog 13 #[.int .i64 s, pgV P (.slice A n c) (.slice B m d) (.slice C k e) (.slice D l f)] w fun e w' => e = .returned (.tuple #[.slice none 0 0, .int .i64 50]) ∧ Bel w w' := by
  have HMK := hid_ (And.intro hm hk)
  have HW := hid_ hw
  clear hm hk hw
  obtain ⟨o, ho⟩ : ∃ o, okP P = o := ⟨_, rfl⟩
  obtain ⟨t, ht⟩ : ∃ t, decide (P.kind = 4) = t := ⟨_, rfl⟩
  obtain ⟨a, ha⟩ : ∃ a, decide (s = 0) = a := ⟨_, rfl⟩
  obtain ⟨b, hb⟩ : ∃ b, decide (s = 1) = b := ⟨_, rfl⟩
  have HN : Hid ((o && (if t then a || b else placeB s)) = false) := hid_ (by
    rw [okE, ho, hereB, ha, hb] at hno
    rw [← ht]
    by_cases h : P.kind = 4
    · rw [if_pos h] at hno
      simp only [h, decide_true, if_true]
      exact hno
    · rw [if_neg h] at hno
      simp only [h, decide_false, Bool.false_eq_true, if_false]
      exact hno)
  have HC : Hid (chkP P = if o then 0 else 50) := hid_ (by rw [chkP, ho])
  rw [← beqI] at ht ha hb
  clear hno ho
  have HP := hid_ hP
  unfold pgV pgC
  clear hP
  go_enter Try.func13, Try.ntmps13
  go_upto_region 1 with (fail)
  have bx := Bx.new w 28 (pgC P (.slice A n c) (.slice B m d) (.slice C k e) (.slice D l f))
  have hb := (Bel.refl w).alloc (.cells (pgC P (.slice A n c) (.slice B m d) (.slice C k e) (.slice D l f)).toArray 28)
  unfold pgC at bx hb
  generalize w.alloc _ = W0 at bx hb ⊢
  generalize w.heap.size = g at bx ⊢
  have HB := hid_ hb
  have HP := hid_ (HP.out.bel hb)
  have c0 := bx.cell 0 rfl
  have c1 := bx.cell 1 rfl
  have c2 := bx.cell 2 rfl
  have c3 := bx.cell 3 rfl
  have c4 := bx.cell 4 rfl
  have c5 := bx.cell 5 rfl
  have c6 := bx.cell 6 rfl
  have c7 := bx.cell 7 rfl
  have c8 := bx.cell 8 rfl
  have c9 := bx.cell 9 rfl
  have c10 := bx.cell 10 rfl
  clear bx hb
  obtain ⟨pb, hpb⟩ : ∃ pb, placeB s = pb := ⟨_, rfl⟩
  have HPB := hid_ hpb
  clear hpb
  go_wp2_with fail
  refine (place5_any s _).mono ?_
  rintro e _ ⟨rfl, rfl⟩
  rw [HPB.out]
  cases o
  · cases t
    · clear ha hb
      go_wp2_with fail
      refine (chkR_any P A B C D n c m d k e l f _ HP.out HMK.out.1 HMK.out.2).mono ?_
      rintro e w1 ⟨rfl, hb⟩
      rw [HC.out]
      go_wp2
      (first | go_ret2 | go_ret)
      exact ⟨rfl, HB.out.trans hb⟩
    · cases a
      · cases b
        · go_wp2_with fail
          refine (chkR_any P A B C D n c m d k e l f _ HP.out HMK.out.1 HMK.out.2).mono ?_
          rintro e w1 ⟨rfl, hb⟩
          rw [HC.out]
          go_wp2
          (first | go_ret2 | go_ret)
          exact ⟨rfl, HB.out.trans hb⟩
        · go_wp2_with fail
          refine (chkR_any P A B C D n c m d k e l f _ HP.out HMK.out.1 HMK.out.2).mono ?_
          rintro e w1 ⟨rfl, hb⟩
          rw [HC.out]
          go_wp2
          (first | go_ret2 | go_ret)
          exact ⟨rfl, HB.out.trans hb⟩
      · go_wp2_with fail
        refine (chkR_any P A B C D n c m d k e l f _ HP.out HMK.out.1 HMK.out.2).mono ?_
        rintro e w1 ⟨rfl, hb⟩
        rw [HC.out]
        go_wp2
        (first | go_ret2 | go_ret)
        exact ⟨rfl, HB.out.trans hb⟩
  · cases t
    · clear ha hb
      obtain rfl : pb = false := by rw [← HPB.out]; simpa using HN.out
      go_wp2_with fail
      refine (chkR_any P A B C D n c m d k e l f _ HP.out HMK.out.1 HMK.out.2).mono ?_
      rintro e w1 ⟨rfl, hb⟩
      rw [HC.out]
      go_wp2
      (first | go_ret2 | go_ret)
      exact ⟨rfl, HB.out.trans hb⟩
    · cases a
      · cases b
        · go_wp2_with fail
          refine (chkR_any P A B C D n c m d k e l f _ HP.out HMK.out.1 HMK.out.2).mono ?_
          rintro e w1 ⟨rfl, hb⟩
          rw [HC.out]
          go_wp2
          (first | go_ret2 | go_ret)
          exact ⟨rfl, HB.out.trans hb⟩
        · have h := HN.out
          cases h
      · have h := HN.out
        cases h
set_option maxRecDepth 10000 in
set_option maxHeartbeats 8000000 in
theorem encode5_n (s : Int) (P : Pg) (A B C D : Option Addr) (n c m d k e l f : Nat) (w : World) (hP : PgAt w P A n B m C k D l) (hw : PgW P) (hm : m ≤ 1000000) (hk : k ≤ 1000000) (hyes : okE s P = true) (h4 : ¬ P.kind = 4) :
    Calls Try.prog 13 #[.int .i64 s, pgV P (.slice A n c) (.slice B m d) (.slice C k e) (.slice D l f)] w fun e w' => ∃ A c, e = .returned (.tuple #[.slice A 1024 c, .int .i64 0]) ∧ 1024 ≤ c ∧ Row byteT w' A 1024 (encP s P) ∧ Bel w w' := by
  have HMK := hid_ (And.intro hm hk)
  have HW := hid_ hw
  clear hm hk hw
  have HT : Hid (okP P = true) := hid_ (here_iff hyes).1
  have HC : Hid (chkP P = 0) := hid_ (by rw [chkP, HT.out]; rfl)
  have hhere : placeB s = true := by
    rcases (here_iff hyes).2 with h | h
    · exact absurd h.1 h4
    · exact (placeB_iff s).2 h.2
  have HS : Hid (0 ≤ s ∧ s < 65536) := hid_ (by have := (placeB_iff s).1 hhere; omega)
  have HK := hid_ h4
  have r4 : (P.kind == 4) = false := by rw [beqI]; exact decide_eq_false h4
  have r5 : (P.kind != 4) = true := by rw [bne, r4]; rfl
  have HHR := hid_ hhere
  clear h4 hhere
  clear hyes
  have HP := hid_ hP
  unfold pgV pgC
  clear hP
  go_enter Try.func13, Try.ntmps13
  go_upto_region 1 with (fail)
  have bx := Bx.new w 28 (pgC P (.slice A n c) (.slice B m d) (.slice C k e) (.slice D l f))
  have hb := (Bel.refl w).alloc (.cells (pgC P (.slice A n c) (.slice B m d) (.slice C k e) (.slice D l f)).toArray 28)
  unfold pgC at bx hb
  generalize w.alloc _ = W0 at bx hb ⊢
  generalize w.heap.size = g at bx ⊢
  have HB := hid_ hb
  have HP := hid_ (HP.out.bel hb)
  have c0 := bx.cell 0 rfl
  have c1 := bx.cell 1 rfl
  have c2 := bx.cell 2 rfl
  have c3 := bx.cell 3 rfl
  have c4 := bx.cell 4 rfl
  have c5 := bx.cell 5 rfl
  have c6 := bx.cell 6 rfl
  have c7 := bx.cell 7 rfl
  have c8 := bx.cell 8 rfl
  have c9 := bx.cell 9 rfl
  have c10 := bx.cell 10 rfl
  clear bx hb
  obtain ⟨pb, hpb⟩ : ∃ pb, placeB s = pb := ⟨_, rfl⟩
  have HPB := hid_ hpb
  clear hpb
  go_wp2_with fail
  refine (place5_any s _).mono ?_
  rintro e _ ⟨rfl, rfl⟩
  rw [HPB.out]
  obtain rfl : pb = true := by rw [← HPB.out]; exact HHR.out
  go_wp2_with fail
  refine (chkR_any P A B C D n c m d k e l f _ HP.out HMK.out.1 HMK.out.2).mono ?_
  rintro e w1 ⟨rfl, hb⟩
  rw [HC.out]
  replace hb := hb
  have hC := hb
  have HCS := hid_ (And.intro c0 (And.intro c1 (And.intro c2 (And.intro c3 (And.intro c4 (And.intro c5 (And.intro c6 (And.intro c7 (And.intro c8 (And.intro c9 c10))))))))))
  replace c0 := hb.cell_ c0
  replace c1 := hb.cell_ c1
  replace c2 := hb.cell_ c2
  replace c3 := hb.cell_ c3
  replace c4 := hb.cell_ c4
  replace c5 := hb.cell_ c5
  replace c6 := hb.cell_ c6
  replace c7 := hb.cell_ c7
  replace c8 := hb.cell_ c8
  replace c9 := hb.cell_ c9
  replace c10 := hb.cell_ c10
  clear hb
  have HLN : Hid ((bodyP P).length ≤ 902) := hid_ (body_len HT.out)
  have hk0 := kind_byte HT.out
  have e2 : IntKind.u8.wrap P.kind = P.kind := by rw [IntKind.wrap_u8]; omega
  clear hk0
  have HLIT : Hid (∀ Y, Bel W0 Y → Own byteT (Y.alloc (.cells #[.int .u8 P.kind] 5)) W0.heap.size (.slice (some ⟨Y.heap.size, 0, none⟩) 1 1) [P.kind]) := hid_ (fun Y hY => Own.lit (T := byteT) Y W0.heap.size [P.kind] hY.size_ (by simp))
  have HLITD : Hid (∀ Y, Bel W0 Y → Own byteT (Y.alloc (.cells #[.int .u8 P.kind] 5)).drew W0.heap.size (.slice (some ⟨Y.heap.size, 0, none⟩) 1 1) [P.kind]) := hid_ (fun Y hY => (HLIT.out Y hY).bel ((Bel.refl _).drew))
  have HLITN : Hid (∀ Y : World, Own byteT (Y.alloc (.cells #[.int .u8 P.kind] 5)) Y.heap.size (.slice (some ⟨Y.heap.size, 0, none⟩) 1 1) [P.kind]) := hid_ (fun Y => Own.lit (T := byteT) Y Y.heap.size [P.kind] (Nat.le_refl _) (by simp))
  have HKP : Hid (∀ W, Bel W0 W → (fun W => W.cell? ⟨g, 0, none⟩ = some (.int .i64 P.kind) ∧ W.cell? ⟨g, 1, none⟩ = some (.slice A n c) ∧ W.cell? ⟨g, 2, none⟩ = some (.slice B m d) ∧ W.cell? ⟨g, 3, none⟩ = some (.slice C k e) ∧ W.cell? ⟨g, 4, none⟩ = some (.slice D l f) ∧ W.cell? ⟨g, 5, none⟩ = some (.int .i64 P.next) ∧ W.cell? ⟨g, 6, none⟩ = some (.int .u64 P.epoch) ∧ W.cell? ⟨g, 7, none⟩ = some (.int .i64 P.root) ∧ W.cell? ⟨g, 8, none⟩ = some (.int .i64 P.depth) ∧ W.cell? ⟨g, 9, none⟩ = some (.int .i64 P.count) ∧ W.cell? ⟨g, 10, none⟩ = some (.int .i64 P.high)) W) := hid_ (fun W hW => ⟨hW.cell_ HCS.out.1, hW.cell_ HCS.out.2.1, hW.cell_ HCS.out.2.2.1, hW.cell_ HCS.out.2.2.2.1, hW.cell_ HCS.out.2.2.2.2.1, hW.cell_ HCS.out.2.2.2.2.2.1, hW.cell_ HCS.out.2.2.2.2.2.2.1, hW.cell_ HCS.out.2.2.2.2.2.2.2.1, hW.cell_ HCS.out.2.2.2.2.2.2.2.2.1, hW.cell_ HCS.out.2.2.2.2.2.2.2.2.2.1, hW.cell_ HCS.out.2.2.2.2.2.2.2.2.2.2⟩)
  have HBODY : Hid (∀ Y, Bel W0 Y → Calls Try.prog 27 #[.agg #[.int .i64 P.kind, .slice A n c, .slice B m d, .slice C k e, .slice D l f, .int .i64 P.next, .int .u64 P.epoch, .int .i64 P.root, .int .i64 P.depth, .int .i64 P.count, .int .i64 P.high]] Y fun e w' => ∃ v, e = .returned v ∧ Own byteT w' Y.heap.size v (bodyP P) ∧ Bel Y w') := hid_ (fun Y hY => body5_any P A B C D n c m d k e l f Y (HP.out.bel hY) HT.out)
  go_upto_region 6 with (fail)
  go_region_held3 (fun W => W.cell? ⟨g, 0, none⟩ = some (.int .i64 P.kind) ∧ W.cell? ⟨g, 1, none⟩ = some (.slice A n c) ∧ W.cell? ⟨g, 2, none⟩ = some (.slice B m d) ∧ W.cell? ⟨g, 3, none⟩ = some (.slice C k e) ∧ W.cell? ⟨g, 4, none⟩ = some (.slice D l f) ∧ W.cell? ⟨g, 5, none⟩ = some (.int .i64 P.next) ∧ W.cell? ⟨g, 6, none⟩ = some (.int .u64 P.epoch) ∧ W.cell? ⟨g, 7, none⟩ = some (.int .i64 P.root) ∧ W.cell? ⟨g, 8, none⟩ = some (.int .i64 P.depth) ∧ W.cell? ⟨g, 9, none⟩ = some (.int .i64 P.count) ∧ W.cell? ⟨g, 10, none⟩ = some (.int .i64 P.high)) ((refine HKP.out _ ?_; repeat first | with_reducible exact hC | with_reducible exact Bel.refl _ | with_reducible apply Bel.drew | with_reducible apply Bel.alloc))
    (first
    | (go_at_call 26; with_reducible refine' Calls.mono (two5_any s HS.out _) ?_; rintro e wa ⟨va, rfl, ha, hba⟩; obtain ⟨Aa, ca, hva, hca, _⟩ := ha.reads; subst hva; (first | (have na := NeRow.later ha (hO.bel (by repeat first | with_reducible exact Bel.refl _ | with_reducible apply Bel.drew | with_reducible apply Bel.alloc)); replace hO := (hO.bel (by repeat first | with_reducible exact Bel.refl _ | with_reducible apply Bel.drew | with_reducible apply Bel.alloc)).bel hba) | (have na := NeRow.later ha (HLIT.out _ hC); have hO := (HLIT.out _ hC).bel hba) | (have na := NeRow.later ha (HLITD.out _ hC); have hO := (HLITD.out _ hC).bel hba) | skip); (first | (replace hb := (hb.bel (by repeat first | with_reducible exact Bel.refl _ | with_reducible apply Bel.drew | with_reducible apply Bel.alloc)).bel hba) | skip); replace hC := (hC.trans (by repeat first | with_reducible exact Bel.refl _ | with_reducible apply Bel.drew | with_reducible apply Bel.alloc)).trans hba)
    | (go_at_call 27; with_reducible refine' Calls.mono (HBODY.out _ (hC.trans (by repeat first | with_reducible exact Bel.refl _ | with_reducible apply Bel.drew | with_reducible apply Bel.alloc))) ?_; rintro e wb ⟨vb, rfl, hb, hbb⟩; obtain ⟨Ab, cb, hvb, hcb, _⟩ := hb.reads; subst hvb; (first | (have nb := NeRow.later hb (hO.bel (by repeat first | with_reducible exact Bel.refl _ | with_reducible apply Bel.drew | with_reducible apply Bel.alloc)); replace hO := (hO.bel (by repeat first | with_reducible exact Bel.refl _ | with_reducible apply Bel.drew | with_reducible apply Bel.alloc)).bel hbb) | (have nb := NeRow.later hb (HLIT.out _ hC); have hO := (HLIT.out _ hC).bel hbb) | (have nb := NeRow.later hb (HLITD.out _ hC); have hO := (HLITD.out _ hC).bel hbb) | skip); (first | (replace ha := (ha.bel (by repeat first | with_reducible exact Bel.refl _ | with_reducible apply Bel.drew | with_reducible apply Bel.alloc)).bel hbb) | skip); replace hC := (hC.trans (by repeat first | with_reducible exact Bel.refl _ | with_reducible apply Bel.drew | with_reducible apply Bel.alloc)).trans hbb)
    | (refine stepApp (w0 := W0) byteS rfl _ _ rfl _ ([P.kind]) (tw s) Aa (tw s).length ca rfl rfl ?_ ((ha.bel (by repeat first | with_reducible exact Bel.refl _ | with_reducible apply Bel.drew | with_reducible apply Bel.alloc)).rowOf) (hC.trans (by repeat first | with_reducible exact Bel.refl _ | with_reducible apply Bel.drew | with_reducible apply Bel.alloc)) (by have := HLN.out; simp only [List.length_append, List.length_cons, List.length_nil, tw_len, Nat.mul_one]; omega) ?_; (first | exact hO.bel (by repeat first | with_reducible exact Bel.refl _ | with_reducible apply Bel.drew | with_reducible apply Bel.alloc) | exact HLIT.out _ hC | exact HLITD.out _ hC); intro vO xO hOn hbO hgO hatO; (first | (have mb := (NeRow.app nb.symm hatO (hb.bel (by repeat first | with_reducible exact Bel.refl _ | with_reducible apply Bel.drew | with_reducible apply Bel.alloc))).symm; replace hb := (hb.bel (by repeat first | with_reducible exact Bel.refl _ | with_reducible apply Bel.drew | with_reducible apply Bel.alloc)).kept_ hgO nb.symm.other; replace nb := mb) | (have nb := (NeRow.later (HLITN.out _) hb).symm; have mb := (NeRow.app nb.symm hatO (hb.bel (by repeat first | with_reducible exact Bel.refl _ | with_reducible apply Bel.drew | with_reducible apply Bel.alloc))).symm; replace hb := (hb.bel (by repeat first | with_reducible exact Bel.refl _ | with_reducible apply Bel.drew | with_reducible apply Bel.alloc)).kept_ hgO nb.symm.other; replace nb := mb) | skip); replace hO := hOn; replace hC := hbO; (first | clear ha na | clear ha | skip))
    | (refine stepApp (w0 := W0) byteS rfl _ _ rfl vO ([P.kind] ++ tw s) (bodyP P) Ab (bodyP P).length cb rfl rfl (hO.bel (by repeat first | with_reducible exact Bel.refl _ | with_reducible apply Bel.drew | with_reducible apply Bel.alloc)) ((hb.bel (by repeat first | with_reducible exact Bel.refl _ | with_reducible apply Bel.drew | with_reducible apply Bel.alloc)).rowOf) (hC.trans (by repeat first | with_reducible exact Bel.refl _ | with_reducible apply Bel.drew | with_reducible apply Bel.alloc)) (by have := HLN.out; simp only [List.length_append, List.length_cons, List.length_nil, tw_len, Nat.mul_one]; omega) ?_; intro vO xO hOn hbO hgO hatO; (first | (have ma := (NeRow.app na.symm hatO (ha.bel (by repeat first | with_reducible exact Bel.refl _ | with_reducible apply Bel.drew | with_reducible apply Bel.alloc))).symm; replace ha := (ha.bel (by repeat first | with_reducible exact Bel.refl _ | with_reducible apply Bel.drew | with_reducible apply Bel.alloc)).kept_ hgO na.symm.other; replace na := ma) | skip); replace hO := hOn; replace hC := hbO; (first | clear hb nb | clear hb | skip)))
  all_goals (
    rename_i hHeld
    clear HKP HLIT HLITD HLITN HBODY hHeld c1 c2 c3 c4 c5 c6 c7 c8 c9 c10 e2
    have hO : Own byteT _ W0.heap.size vO (textP s P) := hO
    have c0 := hC.cell_ HCS.out.1
    obtain ⟨m7, hm7⟩ : ∃ q, (textP s P).length = q := ⟨_, rfl⟩
    have HM7 : Hid (m7 < 1016) := hid_ (by rw [← hm7, text_len]; have := HLN.out; omega)
    obtain ⟨A7, c7, rfl, hc7, hR7⟩ := hO.readsN hm7
    have HPL : Hid ((padB 1016 (textP s P)).length = 1016) := hid_ (pad_len (by have := HM7.out; omega))
    clear hm7
    go_wp2_with fail
    refine (filled5_any A7 m7 c7 1016 (textP s P) _ hR7 HM7.out (by omega)).mono ?_
    rintro e w2 ⟨v2, rfl, hO2, b2⟩
    obtain ⟨A2, c2, rfl, hc2, hR2⟩ := hO2.readsN HPL.out
    go_wp2_with fail
    refine (rsum_any A2 1016 c2 (padB 1016 (textP s P)) _ (row_byts hR2 (pad_byte (text_byte HT.out)))).mono ?_
    rintro e _ ⟨rfl, rfl⟩
    go_wp2_with fail
    refine (number8_any (uv (more 0#64 (padB 1016 (textP s P)))) ⟨uv_nonneg _, uv_lt _⟩ _).mono ?_
    rintro e w4 ⟨v4, rfl, hO4, b4⟩
    obtain ⟨A4, c4, rfl, hc4, hR4⟩ := hO4.readsN (ei_len _)
    have HR4 := hid_ hR4
    clear hR2 hO4 hR4 hR7 hc7 hO
    go_wp2_with (at_builtin; refine wpApp (w0 := W0) byteS rfl _ _ rfl _ (padB 1016 (textP s P)) (ei (uv (more 0#64 (padB 1016 (textP s P))))) A4 8 c4 rfl rfl ((hO2.mono_ hC.size_).bel b4) HR4.out ((hC.trans b2).trans b4) (by rw [HPL.out]; decide) ?_; intro v5 x5 hO5 hb5 hg5 hat5)
    have hl : (encP s P).length = 1024 := enc_len HT.out
    have he : padB 1016 (textP s P) ++ ei (uv (more 0#64 (padB 1016 (textP s P)))) = encP s P := (enc_n HK.out).symm
    rw [he] at hO5
    obtain ⟨A5, c5, rfl, hc5, hR5⟩ := hO5.readsN hl
    have HF := hid_ (And.intro hc5 (And.intro hR5 (HB.out.trans hb5)))
    clear hl he hO5 hc5 hR5 hb5 hg5 hat5 hO2 b2 b4
    (first | go_ret2 | go_ret)
    exact ⟨_, _, rfl, HF.out⟩)
set_option maxRecDepth 10000 in
set_option maxHeartbeats 8000000 in
theorem encode5_s0 (s : Int) (P : Pg) (A B C D : Option Addr) (n c m d k e l f : Nat) (w : World) (hP : PgAt w P A n B m C k D l) (hw : PgW P) (hm : m ≤ 1000000) (hk : k ≤ 1000000) (hyes : okE s P = true) (h4 : P.kind = 4) (hs : s = 0) :
    Calls Try.prog 13 #[.int .i64 s, pgV P (.slice A n c) (.slice B m d) (.slice C k e) (.slice D l f)] w fun e w' => ∃ A c, e = .returned (.tuple #[.slice A 1024 c, .int .i64 0]) ∧ 1024 ≤ c ∧ Row byteT w' A 1024 (encP s P) ∧ Bel w w' := by
  have HMK := hid_ (And.intro hm hk)
  have HW := hid_ hw
  clear hm hk hw
  have HT : Hid (okP P = true) := hid_ (here_iff hyes).1
  have HC : Hid (chkP P = 0) := hid_ (by rw [chkP, HT.out]; rfl)
  have HS : Hid (0 ≤ s ∧ s < 65536) := hid_ (by omega)
  have HK := hid_ h4
  have r4 : (P.kind == 4) = true := by rw [beqI]; exact decide_eq_true h4
  have r5 : (P.kind != 4) = false := by rw [bne, r4]; rfl
  have s0 : (s == 0) = true := by rw [beqI]; exact decide_eq_true (by omega)
  clear h4 hs
  clear hyes
  have HP := hid_ hP
  unfold pgV pgC
  clear hP
  go_enter Try.func13, Try.ntmps13
  go_upto_region 1 with (fail)
  have bx := Bx.new w 28 (pgC P (.slice A n c) (.slice B m d) (.slice C k e) (.slice D l f))
  have hb := (Bel.refl w).alloc (.cells (pgC P (.slice A n c) (.slice B m d) (.slice C k e) (.slice D l f)).toArray 28)
  unfold pgC at bx hb
  generalize w.alloc _ = W0 at bx hb ⊢
  generalize w.heap.size = g at bx ⊢
  have HB := hid_ hb
  have HP := hid_ (HP.out.bel hb)
  have c0 := bx.cell 0 rfl
  have c1 := bx.cell 1 rfl
  have c2 := bx.cell 2 rfl
  have c3 := bx.cell 3 rfl
  have c4 := bx.cell 4 rfl
  have c5 := bx.cell 5 rfl
  have c6 := bx.cell 6 rfl
  have c7 := bx.cell 7 rfl
  have c8 := bx.cell 8 rfl
  have c9 := bx.cell 9 rfl
  have c10 := bx.cell 10 rfl
  clear bx hb
  obtain ⟨pb, hpb⟩ : ∃ pb, placeB s = pb := ⟨_, rfl⟩
  have HPB := hid_ hpb
  clear hpb
  go_wp2_with fail
  refine (place5_any s _).mono ?_
  rintro e _ ⟨rfl, rfl⟩
  rw [HPB.out]
  go_wp2_with fail
  refine (chkR_any P A B C D n c m d k e l f _ HP.out HMK.out.1 HMK.out.2).mono ?_
  rintro e w1 ⟨rfl, hb⟩
  rw [HC.out]
  replace hb := hb
  have hC := hb
  have HCS := hid_ (And.intro c0 (And.intro c1 (And.intro c2 (And.intro c3 (And.intro c4 (And.intro c5 (And.intro c6 (And.intro c7 (And.intro c8 (And.intro c9 c10))))))))))
  replace c0 := hb.cell_ c0
  replace c1 := hb.cell_ c1
  replace c2 := hb.cell_ c2
  replace c3 := hb.cell_ c3
  replace c4 := hb.cell_ c4
  replace c5 := hb.cell_ c5
  replace c6 := hb.cell_ c6
  replace c7 := hb.cell_ c7
  replace c8 := hb.cell_ c8
  replace c9 := hb.cell_ c9
  replace c10 := hb.cell_ c10
  clear hb
  have HLN : Hid ((bodyP P).length ≤ 902) := hid_ (body_len HT.out)
  have hk0 := kind_byte HT.out
  have e2 : IntKind.u8.wrap P.kind = P.kind := by rw [IntKind.wrap_u8]; omega
  clear hk0
  have HLIT : Hid (∀ Y, Bel W0 Y → Own byteT (Y.alloc (.cells #[.int .u8 P.kind] 5)) W0.heap.size (.slice (some ⟨Y.heap.size, 0, none⟩) 1 1) [P.kind]) := hid_ (fun Y hY => Own.lit (T := byteT) Y W0.heap.size [P.kind] hY.size_ (by simp))
  have HLITD : Hid (∀ Y, Bel W0 Y → Own byteT (Y.alloc (.cells #[.int .u8 P.kind] 5)).drew W0.heap.size (.slice (some ⟨Y.heap.size, 0, none⟩) 1 1) [P.kind]) := hid_ (fun Y hY => (HLIT.out Y hY).bel ((Bel.refl _).drew))
  have HLITN : Hid (∀ Y : World, Own byteT (Y.alloc (.cells #[.int .u8 P.kind] 5)) Y.heap.size (.slice (some ⟨Y.heap.size, 0, none⟩) 1 1) [P.kind]) := hid_ (fun Y => Own.lit (T := byteT) Y Y.heap.size [P.kind] (Nat.le_refl _) (by simp))
  have HKP : Hid (∀ W, Bel W0 W → (fun W => W.cell? ⟨g, 0, none⟩ = some (.int .i64 P.kind) ∧ W.cell? ⟨g, 1, none⟩ = some (.slice A n c) ∧ W.cell? ⟨g, 2, none⟩ = some (.slice B m d) ∧ W.cell? ⟨g, 3, none⟩ = some (.slice C k e) ∧ W.cell? ⟨g, 4, none⟩ = some (.slice D l f) ∧ W.cell? ⟨g, 5, none⟩ = some (.int .i64 P.next) ∧ W.cell? ⟨g, 6, none⟩ = some (.int .u64 P.epoch) ∧ W.cell? ⟨g, 7, none⟩ = some (.int .i64 P.root) ∧ W.cell? ⟨g, 8, none⟩ = some (.int .i64 P.depth) ∧ W.cell? ⟨g, 9, none⟩ = some (.int .i64 P.count) ∧ W.cell? ⟨g, 10, none⟩ = some (.int .i64 P.high)) W) := hid_ (fun W hW => ⟨hW.cell_ HCS.out.1, hW.cell_ HCS.out.2.1, hW.cell_ HCS.out.2.2.1, hW.cell_ HCS.out.2.2.2.1, hW.cell_ HCS.out.2.2.2.2.1, hW.cell_ HCS.out.2.2.2.2.2.1, hW.cell_ HCS.out.2.2.2.2.2.2.1, hW.cell_ HCS.out.2.2.2.2.2.2.2.1, hW.cell_ HCS.out.2.2.2.2.2.2.2.2.1, hW.cell_ HCS.out.2.2.2.2.2.2.2.2.2.1, hW.cell_ HCS.out.2.2.2.2.2.2.2.2.2.2⟩)
  have HBODY : Hid (∀ Y, Bel W0 Y → Calls Try.prog 27 #[.agg #[.int .i64 P.kind, .slice A n c, .slice B m d, .slice C k e, .slice D l f, .int .i64 P.next, .int .u64 P.epoch, .int .i64 P.root, .int .i64 P.depth, .int .i64 P.count, .int .i64 P.high]] Y fun e w' => ∃ v, e = .returned v ∧ Own byteT w' Y.heap.size v (bodyP P) ∧ Bel Y w') := hid_ (fun Y hY => body5_any P A B C D n c m d k e l f Y (HP.out.bel hY) HT.out)
  go_upto_region 6 with (fail)
  go_region_held3 (fun W => W.cell? ⟨g, 0, none⟩ = some (.int .i64 P.kind) ∧ W.cell? ⟨g, 1, none⟩ = some (.slice A n c) ∧ W.cell? ⟨g, 2, none⟩ = some (.slice B m d) ∧ W.cell? ⟨g, 3, none⟩ = some (.slice C k e) ∧ W.cell? ⟨g, 4, none⟩ = some (.slice D l f) ∧ W.cell? ⟨g, 5, none⟩ = some (.int .i64 P.next) ∧ W.cell? ⟨g, 6, none⟩ = some (.int .u64 P.epoch) ∧ W.cell? ⟨g, 7, none⟩ = some (.int .i64 P.root) ∧ W.cell? ⟨g, 8, none⟩ = some (.int .i64 P.depth) ∧ W.cell? ⟨g, 9, none⟩ = some (.int .i64 P.count) ∧ W.cell? ⟨g, 10, none⟩ = some (.int .i64 P.high)) ((refine HKP.out _ ?_; repeat first | with_reducible exact hC | with_reducible exact Bel.refl _ | with_reducible apply Bel.drew | with_reducible apply Bel.alloc))
    (first
    | (go_at_call 26; with_reducible refine' Calls.mono (two5_any s HS.out _) ?_; rintro e wa ⟨va, rfl, ha, hba⟩; obtain ⟨Aa, ca, hva, hca, _⟩ := ha.reads; subst hva; (first | (have na := NeRow.later ha (hO.bel (by repeat first | with_reducible exact Bel.refl _ | with_reducible apply Bel.drew | with_reducible apply Bel.alloc)); replace hO := (hO.bel (by repeat first | with_reducible exact Bel.refl _ | with_reducible apply Bel.drew | with_reducible apply Bel.alloc)).bel hba) | (have na := NeRow.later ha (HLIT.out _ hC); have hO := (HLIT.out _ hC).bel hba) | (have na := NeRow.later ha (HLITD.out _ hC); have hO := (HLITD.out _ hC).bel hba) | skip); (first | (replace hb := (hb.bel (by repeat first | with_reducible exact Bel.refl _ | with_reducible apply Bel.drew | with_reducible apply Bel.alloc)).bel hba) | skip); replace hC := (hC.trans (by repeat first | with_reducible exact Bel.refl _ | with_reducible apply Bel.drew | with_reducible apply Bel.alloc)).trans hba)
    | (go_at_call 27; with_reducible refine' Calls.mono (HBODY.out _ (hC.trans (by repeat first | with_reducible exact Bel.refl _ | with_reducible apply Bel.drew | with_reducible apply Bel.alloc))) ?_; rintro e wb ⟨vb, rfl, hb, hbb⟩; obtain ⟨Ab, cb, hvb, hcb, _⟩ := hb.reads; subst hvb; (first | (have nb := NeRow.later hb (hO.bel (by repeat first | with_reducible exact Bel.refl _ | with_reducible apply Bel.drew | with_reducible apply Bel.alloc)); replace hO := (hO.bel (by repeat first | with_reducible exact Bel.refl _ | with_reducible apply Bel.drew | with_reducible apply Bel.alloc)).bel hbb) | (have nb := NeRow.later hb (HLIT.out _ hC); have hO := (HLIT.out _ hC).bel hbb) | (have nb := NeRow.later hb (HLITD.out _ hC); have hO := (HLITD.out _ hC).bel hbb) | skip); (first | (replace ha := (ha.bel (by repeat first | with_reducible exact Bel.refl _ | with_reducible apply Bel.drew | with_reducible apply Bel.alloc)).bel hbb) | skip); replace hC := (hC.trans (by repeat first | with_reducible exact Bel.refl _ | with_reducible apply Bel.drew | with_reducible apply Bel.alloc)).trans hbb)
    | (refine stepApp (w0 := W0) byteS rfl _ _ rfl _ ([P.kind]) (tw s) Aa (tw s).length ca rfl rfl ?_ ((ha.bel (by repeat first | with_reducible exact Bel.refl _ | with_reducible apply Bel.drew | with_reducible apply Bel.alloc)).rowOf) (hC.trans (by repeat first | with_reducible exact Bel.refl _ | with_reducible apply Bel.drew | with_reducible apply Bel.alloc)) (by have := HLN.out; simp only [List.length_append, List.length_cons, List.length_nil, tw_len, Nat.mul_one]; omega) ?_; (first | exact hO.bel (by repeat first | with_reducible exact Bel.refl _ | with_reducible apply Bel.drew | with_reducible apply Bel.alloc) | exact HLIT.out _ hC | exact HLITD.out _ hC); intro vO xO hOn hbO hgO hatO; (first | (have mb := (NeRow.app nb.symm hatO (hb.bel (by repeat first | with_reducible exact Bel.refl _ | with_reducible apply Bel.drew | with_reducible apply Bel.alloc))).symm; replace hb := (hb.bel (by repeat first | with_reducible exact Bel.refl _ | with_reducible apply Bel.drew | with_reducible apply Bel.alloc)).kept_ hgO nb.symm.other; replace nb := mb) | (have nb := (NeRow.later (HLITN.out _) hb).symm; have mb := (NeRow.app nb.symm hatO (hb.bel (by repeat first | with_reducible exact Bel.refl _ | with_reducible apply Bel.drew | with_reducible apply Bel.alloc))).symm; replace hb := (hb.bel (by repeat first | with_reducible exact Bel.refl _ | with_reducible apply Bel.drew | with_reducible apply Bel.alloc)).kept_ hgO nb.symm.other; replace nb := mb) | skip); replace hO := hOn; replace hC := hbO; (first | clear ha na | clear ha | skip))
    | (refine stepApp (w0 := W0) byteS rfl _ _ rfl vO ([P.kind] ++ tw s) (bodyP P) Ab (bodyP P).length cb rfl rfl (hO.bel (by repeat first | with_reducible exact Bel.refl _ | with_reducible apply Bel.drew | with_reducible apply Bel.alloc)) ((hb.bel (by repeat first | with_reducible exact Bel.refl _ | with_reducible apply Bel.drew | with_reducible apply Bel.alloc)).rowOf) (hC.trans (by repeat first | with_reducible exact Bel.refl _ | with_reducible apply Bel.drew | with_reducible apply Bel.alloc)) (by have := HLN.out; simp only [List.length_append, List.length_cons, List.length_nil, tw_len, Nat.mul_one]; omega) ?_; intro vO xO hOn hbO hgO hatO; (first | (have ma := (NeRow.app na.symm hatO (ha.bel (by repeat first | with_reducible exact Bel.refl _ | with_reducible apply Bel.drew | with_reducible apply Bel.alloc))).symm; replace ha := (ha.bel (by repeat first | with_reducible exact Bel.refl _ | with_reducible apply Bel.drew | with_reducible apply Bel.alloc)).kept_ hgO na.symm.other; replace na := ma) | skip); replace hO := hOn; replace hC := hbO; (first | clear hb nb | clear hb | skip)))
  all_goals (
    rename_i hHeld
    clear HKP HLIT HLITD HLITN HBODY hHeld c1 c2 c3 c4 c5 c6 c7 c8 c9 c10 e2
    have hO : Own byteT _ W0.heap.size vO (textP s P) := hO
    have c0 := hC.cell_ HCS.out.1
    have HM7 : Hid ((textP s P).length = 15) := hid_ (text4_len s HK.out)
    obtain ⟨A7, c7, rfl, hc7, hR7⟩ := hO.readsN HM7.out
    have HPL : Hid ((padB 496 (textP s P)).length = 496) := hid_ (pad_len (by have := HM7.out; omega))
    go_wp2_with fail
    refine (filled5_any A7 15 c7 496 (textP s P) _ hR7 (by omega) (by omega)).mono ?_
    rintro e w1 ⟨v1, rfl, hH, b1⟩
    obtain ⟨Ah, ch, rfl, hch, hRh⟩ := hH.readsN HPL.out
    have c6 := (hC.trans b1).cell_ HCS.out.2.2.2.2.2.2.1
    clear hH hR7 hO hc7
    go_wp2_with fail
    refine (number8_any P.epoch HW.out.2.2.1 _).mono ?_
    rintro e w2 ⟨v2, rfl, hE, b2⟩
    obtain ⟨Ae, ce, rfl, hce, hRe⟩ := hE.readsN (ei_len _)
    have HRH := hid_ (hRh.bel b2)
    have HRE := hid_ hRe
    have HB2 := hid_ ((hC.trans b1).trans b2)
    clear hE hRe hRh b1 b2 c6 c0
    go_wp2_with (at_builtin; first
      | (refine wpApp (w0 := w2) byteS rfl _ _ rfl (.slice (some ⟨w2.heap.size, 0, none⟩) 0 0) [] (ei P.epoch) Ae 8 ce rfl rfl (Own.lit w2 w2.heap.size [] (Nat.le_refl _) (by simp)) (HRE.out.bel ((Bel.refl _).alloc _)) ((Bel.refl w2).alloc _) (by simp) ?_; intro v3 x3 hO3 hb3 hg3 hat3)
      | (refine wpApp (w0 := w2) byteS rfl _ _ rfl v3 ([] ++ ei P.epoch) (padB 496 (textP s P)) Ah 496 ch rfl rfl hO3 (HRH.out.bel hb3) hb3 (by simp [ei_len]) ?_; intro v4 x4 hO4 hb4 hg4 hat4))
    have l4 : ([] ++ ei P.epoch ++ padB 496 (textP s P)).length = 504 := by rw [List.nil_append, List.length_append, HPL.out, ei_len]
    obtain ⟨A4, c4, rfl, hc4, hR4⟩ := hO4.readsN l4
    obtain ⟨U, hU⟩ : ∃ U, [] ++ ei P.epoch ++ padB 496 (textP s P) = U := ⟨_, rfl⟩
    rw [hU] at hR4 l4
    have HU := hid_ hU
    have l5 : (padB 512 U).length = 512 := pad_len (by omega)
    have HL5 := hid_ l5
    have HRH := hid_ (HRH.out.bel hb4)
    have HRE := hid_ (HRE.out.bel hb4)
    have HB4 := hid_ (HB2.out.trans hb4)
    clear hO3 hb3 hg3 hat3 hO4 hb4 hg4 hat4 hU l4 l5
    refine (filled5_any A4 504 c4 512 U _ hR4 (by omega) (by omega)).mono ?_
    rintro e w5 ⟨v5, rfl, hO5, b5⟩
    have HRH := hid_ (HRH.out.bel b5)
    have HRE5 := hid_ (HRE.out.bel b5)
    have HO5 := hid_ hO5
    have HB5 := hid_ b5
    clear hR4 hO5 b5
    go_wp2_with (at_builtin; refine wpApp (w0 := x4) byteS rfl _ _ rfl v5 (padB 512 U) (padB 496 (textP s P)) Ah 496 ch rfl rfl HO5.out HRH.out HB5.out (by rw [HL5.out]; decide) ?_; intro v6 x6 hO6 hb6 hg6 hat6)
    have l6 : (padB 512 U ++ padB 496 (textP s P)).length = 1008 := by rw [List.length_append, HL5.out, HPL.out]
    obtain ⟨A6, c6, rfl, hc6, hR6⟩ := hO6.readsN l6
    obtain ⟨V, hV⟩ : ∃ V, padB 512 U ++ padB 496 (textP s P) = V := ⟨_, rfl⟩
    rw [hV] at hR6 l6
    have HV := hid_ hV
    have HL7 := hid_ (show (padB 1016 V).length = 1016 from pad_len (by omega))
    have HRE6 := hid_ (HRE.out.bel hb6)
    have HB6 := hid_ (HB4.out.trans hb6)
    clear hO6 hb6 hg6 hat6 hV l6
    refine (filled5_any A6 1008 c6 1016 V _ hR6 (by omega) (by omega)).mono ?_
    rintro e w7 ⟨v7, rfl, hO7, b7⟩
    have HRE7 := hid_ (HRE6.out.bel b7)
    have HO7 := hid_ hO7
    have HB7 := hid_ b7
    clear hR6 hO7 b7
    go_wp2_with (at_builtin; refine wpApp (w0 := x6) byteS rfl _ _ rfl v7 (padB 1016 V) (ei P.epoch) Ae 8 ce rfl rfl HO7.out HRE7.out HB7.out (by rw [HL7.out]; decide) ?_; intro v8 x8 hO8 hb8 hg8 hat8)
    have he : padB 1016 V ++ ei P.epoch = encP s P := by rw [← HV.out, ← HU.out, enc_4 HK.out]; exact encS_5 HK.out
    rw [he] at hO8
    obtain ⟨A8, c8, rfl, hc8, hR8⟩ := hO8.readsN (enc_len HT.out)
    have HF := hid_ (And.intro hc8 (And.intro hR8 (HB.out.trans (HB6.out.trans hb8))))
    clear he hO8 hc8 hR8 hb8 hg8 hat8
    (first | go_ret2 | go_ret)
    exact ⟨_, _, rfl, HF.out⟩)
set_option maxRecDepth 10000 in
set_option maxHeartbeats 8000000 in
theorem encode5_s1 (s : Int) (P : Pg) (A B C D : Option Addr) (n c m d k e l f : Nat) (w : World) (hP : PgAt w P A n B m C k D l) (hw : PgW P) (hm : m ≤ 1000000) (hk : k ≤ 1000000) (hyes : okE s P = true) (h4 : P.kind = 4) (hs : s = 1) :
    Calls Try.prog 13 #[.int .i64 s, pgV P (.slice A n c) (.slice B m d) (.slice C k e) (.slice D l f)] w fun e w' => ∃ A c, e = .returned (.tuple #[.slice A 1024 c, .int .i64 0]) ∧ 1024 ≤ c ∧ Row byteT w' A 1024 (encP s P) ∧ Bel w w' := by
  have HMK := hid_ (And.intro hm hk)
  have HW := hid_ hw
  clear hm hk hw
  have HT : Hid (okP P = true) := hid_ (here_iff hyes).1
  have HC : Hid (chkP P = 0) := hid_ (by rw [chkP, HT.out]; rfl)
  have HS : Hid (0 ≤ s ∧ s < 65536) := hid_ (by omega)
  have HK := hid_ h4
  have r4 : (P.kind == 4) = true := by rw [beqI]; exact decide_eq_true h4
  have r5 : (P.kind != 4) = false := by rw [bne, r4]; rfl
  have s0 : (s == 0) = false := by rw [beqI]; exact decide_eq_false (by omega)
  have s1 : (s == 1) = true := by rw [beqI]; exact decide_eq_true (by omega)
  clear h4 hs
  clear hyes
  have HP := hid_ hP
  unfold pgV pgC
  clear hP
  go_enter Try.func13, Try.ntmps13
  go_upto_region 1 with (fail)
  have bx := Bx.new w 28 (pgC P (.slice A n c) (.slice B m d) (.slice C k e) (.slice D l f))
  have hb := (Bel.refl w).alloc (.cells (pgC P (.slice A n c) (.slice B m d) (.slice C k e) (.slice D l f)).toArray 28)
  unfold pgC at bx hb
  generalize w.alloc _ = W0 at bx hb ⊢
  generalize w.heap.size = g at bx ⊢
  have HB := hid_ hb
  have HP := hid_ (HP.out.bel hb)
  have c0 := bx.cell 0 rfl
  have c1 := bx.cell 1 rfl
  have c2 := bx.cell 2 rfl
  have c3 := bx.cell 3 rfl
  have c4 := bx.cell 4 rfl
  have c5 := bx.cell 5 rfl
  have c6 := bx.cell 6 rfl
  have c7 := bx.cell 7 rfl
  have c8 := bx.cell 8 rfl
  have c9 := bx.cell 9 rfl
  have c10 := bx.cell 10 rfl
  clear bx hb
  obtain ⟨pb, hpb⟩ : ∃ pb, placeB s = pb := ⟨_, rfl⟩
  have HPB := hid_ hpb
  clear hpb
  go_wp2_with fail
  refine (place5_any s _).mono ?_
  rintro e _ ⟨rfl, rfl⟩
  rw [HPB.out]
  go_wp2_with fail
  refine (chkR_any P A B C D n c m d k e l f _ HP.out HMK.out.1 HMK.out.2).mono ?_
  rintro e w1 ⟨rfl, hb⟩
  rw [HC.out]
  replace hb := hb
  have hC := hb
  have HCS := hid_ (And.intro c0 (And.intro c1 (And.intro c2 (And.intro c3 (And.intro c4 (And.intro c5 (And.intro c6 (And.intro c7 (And.intro c8 (And.intro c9 c10))))))))))
  replace c0 := hb.cell_ c0
  replace c1 := hb.cell_ c1
  replace c2 := hb.cell_ c2
  replace c3 := hb.cell_ c3
  replace c4 := hb.cell_ c4
  replace c5 := hb.cell_ c5
  replace c6 := hb.cell_ c6
  replace c7 := hb.cell_ c7
  replace c8 := hb.cell_ c8
  replace c9 := hb.cell_ c9
  replace c10 := hb.cell_ c10
  clear hb
  have HLN : Hid ((bodyP P).length ≤ 902) := hid_ (body_len HT.out)
  have hk0 := kind_byte HT.out
  have e2 : IntKind.u8.wrap P.kind = P.kind := by rw [IntKind.wrap_u8]; omega
  clear hk0
  have HLIT : Hid (∀ Y, Bel W0 Y → Own byteT (Y.alloc (.cells #[.int .u8 P.kind] 5)) W0.heap.size (.slice (some ⟨Y.heap.size, 0, none⟩) 1 1) [P.kind]) := hid_ (fun Y hY => Own.lit (T := byteT) Y W0.heap.size [P.kind] hY.size_ (by simp))
  have HLITD : Hid (∀ Y, Bel W0 Y → Own byteT (Y.alloc (.cells #[.int .u8 P.kind] 5)).drew W0.heap.size (.slice (some ⟨Y.heap.size, 0, none⟩) 1 1) [P.kind]) := hid_ (fun Y hY => (HLIT.out Y hY).bel ((Bel.refl _).drew))
  have HLITN : Hid (∀ Y : World, Own byteT (Y.alloc (.cells #[.int .u8 P.kind] 5)) Y.heap.size (.slice (some ⟨Y.heap.size, 0, none⟩) 1 1) [P.kind]) := hid_ (fun Y => Own.lit (T := byteT) Y Y.heap.size [P.kind] (Nat.le_refl _) (by simp))
  have HKP : Hid (∀ W, Bel W0 W → (fun W => W.cell? ⟨g, 0, none⟩ = some (.int .i64 P.kind) ∧ W.cell? ⟨g, 1, none⟩ = some (.slice A n c) ∧ W.cell? ⟨g, 2, none⟩ = some (.slice B m d) ∧ W.cell? ⟨g, 3, none⟩ = some (.slice C k e) ∧ W.cell? ⟨g, 4, none⟩ = some (.slice D l f) ∧ W.cell? ⟨g, 5, none⟩ = some (.int .i64 P.next) ∧ W.cell? ⟨g, 6, none⟩ = some (.int .u64 P.epoch) ∧ W.cell? ⟨g, 7, none⟩ = some (.int .i64 P.root) ∧ W.cell? ⟨g, 8, none⟩ = some (.int .i64 P.depth) ∧ W.cell? ⟨g, 9, none⟩ = some (.int .i64 P.count) ∧ W.cell? ⟨g, 10, none⟩ = some (.int .i64 P.high)) W) := hid_ (fun W hW => ⟨hW.cell_ HCS.out.1, hW.cell_ HCS.out.2.1, hW.cell_ HCS.out.2.2.1, hW.cell_ HCS.out.2.2.2.1, hW.cell_ HCS.out.2.2.2.2.1, hW.cell_ HCS.out.2.2.2.2.2.1, hW.cell_ HCS.out.2.2.2.2.2.2.1, hW.cell_ HCS.out.2.2.2.2.2.2.2.1, hW.cell_ HCS.out.2.2.2.2.2.2.2.2.1, hW.cell_ HCS.out.2.2.2.2.2.2.2.2.2.1, hW.cell_ HCS.out.2.2.2.2.2.2.2.2.2.2⟩)
  have HBODY : Hid (∀ Y, Bel W0 Y → Calls Try.prog 27 #[.agg #[.int .i64 P.kind, .slice A n c, .slice B m d, .slice C k e, .slice D l f, .int .i64 P.next, .int .u64 P.epoch, .int .i64 P.root, .int .i64 P.depth, .int .i64 P.count, .int .i64 P.high]] Y fun e w' => ∃ v, e = .returned v ∧ Own byteT w' Y.heap.size v (bodyP P) ∧ Bel Y w') := hid_ (fun Y hY => body5_any P A B C D n c m d k e l f Y (HP.out.bel hY) HT.out)
  go_upto_region 6 with (fail)
  go_region_held3 (fun W => W.cell? ⟨g, 0, none⟩ = some (.int .i64 P.kind) ∧ W.cell? ⟨g, 1, none⟩ = some (.slice A n c) ∧ W.cell? ⟨g, 2, none⟩ = some (.slice B m d) ∧ W.cell? ⟨g, 3, none⟩ = some (.slice C k e) ∧ W.cell? ⟨g, 4, none⟩ = some (.slice D l f) ∧ W.cell? ⟨g, 5, none⟩ = some (.int .i64 P.next) ∧ W.cell? ⟨g, 6, none⟩ = some (.int .u64 P.epoch) ∧ W.cell? ⟨g, 7, none⟩ = some (.int .i64 P.root) ∧ W.cell? ⟨g, 8, none⟩ = some (.int .i64 P.depth) ∧ W.cell? ⟨g, 9, none⟩ = some (.int .i64 P.count) ∧ W.cell? ⟨g, 10, none⟩ = some (.int .i64 P.high)) ((refine HKP.out _ ?_; repeat first | with_reducible exact hC | with_reducible exact Bel.refl _ | with_reducible apply Bel.drew | with_reducible apply Bel.alloc))
    (first
    | (go_at_call 26; with_reducible refine' Calls.mono (two5_any s HS.out _) ?_; rintro e wa ⟨va, rfl, ha, hba⟩; obtain ⟨Aa, ca, hva, hca, _⟩ := ha.reads; subst hva; (first | (have na := NeRow.later ha (hO.bel (by repeat first | with_reducible exact Bel.refl _ | with_reducible apply Bel.drew | with_reducible apply Bel.alloc)); replace hO := (hO.bel (by repeat first | with_reducible exact Bel.refl _ | with_reducible apply Bel.drew | with_reducible apply Bel.alloc)).bel hba) | (have na := NeRow.later ha (HLIT.out _ hC); have hO := (HLIT.out _ hC).bel hba) | (have na := NeRow.later ha (HLITD.out _ hC); have hO := (HLITD.out _ hC).bel hba) | skip); (first | (replace hb := (hb.bel (by repeat first | with_reducible exact Bel.refl _ | with_reducible apply Bel.drew | with_reducible apply Bel.alloc)).bel hba) | skip); replace hC := (hC.trans (by repeat first | with_reducible exact Bel.refl _ | with_reducible apply Bel.drew | with_reducible apply Bel.alloc)).trans hba)
    | (go_at_call 27; with_reducible refine' Calls.mono (HBODY.out _ (hC.trans (by repeat first | with_reducible exact Bel.refl _ | with_reducible apply Bel.drew | with_reducible apply Bel.alloc))) ?_; rintro e wb ⟨vb, rfl, hb, hbb⟩; obtain ⟨Ab, cb, hvb, hcb, _⟩ := hb.reads; subst hvb; (first | (have nb := NeRow.later hb (hO.bel (by repeat first | with_reducible exact Bel.refl _ | with_reducible apply Bel.drew | with_reducible apply Bel.alloc)); replace hO := (hO.bel (by repeat first | with_reducible exact Bel.refl _ | with_reducible apply Bel.drew | with_reducible apply Bel.alloc)).bel hbb) | (have nb := NeRow.later hb (HLIT.out _ hC); have hO := (HLIT.out _ hC).bel hbb) | (have nb := NeRow.later hb (HLITD.out _ hC); have hO := (HLITD.out _ hC).bel hbb) | skip); (first | (replace ha := (ha.bel (by repeat first | with_reducible exact Bel.refl _ | with_reducible apply Bel.drew | with_reducible apply Bel.alloc)).bel hbb) | skip); replace hC := (hC.trans (by repeat first | with_reducible exact Bel.refl _ | with_reducible apply Bel.drew | with_reducible apply Bel.alloc)).trans hbb)
    | (refine stepApp (w0 := W0) byteS rfl _ _ rfl _ ([P.kind]) (tw s) Aa (tw s).length ca rfl rfl ?_ ((ha.bel (by repeat first | with_reducible exact Bel.refl _ | with_reducible apply Bel.drew | with_reducible apply Bel.alloc)).rowOf) (hC.trans (by repeat first | with_reducible exact Bel.refl _ | with_reducible apply Bel.drew | with_reducible apply Bel.alloc)) (by have := HLN.out; simp only [List.length_append, List.length_cons, List.length_nil, tw_len, Nat.mul_one]; omega) ?_; (first | exact hO.bel (by repeat first | with_reducible exact Bel.refl _ | with_reducible apply Bel.drew | with_reducible apply Bel.alloc) | exact HLIT.out _ hC | exact HLITD.out _ hC); intro vO xO hOn hbO hgO hatO; (first | (have mb := (NeRow.app nb.symm hatO (hb.bel (by repeat first | with_reducible exact Bel.refl _ | with_reducible apply Bel.drew | with_reducible apply Bel.alloc))).symm; replace hb := (hb.bel (by repeat first | with_reducible exact Bel.refl _ | with_reducible apply Bel.drew | with_reducible apply Bel.alloc)).kept_ hgO nb.symm.other; replace nb := mb) | (have nb := (NeRow.later (HLITN.out _) hb).symm; have mb := (NeRow.app nb.symm hatO (hb.bel (by repeat first | with_reducible exact Bel.refl _ | with_reducible apply Bel.drew | with_reducible apply Bel.alloc))).symm; replace hb := (hb.bel (by repeat first | with_reducible exact Bel.refl _ | with_reducible apply Bel.drew | with_reducible apply Bel.alloc)).kept_ hgO nb.symm.other; replace nb := mb) | skip); replace hO := hOn; replace hC := hbO; (first | clear ha na | clear ha | skip))
    | (refine stepApp (w0 := W0) byteS rfl _ _ rfl vO ([P.kind] ++ tw s) (bodyP P) Ab (bodyP P).length cb rfl rfl (hO.bel (by repeat first | with_reducible exact Bel.refl _ | with_reducible apply Bel.drew | with_reducible apply Bel.alloc)) ((hb.bel (by repeat first | with_reducible exact Bel.refl _ | with_reducible apply Bel.drew | with_reducible apply Bel.alloc)).rowOf) (hC.trans (by repeat first | with_reducible exact Bel.refl _ | with_reducible apply Bel.drew | with_reducible apply Bel.alloc)) (by have := HLN.out; simp only [List.length_append, List.length_cons, List.length_nil, tw_len, Nat.mul_one]; omega) ?_; intro vO xO hOn hbO hgO hatO; (first | (have ma := (NeRow.app na.symm hatO (ha.bel (by repeat first | with_reducible exact Bel.refl _ | with_reducible apply Bel.drew | with_reducible apply Bel.alloc))).symm; replace ha := (ha.bel (by repeat first | with_reducible exact Bel.refl _ | with_reducible apply Bel.drew | with_reducible apply Bel.alloc)).kept_ hgO na.symm.other; replace na := ma) | skip); replace hO := hOn; replace hC := hbO; (first | clear hb nb | clear hb | skip)))
  all_goals (
    rename_i hHeld
    clear HKP HLIT HLITD HLITN HBODY hHeld c1 c2 c3 c4 c5 c6 c7 c8 c9 c10 e2
    have hO : Own byteT _ W0.heap.size vO (textP s P) := hO
    have c0 := hC.cell_ HCS.out.1
    have HM7 : Hid ((textP s P).length = 15) := hid_ (text4_len s HK.out)
    obtain ⟨A7, c7, rfl, hc7, hR7⟩ := hO.readsN HM7.out
    have HPL : Hid ((padB 496 (textP s P)).length = 496) := hid_ (pad_len (by have := HM7.out; omega))
    go_wp2_with fail
    refine (filled5_any A7 15 c7 496 (textP s P) _ hR7 (by omega) (by omega)).mono ?_
    rintro e w1 ⟨v1, rfl, hH, b1⟩
    obtain ⟨Ah, ch, rfl, hch, hRh⟩ := hH.readsN HPL.out
    have c6 := (hC.trans b1).cell_ HCS.out.2.2.2.2.2.2.1
    clear hH hR7 hO hc7
    go_wp2_with fail
    refine (number8_any P.epoch HW.out.2.2.1 _).mono ?_
    rintro e w2 ⟨v2, rfl, hE, b2⟩
    obtain ⟨Ae, ce, rfl, hce, hRe⟩ := hE.readsN (ei_len _)
    have HRH := hid_ (hRh.bel b2)
    have HRE := hid_ hRe
    have HB2 := hid_ ((hC.trans b1).trans b2)
    clear hE hRe hRh b1 b2 c6 c0
    go_wp2_with (at_builtin; first
      | (refine wpApp (w0 := w2) byteS rfl _ _ rfl (.slice (some ⟨w2.heap.size, 0, none⟩) 0 0) [] (ei P.epoch) Ae 8 ce rfl rfl (Own.lit w2 w2.heap.size [] (Nat.le_refl _) (by simp)) (HRE.out.bel ((Bel.refl _).alloc _)) ((Bel.refl w2).alloc _) (by simp) ?_; intro v3 x3 hO3 hb3 hg3 hat3)
      | (refine wpApp (w0 := w2) byteS rfl _ _ rfl v3 ([] ++ ei P.epoch) (padB 496 (textP s P)) Ah 496 ch rfl rfl hO3 (HRH.out.bel hb3) hb3 (by simp [ei_len]) ?_; intro v4 x4 hO4 hb4 hg4 hat4))
    have l4 : ([] ++ ei P.epoch ++ padB 496 (textP s P)).length = 504 := by rw [List.nil_append, List.length_append, HPL.out, ei_len]
    obtain ⟨A4, c4, rfl, hc4, hR4⟩ := hO4.readsN l4
    obtain ⟨U, hU⟩ : ∃ U, [] ++ ei P.epoch ++ padB 496 (textP s P) = U := ⟨_, rfl⟩
    rw [hU] at hR4 l4
    have HU := hid_ hU
    have l5 : (padB 512 U).length = 512 := pad_len (by omega)
    have HL5 := hid_ l5
    have HRH := hid_ (HRH.out.bel hb4)
    have HRE := hid_ (HRE.out.bel hb4)
    have HB4 := hid_ (HB2.out.trans hb4)
    clear hO3 hb3 hg3 hat3 hO4 hb4 hg4 hat4 hU l4 l5
    refine (filled5_any A4 504 c4 512 U _ hR4 (by omega) (by omega)).mono ?_
    rintro e w5 ⟨v5, rfl, hO5, b5⟩
    have HRH := hid_ (HRH.out.bel b5)
    have HRE5 := hid_ (HRE.out.bel b5)
    have HO5 := hid_ hO5
    have HB5 := hid_ b5
    clear hR4 hO5 b5
    go_wp2_with (at_builtin; refine wpApp (w0 := x4) byteS rfl _ _ rfl v5 (padB 512 U) (padB 496 (textP s P)) Ah 496 ch rfl rfl HO5.out HRH.out HB5.out (by rw [HL5.out]; decide) ?_; intro v6 x6 hO6 hb6 hg6 hat6)
    have l6 : (padB 512 U ++ padB 496 (textP s P)).length = 1008 := by rw [List.length_append, HL5.out, HPL.out]
    obtain ⟨A6, c6, rfl, hc6, hR6⟩ := hO6.readsN l6
    obtain ⟨V, hV⟩ : ∃ V, padB 512 U ++ padB 496 (textP s P) = V := ⟨_, rfl⟩
    rw [hV] at hR6 l6
    have HV := hid_ hV
    have HL7 := hid_ (show (padB 1016 V).length = 1016 from pad_len (by omega))
    have HRE6 := hid_ (HRE.out.bel hb6)
    have HB6 := hid_ (HB4.out.trans hb6)
    clear hO6 hb6 hg6 hat6 hV l6
    refine (filled5_any A6 1008 c6 1016 V _ hR6 (by omega) (by omega)).mono ?_
    rintro e w7 ⟨v7, rfl, hO7, b7⟩
    have HRE7 := hid_ (HRE6.out.bel b7)
    have HO7 := hid_ hO7
    have HB7 := hid_ b7
    clear hR6 hO7 b7
    go_wp2_with (at_builtin; refine wpApp (w0 := x6) byteS rfl _ _ rfl v7 (padB 1016 V) (ei P.epoch) Ae 8 ce rfl rfl HO7.out HRE7.out HB7.out (by rw [HL7.out]; decide) ?_; intro v8 x8 hO8 hb8 hg8 hat8)
    have he : padB 1016 V ++ ei P.epoch = encP s P := by rw [← HV.out, ← HU.out, enc_4 HK.out]; exact encS_5 HK.out
    rw [he] at hO8
    obtain ⟨A8, c8, rfl, hc8, hR8⟩ := hO8.readsN (enc_len HT.out)
    have HF := hid_ (And.intro hc8 (And.intro hR8 (HB.out.trans (HB6.out.trans hb8))))
    clear he hO8 hc8 hR8 hb8 hg8 hat8
    (first | go_ret2 | go_ret)
    exact ⟨_, _, rfl, HF.out⟩)
theorem encode5_yes (s : Int) (P : Pg) (A B C D : Option Addr) (n c m d k e l f : Nat) (w : World) (hP : PgAt w P A n B m C k D l) (hw : PgW P) (hm : m ≤ 1000000) (hk : k ≤ 1000000) (hyes : okE s P = true) :
    Calls Try.prog 13 #[.int .i64 s, pgV P (.slice A n c) (.slice B m d) (.slice C k e) (.slice D l f)] w fun e w' => ∃ A c, e = .returned (.tuple #[.slice A 1024 c, .int .i64 0]) ∧ 1024 ≤ c ∧ Row byteT w' A 1024 (encP s P) ∧ Bel w w' := by
  by_cases h4 : P.kind = 4
  · by_cases hs : s = 0
    · exact encode5_s0 s P A B C D n c m d k e l f w hP hw hm hk hyes h4 hs
    · refine encode5_s1 s P A B C D n c m d k e l f w hP hw hm hk hyes h4 ?_
      rcases (here_iff hyes).2 with h | h
      · have := h.2
        simp only [isS, Bool.or_eq_true, decide_eq_true_eq] at this
        omega
      · exact absurd h4 h.1
  · exact encode5_n s P A B C D n c m d k e l f w hP hw hm hk hyes h4
end Go.Proofs.Ytcfabnkkkpcelaa
