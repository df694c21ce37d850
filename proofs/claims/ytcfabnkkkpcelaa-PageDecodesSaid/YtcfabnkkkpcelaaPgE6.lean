/- page.Encode: the walk. -/
import Derived.Test.YtcfabnkkkpcelaaPgE4
import Derived.Test.YtcfabnkkkpcelaaPg4z
import Derived.Deep.DeepCutAuto
set_option linter.unusedSimpArgs false
set_option linter.unusedVariables false
namespace Go.Proofs.Ytcfabnkkkpcelaa
open Go.RowKit
theorem bxRow {w : World} {g n : Nat} {L : List Int} (h : Bx w g 5 (byteV L)) (hl : L.length = n) (hn : n ≤ 9223372036854775807 := by omega) : Row byteT w (some ⟨g, 0, none⟩) n L := by
  refine ⟨hl, hn, fun _ => ⟨_, rfl, fun j x hj i u hu => ?_⟩⟩
  have hi : i = 0 := by
    have := (List.getElem?_eq_some_iff.1 hu).1
    simp [byteT] at this
    exact this
  subst hi
  simp [byteT] at hu
  subst hu
  rw [show j * byteT.sz + 0 = j by simp [byteT], add0]
  exact h.cell j (by rw [byteV, List.getElem?_map, hj]; rfl)
set_option maxRecDepth 10000 in
set_option maxHeartbeats 8000000 in
theorem encode_yes (s : Int) (P : Pg) (A B C D : Option Addr) (n c m d k e l f : Nat) (w : World) (hP : PgAt w P A n B m C k D l) (hw : PgW P) (hs : n ≤ 4398046511104) (hs2 : m ≤ 17592186044416) (hs3 : k ≤ 17592186044416) (hs4 : l ≤ 17592186044416) (hyes : okE s P = true) :
    Calls Try.prog 12 #[.int .i64 s, pgV P (.slice A n c) (.slice B m d) (.slice C k e) (.slice D l f)] w fun e w' => ∃ g, e = .returned (.tuple #[.slice (some ⟨g, 0, none⟩) 1024 1024, .int .i64 0]) ∧ Row byteT w' (some ⟨g, 0, none⟩) 1024 (encP s P) ∧ w.heap.size ≤ g ∧ Bel w w' := by
  have HN := hid_ hyes
  have HT : Hid (okP P = true) := hid_ (here_iff hyes).1
  clear hyes
  have hchk := fun W hPW => check_any P A B C D n c m d k e l f W hPW hw hs hs2 hs3 hs4
  have HP := hid_ hP
  unfold pgV pgC at hchk
  have HCH := hid_ hchk
  unfold pgV pgC
  clear hchk
  go_enter Try.func12, Try.ntmps12
  go_upto_region 2 with (fail)
  have bx := Bx.new w 28 (pgC P (.slice A n c) (.slice B m d) (.slice C k e) (.slice D l f))
  have HB := hid_ ((Bel.refl w).alloc (.cells (pgC P (.slice A n c) (.slice B m d) (.slice C k e) (.slice D l f)).toArray 28))
  unfold pgC at bx HB
  generalize w.alloc (.cells #[.int .i64 P.kind, .slice A n c, .slice B m d, .slice C k e, .slice D l f, .int .i64 P.next, .int .u64 P.epoch, .int .i64 P.root, .int .i64 P.depth, .int .i64 P.count, .int .i64 P.high] 28) = W0 at bx HB ⊢
  generalize hg : w.heap.size = g at bx ⊢
  have c0 := bx.cell 0 rfl
  have c1 := bx.cell 1 rfl
  have c2 := bx.cell 2 rfl
  have c3 := bx.cell 3 rfl
  have c4 := bx.cell 4 rfl
  have c5 := bx.cell 5 rfl
  have c6 := bx.cell 6 rfl
  have c7 := bx.cell 7 rfl
  have c8 := bx.cell 8 rfl
  have c9 := bx.cell 9 rfl
  have c10 := bx.cell 10 rfl
  have HP1 := hid_ (HP.out.bel HB.out)
  have BX := hid_ bx
  have HG := hid_ hg
  clear bx hP HP hg
  have HC : Hid (chkP P = 0) := hid_ (by rw [chkP, HT.out]; rfl)
  obtain ⟨kb, hkb⟩ : ∃ t, (P.kind == 4) = t := ⟨_, rfl⟩
  rw [hkb]
  have HKB := hid_ hkb
  clear hkb
  go_cut [35] (fun h wx => h = .bool false ∧ Bel W0 wx)
  case first =>
    rcases (here_iff HN.out).2 with ⟨k4, hs⟩ | ⟨k4, hs, hs'⟩
    · have r1 : kb = true := by rw [← HKB.out, k4]; rfl
      subst r1
      rcases (isS_iff s).1 hs with rfl | rfl
      · clear k4 hs
        go_wp2_with (first | (go_at_call 14; refine (HCH.out _ HP1.out).mono ?_; rintro e w1 ⟨rfl, hb1⟩; rw [HC.out]) | (go_at_call 19; refine (place_any _ _).mono ?_; rintro e _ ⟨rfl, rfl⟩; rw [HS.out]))
        go_meet
        exact ⟨rfl, hb1⟩
      · clear k4 hs
        go_wp2_with (first | (go_at_call 14; refine (HCH.out _ HP1.out).mono ?_; rintro e w1 ⟨rfl, hb1⟩; rw [HC.out]) | (go_at_call 19; refine (place_any _ _).mono ?_; rintro e _ ⟨rfl, rfl⟩; rw [HS.out]))
        go_meet
        exact ⟨rfl, hb1⟩
    · have r1 : kb = false := by rw [← HKB.out]; simp [k4]
      subst r1
      have HS : Hid (placeB s = true) := hid_ ((placeB_iff s).2 ⟨hs, hs'⟩)
      clear k4 hs hs'
      go_wp2_with (first | (go_at_call 14; refine (HCH.out _ HP1.out).mono ?_; rintro e w1 ⟨rfl, hb1⟩; rw [HC.out]) | (go_at_call 19; refine (place_any _ _).mono ?_; rintro e _ ⟨rfl, rfl⟩; rw [HS.out]))
      go_meet
      exact ⟨rfl, hb1⟩
  case rest =>
  obtain ⟨rfl, hbU⟩ := hcut
  obtain ⟨U, hU⟩ : ∃ U, wc = U := ⟨_, rfl⟩
  rw [hU] at hbU ⊢
  clear hU
  replace c0 := hbU.cell_ c0
  replace c1 := hbU.cell_ c1
  replace c2 := hbU.cell_ c2
  replace c3 := hbU.cell_ c3
  replace c4 := hbU.cell_ c4
  replace c5 := hbU.cell_ c5
  replace c6 := hbU.cell_ c6
  replace c7 := hbU.cell_ c7
  replace c8 := hbU.cell_ c8
  replace c9 := hbU.cell_ c9
  replace c10 := hbU.cell_ c10
  have HPU := hid_ (HP1.out.bel hbU)
  have HBU := hid_ (HB.out.trans hbU)
  clear hbU
  go_upto_region 4 with (fail)
  go_cut [7] (fun v wx => Own byteT wx U.heap.size v ([P.kind] ++ tw s ++ bodyP P) ∧ Bel U wx)
  case first =>
    have hk := kind_byte HT.out
    have e2 : IntKind.u8.wrap P.kind = P.kind := by rw [IntKind.wrap_u8]; omega
    clear hk
    have b1 : Bel U ((U.alloc (.cells #[.int .u8 P.kind] 5)).alloc (.cells #[.int .i64 s] 3)).drew := (((Bel.refl U).alloc _).alloc _).drew
    have b2 : Bel U ((U.alloc (.cells #[.int .i64 s] 3)).alloc (.cells #[.int .u8 P.kind] 5)).drew := (((Bel.refl U).alloc _).alloc _).drew
    have b3 : Bel U (U.alloc (.cells #[.int .i64 s] 3)).drew := ((Bel.refl U).alloc _).drew
    have o1 : Own byteT ((U.alloc (.cells #[.int .u8 P.kind] 5)).alloc (.cells #[.int .i64 s] 3)).drew U.heap.size (.slice (some ⟨U.heap.size, 0, none⟩) 1 1) [P.kind] := (Own.lit (T := byteT) U U.heap.size [P.kind] (Nat.le_refl _) (by simp)).bel (((Bel.refl _).alloc _).drew)
    have o2 : Own byteT ((U.alloc (.cells #[.int .i64 s] 3)).alloc (.cells #[.int .u8 P.kind] 5)).drew U.heap.size (.slice (some ⟨U.heap.size + 1, 0, none⟩) 1 1) [P.kind] := by
      have := (Own.lit (T := byteT) (U.alloc (.cells #[.int .i64 s] 3)) U.heap.size [P.kind] (by rw [sizeAl]; omega) (by simp)).bel ((Bel.refl _).drew)
      rw [sizeAl] at this
      exact this
    have r1 : Row intT ((U.alloc (.cells #[.int .u8 P.kind] 5)).alloc (.cells #[.int .i64 s] 3)).drew (some ⟨U.heap.size + 1, 0, none⟩) 1 [s] := by
      have := (Row.lit (T := intT) (U.alloc (.cells #[.int .u8 P.kind] 5)) [s] (0, 0) (by simp)).bel ((Bel.refl _).drew)
      rw [sizeAl] at this
      exact this
    have r2 : Row intT ((U.alloc (.cells #[.int .i64 s] 3)).alloc (.cells #[.int .u8 P.kind] 5)).drew (some ⟨U.heap.size, 0, none⟩) 1 [s] := (Row.lit (T := intT) U [s] (0, 0) (by simp)).bel (((Bel.refl _).alloc _).drew)
    have r3 : Row intT (U.alloc (.cells #[.int .i64 s] 3)).drew (some ⟨U.heap.size, 0, none⟩) 1 [s] := (Row.lit (T := intT) U [s] (0, 0) (by simp)).bel ((Bel.refl _).drew)
    have HBX1 := hid_ b1
    have HBX2 := hid_ b2
    have HBX3 := hid_ b3
    have HOK1 := hid_ o1
    have HOK2 := hid_ o2
    have HR1 := hid_ r1
    have HR2 := hid_ r2
    have HR3 := hid_ r3
    have HS1 : Hid (U.heap.size < (((U.alloc (.cells #[.int .u8 P.kind] 5)).alloc (.cells #[.int .i64 s] 3)).drew).heap.size) := hid_ (by simp; omega)
    have HS2 : Hid (U.heap.size + 1 < (((U.alloc (.cells #[.int .i64 s] 3)).alloc (.cells #[.int .u8 P.kind] 5)).drew).heap.size) := hid_ (by simp)
    have HSA : Hid (∀ Y : World, Y.heap.size < (Y.alloc (.cells #[.int .u8 P.kind] 5)).heap.size) := hid_ (fun Y => by simp)
    have HKL : Hid (∀ Y, Bel U Y → Own byteT (Y.alloc (.cells #[.int .u8 P.kind] 5)) U.heap.size (.slice (some ⟨Y.heap.size, 0, none⟩) 1 1) [P.kind]) := hid_ (fun Y hY => Own.lit (T := byteT) Y U.heap.size [P.kind] hY.size_ (by simp))
    have HLE : Hid (1 ≤ 1000000) := hid_ (by omega)
    have HE1 : Hid ([s].flatMap tw = tw s) := hid_ rfl
    have HL9 : Hid ((tw s).length = 2) := hid_ rfl
    have HL1 : Hid (([P.kind].length + 2) * 1 ≤ 140737488355328) := hid_ (by simp)
    have HL2 : Hid ((([P.kind] ++ tw s).length + (bodyP P).length) * 1 ≤ 140737488355328) := hid_ (by have := body_len HT.out; simp [tw_len]; omega)
    have hbody : ∀ Y, Bel U Y → Calls Try.prog 21 #[pgV P (.slice A n c) (.slice B m d) (.slice C k e) (.slice D l f)] Y fun e w' => ∃ v, e = .returned v ∧ Own byteT w' Y.heap.size v (bodyP P) ∧ Bel Y w' := fun Y hY => body_any P A B C D n c m d k e l f Y (HPU.out.bel hY) HT.out
    unfold pgV pgC at hbody
    have HBODY := hid_ hbody
    have HKP : Hid (∀ W, Bel U W → (fun W => Bel U W ∧ W.cell? ⟨g, 0, none⟩ = some (.int .i64 P.kind) ∧ W.cell? ⟨g, 1, none⟩ = some (.slice A n c) ∧ W.cell? ⟨g, 2, none⟩ = some (.slice B m d) ∧ W.cell? ⟨g, 3, none⟩ = some (.slice C k e) ∧ W.cell? ⟨g, 4, none⟩ = some (.slice D l f) ∧ W.cell? ⟨g, 5, none⟩ = some (.int .i64 P.next) ∧ W.cell? ⟨g, 6, none⟩ = some (.int .u64 P.epoch) ∧ W.cell? ⟨g, 7, none⟩ = some (.int .i64 P.root) ∧ W.cell? ⟨g, 8, none⟩ = some (.int .i64 P.depth) ∧ W.cell? ⟨g, 9, none⟩ = some (.int .i64 P.count) ∧ W.cell? ⟨g, 10, none⟩ = some (.int .i64 P.high)) W) := hid_ (fun W hW => ⟨hW, hW.cell_ c0, hW.cell_ c1, hW.cell_ c2, hW.cell_ c3, hW.cell_ c4, hW.cell_ c5, hW.cell_ c6, hW.cell_ c7, hW.cell_ c8, hW.cell_ c9, hW.cell_ c10⟩)
    clear b1 b2 b3 o1 o2 r1 r2 r3 hbody
    go_region_held3 (fun W => Bel U W ∧ W.cell? ⟨g, 0, none⟩ = some (.int .i64 P.kind) ∧ W.cell? ⟨g, 1, none⟩ = some (.slice A n c) ∧ W.cell? ⟨g, 2, none⟩ = some (.slice B m d) ∧ W.cell? ⟨g, 3, none⟩ = some (.slice C k e) ∧ W.cell? ⟨g, 4, none⟩ = some (.slice D l f) ∧ W.cell? ⟨g, 5, none⟩ = some (.int .i64 P.next) ∧ W.cell? ⟨g, 6, none⟩ = some (.int .u64 P.epoch) ∧ W.cell? ⟨g, 7, none⟩ = some (.int .i64 P.root) ∧ W.cell? ⟨g, 8, none⟩ = some (.int .i64 P.depth) ∧ W.cell? ⟨g, 9, none⟩ = some (.int .i64 P.count) ∧ W.cell? ⟨g, 10, none⟩ = some (.int .i64 P.high)) ((refine HKP.out _ ?_; (repeat first | with_reducible exact Bel.refl _ | with_reducible exact hb2 | with_reducible exact bz8 | with_reducible exact hb1 | with_reducible exact bz9 | with_reducible apply Bel.drew | with_reducible apply Bel.alloc)))
      (first
      | (go_at_call 20; with_reducible refine' Calls.mono (two_any _ 1 1 [s] _ HR1.out HLE.out) ?_; rintro e w9 ⟨v9, rfl, hO9, b9⟩; have hK9 := HOK1.out.bel b9; have hk9 := Nat.lt_of_lt_of_le HS1.out b9.size_; have bz9 := HBX1.out.trans b9; rw [HE1.out] at hO9; obtain ⟨A9, c9, rfl, hc9, hR9⟩ := hO9.readsN HL9.out)
      | (go_at_call 20; with_reducible refine' Calls.mono (two_any _ 1 1 [s] _ HR2.out HLE.out) ?_; rintro e w9 ⟨v9, rfl, hO9, b9⟩; have hK9 := HOK2.out.bel b9; have hk9 := Nat.lt_of_lt_of_le HS2.out b9.size_; have bz9 := HBX2.out.trans b9; rw [HE1.out] at hO9; obtain ⟨A9, c9, rfl, hc9, hR9⟩ := hO9.readsN HL9.out)
      | (go_at_call 20; with_reducible refine' Calls.mono (two_any _ 1 1 [s] _ HR3.out HLE.out) ?_; rintro e w9 ⟨v9, rfl, hO9, b9⟩; have bz9 := HBX3.out.trans b9; rw [HE1.out] at hO9; obtain ⟨A9, c9, rfl, hc9, hR9⟩ := hO9.readsN HL9.out)
      | (go_at_call 21; with_reducible refine' Calls.mono (HBODY.out w9 bz9) ?_; rintro e w8 ⟨v8, rfl, hO8, b8⟩; obtain ⟨A8, c8, rfl, hc8, hR8⟩ := hO8.reads; have bz8 := bz9.trans b8; have hf8 := farOwn hO8; have hR98 := hR9.bel b8; first | (have hK8 := hK9.bel b8) | skip)
      | (go_at_call 21; with_reducible refine' Calls.mono (HBODY.out (w9.alloc _) (bz9.alloc _)) ?_; rintro e w8 ⟨v8, rfl, hO8, b8⟩; obtain ⟨A8, c8, rfl, hc8, hR8⟩ := hO8.reads; have bz8 := (bz9.alloc _).trans b8; have hf8 := farOwn hO8; have hR98 := (hR9.bel ((Bel.refl _).alloc _)).bel b8; have hK8 := (HKL.out _ bz9).bel b8; have hk9 := HSA.out w9)
      | (go_at_call 21; with_reducible refine' Calls.mono (HBODY.out x1 hb1) ?_; rintro e w8 ⟨v8, rfl, hO8, b8⟩; obtain ⟨A8, c8, rfl, hc8, hR8⟩ := hO8.reads; have bz8 := hb1.trans b8; have hO18 := hO1.bel b8)
      | (refine stepApp (w0 := U) byteS rfl _ _ rfl _ [P.kind] (tw s) A9 2 c9 rfl rfl ?_ ?_ ?_ HL1.out ?_; (first | exact hK8 | exact hK9 | exact HKL.out _ bz9 | exact HKL.out _ bz8); (first | with_reducible exact hR98 | with_reducible exact hR9 | with_reducible exact hR98.bel ((Bel.refl _).alloc _) | with_reducible exact hR9.bel ((Bel.refl _).alloc _)); (first | with_reducible exact bz8 | with_reducible exact bz9 | with_reducible exact bz8.alloc _ | with_reducible exact bz9.alloc _); intro v1 x1 hO1 hb1 hg1 hat1; first | (have hR81 := Row.grown_ hR8 hg1 (hf8 _ (.inl hk9))) | (have hR81 := Row.grown_ (hR8.bel ((Bel.refl _).alloc _)) hg1 (hf8 _ (.inr (Nat.le_refl _)))) | skip)
      | (refine stepApp (w0 := U) byteS rfl _ _ rfl _ ([P.kind] ++ tw s) (bodyP P) A8 _ c8 rfl rfl ?_ ?_ ?_ HL2.out ?_; (first | exact hO18 | exact hO1); (first | with_reducible exact hR81 | with_reducible exact hR8); (first | with_reducible exact bz8 | with_reducible exact hb1); intro v2 x2 hO2 hb2 hg2 hat2))
    all_goals (
      clear HKP HR1 HR2 HR3 HOK1 HOK2 HKL HBODY
      go_wp2_with fail
      go_meet
      exact ⟨hO2, hb2⟩)
  case rest =>
  obtain ⟨hOT, hbT⟩ := hcut
  obtain ⟨V, hV⟩ : ∃ V, wc = V := ⟨_, rfl⟩
  rw [hV] at hOT hbT ⊢
  clear hV
  have htx : [P.kind] ++ tw s ++ bodyP P = textP s P := rfl
  rw [htx] at hOT
  replace c6 := hbT.cell_ c6
  have HBV := hid_ (HBU.out.trans hbT)
  have HTL : Hid ((textP s P).length ≤ 905) := hid_ (by have := body_len HT.out; rw [text_len]; omega)
  clear htx hbT c0 c1 c2 c3 c4 c5 c7 c8 c9 c10 HPU HP1 HCH
  cases kb
  · have HK4 : Hid (¬ P.kind = 4) := hid_ (fun h => by have := HKB.out; rw [h] at this; cases this)
    obtain ⟨m7, hm7⟩ : ∃ q, (textP s P).length = q := ⟨_, rfl⟩
    obtain ⟨A7, c7, rfl, hc7, hR7⟩ := hOT.readsN hm7
    have HM7 := hid_ hm7
    have hmk : (Instr.makeMap 50 none).run Try.prog V = .ok (.map (some V.heap.size)) (V.alloc (.map #[] 0)) := rfl
    obtain ⟨wm1, D1, hr1, hM1, hg1⟩ := (MapH.made V).put (by decide) 0 (.slice A7 m7 c7) (by decide) (by simp)
    have hBm : Bel V wm1 := Below.grown ((Bel.refl V).alloc _) hg1 ((Bel.refl V).alloc (.map #[] 0)).size (fun q e => by injection e with e; omega)
    have hok : PartsW wm1 [⟨0, A7, m7, c7, textP s P⟩] := by
      refine ⟨fun p hp => ?_, fun p hp q hq => ?_⟩
      · rw [List.mem_singleton] at hp
        subst hp
        have := HTL.out
        have h3 := HM7.out
        have h4 := text_len s P
        exact ⟨hR7.bel hBm, hc7, by show 0 < m7; omega, by show 0 + m7 ≤ 1024; omega⟩
      · rw [List.mem_singleton] at hp hq
        subst hp hq
        simp
    have hlaid := laid_any V.heap.size 1 D1 [⟨0, A7, m7, c7, textP s P⟩] wm1 hM1 (by have := hM1.own.lt; exact this) hok
    have HBM := hid_ (HBV.out.trans hBm)
    clear hM1 hg1 hBm hok hR7 hc7 hOT hm7
    go_upto_region 9 with (first | (go_at_call 23; refine hlaid.mono ?_; rintro e w2 ⟨g2, L, rfl, hg2, hx2, hL2, hb2⟩))
    clear hlaid hr1 hmk c6
    have HL2 := hid_ hL2
    have HB2 : Hid (Bel w w2) := hid_ (HBM.out.trans hb2)
    have HG2 : Hid (w.heap.size ≤ g2) := hid_ (Nat.le_trans HBM.out.size_ hg2)
    have hLt := (laid_encN HT.out HM7.out.symm hL2).1
    have hby : Row byteT w2 (some ⟨g2, 0, none⟩) 1016 (L.take 1016) := (bxRow hx2 hL2.len).take_ (by omega)
    rw [hLt] at hby
    have hbyB := row_byts hby (pad_byte (text_byte HT.out))
    have HBY := hid_ (hbyB.below ((Bel.refl w2).drew))
    have HX2 := hid_ hx2
    have HS2 : Hid (Bel w w2.drew) := hid_ HB2.out.drew
    have HLL : Hid (1016 + 8 ≤ L.length) := hid_ (by rw [hL2.len]; omega)
    have H88 : Hid (8 ≤ 1024 - 1016) := hid_ (by omega)
    have H08 : Hid (0 < 8) := hid_ (by omega)
    have hc1 : ∀ W : World, (Instr.slice 30 (.slice (some ⟨g2, 0, none⟩) 1024 1024) (some (.int .i64 1016)) none none).run Try.prog W = .ok (.slice (some ⟨g2, 1016, none⟩) 8 8) W := fun W => cutB g2 1024 1016 (by omega) W
    have hc2 : ∀ W : World, (Instr.slice 30 (.slice (some ⟨g2, 0, none⟩) 1024 1024) none (some (.int .i64 1016)) none).run Try.prog W = .ok (.slice (some ⟨g2, 0, none⟩) 1016 1024) W := fun W => byteS.cutTo .i64 (some ⟨g2, 0, none⟩) 1024 1024 1016 (by omega) W
    clear hL2 hb2 hg2 hx2 hby hbyB hLt
    obtain ⟨q, hq⟩ : ∃ q, uv (more 0#64 (padB 1016 (textP s P))) = q := ⟨_, rfl⟩
    have HQ := hid_ hq
    have hsum : Calls Try.prog 24 #[.slice (some ⟨g2, 0, none⟩) 1016 1024] w2.drew fun e w' => e = .returned (.int .u64 q) ∧ Bel w2.drew w' := by
      rw [← hq]
      exact sum_any (some ⟨g2, 0, none⟩) 1016 1024 _ _ HBY.out
    have HSUM := hid_ hsum
    clear hq hsum
    go_region_held3 (fun W => Bel w W) (first | with_reducible exact HS2.out | with_reducible exact HB2.out | with_reducible exact bz3 | with_reducible exact bz4 | with_reducible exact hb5)
      (first
      | (go_at_call 24; with_reducible refine' Calls.mono HSUM.out ?_; rintro e w3 ⟨rfl, b3⟩; have bz3 := Bel.trans HS2.out b3)
      | (go_at_call 22; with_reducible refine' Calls.mono (eight_any q w3) ?_; rintro e w4 ⟨v4, rfl, hO4, b4⟩; obtain ⟨A4, c4, rfl, hc4, hR4⟩ := hO4.readsN (ei_len q); have bz4 := Bel.trans bz3 b4; obtain ⟨w5, hcp, hx5, hb5, hg5⟩ := run_cp (ty := 3) (at_ := 1016) (dLen := 8) (dCap := 8) (c := c4) ((HX2.out.bel ((Bel.refl w2).drew)).bel (Bel.trans b3 b4)) hR4 (Nat.le_refl 8) HLL.out H08.out bz4 HG2.out))
    all_goals (
      have HF : Hid (putL L 1016 (ei q) = encP s P) := hid_ (by rw [← HQ.out, enc_n HK4.out]; exact (laid_encN HT.out HM7.out.symm HL2.out).2)
      rename_i hHeld
      clear hHeld hc1 hc2 hcp hR4 hO4
      go_wp2
      first | go_ret2 | go_ret
      exact ⟨g2, rfl, by rw [← HF.out]; exact bxRow hx5 (by rw [HF.out, enc_len HT.out]), HG2.out, hb5⟩)
  · have hK4 : P.kind = 4 := by simpa using HKB.out
    have HK4 := hid_ hK4
    have h15 := text4_len s hK4
    obtain ⟨A7, c7, rfl, hc7, hR7⟩ := hOT.readsN h15
    have HR7 := hid_ hR7
    have HC7 := hid_ hc7
    clear hK4 h15 hOT hR7 hc7
    go_upto_region 7 with (first | (go_at_call 22; refine (eight_any P.epoch V).mono ?_; rintro e w1 ⟨v8, rfl, hO8, hb8⟩; obtain ⟨A8, c8, rfl, hc8, hR8⟩ := hO8.readsN (ei_len P.epoch)))
    clear c6
    have hmk : (Instr.makeMap 50 none).run Try.prog w1 = .ok (.map (some w1.heap.size)) (w1.alloc (.map #[] 0)) := rfl
    obtain ⟨wm1, D1, hr1, hM1, hg1⟩ := (MapH.made w1).put (by decide) 0 (.slice A8 8 c8) (by decide) (by simp)
    obtain ⟨wm2, D2, hr2, hM2, hg2⟩ := hM1.put (by decide) 8 (.slice A7 15 c7) (by decide) (by simp)
    obtain ⟨wm3, D3, hr3, hM3, hg3⟩ := hM2.put (by decide) 512 (.slice A7 15 c7) (by decide) (by simp)
    obtain ⟨wm4, D4, hr4, hM4, hg4⟩ := hM3.put (by decide) 1016 (.slice A8 8 c8) (by decide) (by simp)
    have hBm1 : Bel w1 wm1 := Below.grown ((Bel.refl w1).alloc _) hg1 ((Bel.refl w1).alloc (.map #[] 0)).size (fun q e => by injection e with e; omega)
    have hBm2 : Bel w1 wm2 := Below.grown hBm1 hg2 hBm1.size (fun q e => by injection e with e; omega)
    have hBm3 : Bel w1 wm3 := Below.grown hBm2 hg3 hBm2.size (fun q e => by injection e with e; omega)
    have hBm4 : Bel w1 wm4 := Below.grown hBm3 hg4 hBm3.size (fun q e => by injection e with e; omega)
    have hok := parts4_ok (s := s) (P := P) (hR8.bel hBm4) (HR7.out.bel (hb8.trans hBm4)) hc8 HC7.out
    have hlaid := laid_any w1.heap.size _ D4 (parts4 A8 c8 A7 c7 s P) wm4 hM4 (by have := hM4.own.lt; exact this) hok
    have HBM := hid_ (HBV.out.trans (hb8.trans hBm4))
    clear hM1 hM2 hM3 hM4 hg1 hg2 hg3 hg4 hBm1 hBm2 hBm3 hBm4 hok hR8 hO8 hc8 hb8
    go_wp2_with (first | (go_at_call 23; refine hlaid.mono ?_; rintro e w2 ⟨g2, L, rfl, hgl, hx2, hL2, hb2⟩))
    first | go_ret2 | go_ret
    have hLE := laid_encS HK4.out hL2
    exact ⟨g2, rfl, by rw [enc_4 HK4.out, ← hLE]; exact bxRow hx2 hL2.len, Nat.le_trans HBM.out.size_ hgl, HBM.out.trans hb2⟩
end Go.Proofs.Ytcfabnkkkpcelaa
