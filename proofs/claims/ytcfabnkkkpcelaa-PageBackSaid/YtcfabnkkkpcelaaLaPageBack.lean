/- PageBack, walked. -/
import Derived.Test.YtcfabnkkkpcelaaPgL4
import Derived.Test.YtcfabnkkkpcelaaOpPage
set_option linter.unusedSimpArgs false
set_option linter.unusedVariables false
namespace Go.Proofs.Ytcfabnkkkpcelaa
open Go.RowKit Go.Lib
theorem dec_sm {s : Int} {b : List Int} {q : Pg} (hb : ∀ x ∈ b, 0 ≤ x ∧ x < 256) (h : decP s b = some q) : PgSm q := by
  unfold decP at h
  split at h
  · split at h
    · cases h
    · rename_i q' hq
      split at h
      · injection h with h
        subst h
        have hre : ∀ x ∈ reO s b, 0 ≤ x ∧ x < 256 := by
          unfold reO
          split
          · exact fun x hx => hb x (List.mem_of_mem_drop hx)
          · exact hb
        refine rdP_sm ?_ (epO_rng hb) (fun x hx => hre x (List.mem_of_mem_drop hx)) hq
        cases hz : reO s b with
        | nil => simp
        | cons y r =>
          rw [hz] at hre
          exact hre y (List.mem_cons_self ..)
      · cases h
  · cases h
set_option maxRecDepth 10000 in
set_option maxHeartbeats 8000000 in
theorem back_no (w : World) (s : Int) (P : Pg) (A : Option Addr) (n c : Nat) (B : Option Addr) (m d : Nat) (C : Option Addr) (k e : Nat) (D : Option Addr) (l f : Nat) (hP : pageWf w P A n c B m d C k e D l f) (t : Int) (Ab : Option Addr) (nb cb : Nat) (bs : List Int) (hbs : nb ≤ cb ∧ Row byteT w Ab nb bs ∧ ∀ x ∈ bs, 0 ≤ x ∧ x < 256) (hno : okE s P = false) :
    Calls Try.prog 6 #[.int .i64 s, pgV P (.slice A n c) (.slice B m d) (.slice C k e) (.slice D l f), .int .i64 t, .slice Ab nb cb] w fun e w' => e = .returned (.bool true) ∧ Bel w w' := by
  have HO := hid_ hno
  clear hno
  obtain ⟨hnc, hbs, hbb⟩ := hbs
  have HNC := hid_ hnc
  have HBS := hid_ hbs
  have HBB := hid_ hbb
  have hnb := hbs.2.1
  clear hnc hbs hbb
  obtain ⟨_, _, _, _, hP, hw⟩ := hP
  have HP := hid_ hP
  have HW := hid_ hw
  unfold pgV pgC
  clear hP hw
  go_enter Try.func6, Try.ntmps6
  go_upto_region 1 with (fail)
  have bx := Bx.new w 28 (pgC P (.slice A n c) (.slice B m d) (.slice C k e) (.slice D l f))
  have hb := (Bel.refl w).alloc (.cells (pgC P (.slice A n c) (.slice B m d) (.slice C k e) (.slice D l f)).toArray 28)
  unfold pgC at bx hb
  generalize w.alloc _ = W0 at bx hb ⊢
  generalize w.heap.size = g at bx ⊢
  have HB := hid_ hb
  have HBS := hid_ (HBS.out.bel hb)
  have HP := hid_ (HP.out.bel hb)
  have BX := hid_ bx
  clear bx hb
  go_wp2_with fail
  refine (awake_any _).mono ?_
  rintro e0 w1 ⟨rfl, hb⟩
  have HP := hid_ (HP.out.bel hb)
  have BX := hid_ (BX.out.bel hb)
  have HBS := hid_ (HBS.out.bel hb)
  have HB := hid_ (HB.out.trans hb)
  clear hb
  have c0 := BX.out.cell 0 rfl
  have c1 := BX.out.cell 1 rfl
  have c2 := BX.out.cell 2 rfl
  have c3 := BX.out.cell 3 rfl
  have c4 := BX.out.cell 4 rfl
  have c5 := BX.out.cell 5 rfl
  have c6 := BX.out.cell 6 rfl
  have c7 := BX.out.cell 7 rfl
  have c8 := BX.out.cell 8 rfl
  have c9 := BX.out.cell 9 rfl
  have c10 := BX.out.cell 10 rfl
  go_wp2_with fail
  refine (few_any P A B C D n c m d k e l f _ HP.out).mono ?_
  rintro e1 w2 ⟨⟨tf, rfl, ht⟩, hb⟩
  clear c0 c1 c2 c3 c4 c5 c6 c7 c8 c9 c10
  have HP := hid_ (HP.out.bel hb)
  have BX := hid_ (BX.out.bel hb)
  have HBS := hid_ (HBS.out.bel hb)
  have HB := hid_ (HB.out.trans hb)
  clear hb
  cases tf
  · clear ht
    go_wp2
    go_ret
    exact ⟨rfl, HB.out⟩
  have HT := hid_ (ht rfl)
  clear ht
  by_cases g1 : 2000 < nb
  · have g1d : decide (2000 < nb) = true := decide_eq_true g1
    go_wp2
    go_ret
    exact ⟨rfl, HB.out⟩
  have g1d : decide (2000 < nb) = false := decide_eq_false g1
  have c0 := BX.out.cell 0 rfl
  have c1 := BX.out.cell 1 rfl
  have c2 := BX.out.cell 2 rfl
  have c3 := BX.out.cell 3 rfl
  have c4 := BX.out.cell 4 rfl
  have c5 := BX.out.cell 5 rfl
  have c6 := BX.out.cell 6 rfl
  have c7 := BX.out.cell 7 rfl
  have c8 := BX.out.cell 8 rfl
  have c9 := BX.out.cell 9 rfl
  have c10 := BX.out.cell 10 rfl
  go_wp2_with fail
  refine (encode_no s P A B C D n c m d k e l f _ HP.out HW.out (Nat.le_trans HT.out.1 (by omega)) (Nat.le_trans HT.out.2.1 (by omega)) (Nat.le_trans HT.out.2.2.1 (by omega)) (Nat.le_trans HT.out.2.2.2 (by omega)) HO.out).mono ?_
  rintro e3 w3 ⟨rfl, hb⟩
  clear c0 c1 c2 c3 c4 c5 c6 c7 c8 c9 c10
  have HBS := hid_ (HBS.out.bel hb)
  have HB := hid_ (HB.out.trans hb)
  clear hb
  go_wp2_with fail
  refine (decode_any s Ab nb cb bs _ HBS.out HNC.out HBB.out).mono ?_
  rintro e8 w8 hD
  rcases hD with ⟨q, v, hq, rfl, hIn, hb⟩ | ⟨hn, rfl, hb⟩
  case inr =>
    have HBS := hid_ (HBS.out.bel hb)
    have HB := hid_ (HB.out.trans hb)
    clear hb
    unfold zeroC
    go_upto_region 12 with (fail)
    have hbx := Bx.new w8 28 [.int .i64 0, .slice none 0 0, .slice none 0 0, .slice none 0 0, .slice none 0 0, .int .i64 0, .int .u64 0, .int .i64 0, .int .i64 0, .int .i64 0, .int .i64 0]
    have hb := (Bel.refl w8).alloc (.cells [.int .i64 0, .slice none 0 0, .slice none 0 0, .slice none 0 0, .slice none 0 0, .int .i64 0, .int .u64 0, .int .i64 0, .int .i64 0, .int .i64 0, .int .i64 0].toArray 28)
    generalize w8.alloc _ = Wa at hbx hb ⊢
    generalize w8.heap.size = ga at hbx ⊢
    have HBS := hid_ (HBS.out.bel hb)
    have HB := hid_ (HB.out.trans hb)
    clear hb
    have HBXa := hid_ hbx
    clear hbx
    have z0 := HBXa.out.cell 0 rfl
    have z1 := HBXa.out.cell 1 rfl
    have z2 := HBXa.out.cell 2 rfl
    have z3 := HBXa.out.cell 3 rfl
    have z4 := HBXa.out.cell 4 rfl
    have z5 := HBXa.out.cell 5 rfl
    have z6 := HBXa.out.cell 6 rfl
    have z7 := HBXa.out.cell 7 rfl
    have z8 := HBXa.out.cell 8 rfl
    have z9 := HBXa.out.cell 9 rfl
    have z10 := HBXa.out.cell 10 rfl
    go_wp2
    go_ret
    exact ⟨rfl, HB.out⟩
  have HBS := hid_ (HBS.out.bel hb)
  have HB := hid_ (HB.out.trans hb)
  clear hb
  have HSM := hid_ (dec_sm HBB.out hq)
  have HOQ := hid_ (okE_of hq)
  clear hq
  obtain ⟨Q1, x1, y1, Q2, x2, y2, Q3, x3, y3, Q4, x4, y4, rfl, v1, v2, v3, v4, hQ⟩ := hIn
  have hvv : pgV q (.slice Q1 x1 y1) (.slice Q2 x2 y2) (.slice Q3 x3 y3) (.slice Q4 x4 y4) = .agg [.int .i64 q.kind, .slice Q1 x1 y1, .slice Q2 x2 y2, .slice Q3 x3 y3, .slice Q4 x4 y4, .int .i64 q.next, .int .u64 q.epoch, .int .i64 q.root, .int .i64 q.depth, .int .i64 q.count, .int .i64 q.high].toArray := rfl
  rw [hvv]
  clear hvv
  have HQ := hid_ hQ
  clear hQ
  go_upto_region 12 with (fail)
  have hbx := Bx.new w8 28 [.int .i64 q.kind, .slice Q1 x1 y1, .slice Q2 x2 y2, .slice Q3 x3 y3, .slice Q4 x4 y4, .int .i64 q.next, .int .u64 q.epoch, .int .i64 q.root, .int .i64 q.depth, .int .i64 q.count, .int .i64 q.high]
  have hb := (Bel.refl w8).alloc (.cells [.int .i64 q.kind, .slice Q1 x1 y1, .slice Q2 x2 y2, .slice Q3 x3 y3, .slice Q4 x4 y4, .int .i64 q.next, .int .u64 q.epoch, .int .i64 q.root, .int .i64 q.depth, .int .i64 q.count, .int .i64 q.high].toArray 28)
  generalize w8.alloc _ = Wa at hbx hb ⊢
  generalize w8.heap.size = ga at hbx ⊢
  have HBS := hid_ (HBS.out.bel hb)
  have HQ := hid_ (HQ.out.bel hb)
  have HB := hid_ (HB.out.trans hb)
  clear hb
  have HBXa := hid_ hbx
  clear hbx
  have z0 := HBXa.out.cell 0 rfl
  have z1 := HBXa.out.cell 1 rfl
  have z2 := HBXa.out.cell 2 rfl
  have z3 := HBXa.out.cell 3 rfl
  have z4 := HBXa.out.cell 4 rfl
  have z5 := HBXa.out.cell 5 rfl
  have z6 := HBXa.out.cell 6 rfl
  have z7 := HBXa.out.cell 7 rfl
  have z8 := HBXa.out.cell 8 rfl
  have z9 := HBXa.out.cell 9 rfl
  have z10 := HBXa.out.cell 10 rfl
  have b1 := HSM.out.n
  have b2 := HSM.out.m
  have b3 := HSM.out.k
  have b4 := HSM.out.l
  rw [HQ.out.pairs.1] at b1
  rw [HQ.out.keys.1] at b2
  rw [HQ.out.kids.1] at b3
  rw [HQ.out.pages.1] at b4
  have HEQ := hid_ (encode_yes s q Q1 Q2 Q3 Q4 x1 y1 x2 y2 x3 y3 x4 y4 _ HQ.out HSM.out.w b1 b2 b3 b4 HOQ.out.1)
  clear b1 b2 b3 b4
  go_wp2_with fail
  refine HEQ.out.mono ?_
  rintro e9 w9 ⟨gy, rfl, hY, hgy, hb⟩
  rw [HOQ.out.2.1] at hY
  clear z0 z1 z2 z3 z4 z5 z6 z7 z8 z9 z10
  have HBS := hid_ (HBS.out.bel hb)
  have HB := hid_ (HB.out.trans hb)
  clear hb
  have s1 := run_str (c := 1024) hY
  have s2 := run_str (c := cb) HBS.out
  clear hY hgy
  go_wp2
  go_ret
  exact ⟨rfl, HB.out⟩
set_option maxRecDepth 10000 in
set_option maxHeartbeats 8000000 in
theorem back_at (w : World) (s : Int) (P : Pg) (A : Option Addr) (n c : Nat) (B : Option Addr) (m d : Nat) (C : Option Addr) (k e : Nat) (D : Option Addr) (l f : Nat) (hP : pageWf w P A n c B m d C k e D l f) (t : Int) (Ab : Option Addr) (nb cb : Nat) (bs : List Int) (hbs : nb ≤ cb ∧ Row byteT w Ab nb bs ∧ ∀ x ∈ bs, 0 ≤ x ∧ x < 256) (hyes : okE s P = true) (hts : t = s) :
    Calls Try.prog 6 #[.int .i64 s, pgV P (.slice A n c) (.slice B m d) (.slice C k e) (.slice D l f), .int .i64 t, .slice Ab nb cb] w fun e w' => e = .returned (.bool true) ∧ Bel w w' := by
  have HO := hid_ hyes
  have HXS : Hid (decP s (encP s P) = some P) := hid_ (dec_enc hyes hP.2.2.2.2.2.2.2.1)
  have HXT : Hid (decP t (encP s P) = some P) := hid_ (by rw [dec_at hyes hP.2.2.2.2.2.2.2.1, if_pos hts])
  have HTS : Hid ((t == s) = true) := hid_ (by simp [hts])
  have HC : Hid (chkP P = 0) := hid_ (by rw [chkP, (here_iff hyes).1]; rfl)
  clear hyes hts
  obtain ⟨hnc, hbs, hbb⟩ := hbs
  have HNC := hid_ hnc
  have HBS := hid_ hbs
  have HBB := hid_ hbb
  have hnb := hbs.2.1
  clear hnc hbs hbb
  obtain ⟨_, _, _, _, hP, hw⟩ := hP
  have HP := hid_ hP
  have HW := hid_ hw
  unfold pgV pgC
  clear hP hw
  go_enter Try.func6, Try.ntmps6
  go_upto_region 1 with (fail)
  have bx := Bx.new w 28 (pgC P (.slice A n c) (.slice B m d) (.slice C k e) (.slice D l f))
  have hb := (Bel.refl w).alloc (.cells (pgC P (.slice A n c) (.slice B m d) (.slice C k e) (.slice D l f)).toArray 28)
  unfold pgC at bx hb
  generalize w.alloc _ = W0 at bx hb ⊢
  generalize w.heap.size = g at bx ⊢
  have HB := hid_ hb
  have HBS := hid_ (HBS.out.bel hb)
  have HP := hid_ (HP.out.bel hb)
  have BX := hid_ bx
  clear bx hb
  go_wp2_with fail
  refine (awake_any _).mono ?_
  rintro e0 w1 ⟨rfl, hb⟩
  have HP := hid_ (HP.out.bel hb)
  have BX := hid_ (BX.out.bel hb)
  have HBS := hid_ (HBS.out.bel hb)
  have HB := hid_ (HB.out.trans hb)
  clear hb
  have c0 := BX.out.cell 0 rfl
  have c1 := BX.out.cell 1 rfl
  have c2 := BX.out.cell 2 rfl
  have c3 := BX.out.cell 3 rfl
  have c4 := BX.out.cell 4 rfl
  have c5 := BX.out.cell 5 rfl
  have c6 := BX.out.cell 6 rfl
  have c7 := BX.out.cell 7 rfl
  have c8 := BX.out.cell 8 rfl
  have c9 := BX.out.cell 9 rfl
  have c10 := BX.out.cell 10 rfl
  go_wp2_with fail
  refine (few_any P A B C D n c m d k e l f _ HP.out).mono ?_
  rintro e1 w2 ⟨⟨tf, rfl, ht⟩, hb⟩
  clear c0 c1 c2 c3 c4 c5 c6 c7 c8 c9 c10
  have HP := hid_ (HP.out.bel hb)
  have BX := hid_ (BX.out.bel hb)
  have HBS := hid_ (HBS.out.bel hb)
  have HB := hid_ (HB.out.trans hb)
  clear hb
  cases tf
  · clear ht
    go_wp2
    go_ret
    exact ⟨rfl, HB.out⟩
  have HT := hid_ (ht rfl)
  clear ht
  by_cases g1 : 2000 < nb
  · have g1d : decide (2000 < nb) = true := decide_eq_true g1
    go_wp2
    go_ret
    exact ⟨rfl, HB.out⟩
  have g1d : decide (2000 < nb) = false := decide_eq_false g1
  have c0 := BX.out.cell 0 rfl
  have c1 := BX.out.cell 1 rfl
  have c2 := BX.out.cell 2 rfl
  have c3 := BX.out.cell 3 rfl
  have c4 := BX.out.cell 4 rfl
  have c5 := BX.out.cell 5 rfl
  have c6 := BX.out.cell 6 rfl
  have c7 := BX.out.cell 7 rfl
  have c8 := BX.out.cell 8 rfl
  have c9 := BX.out.cell 9 rfl
  have c10 := BX.out.cell 10 rfl
  go_wp2_with fail
  refine (encode_yes s P A B C D n c m d k e l f _ HP.out HW.out (Nat.le_trans HT.out.1 (by omega)) (Nat.le_trans HT.out.2.1 (by omega)) (Nat.le_trans HT.out.2.2.1 (by omega)) (Nat.le_trans HT.out.2.2.2 (by omega)) HO.out).mono ?_
  rintro e3 w3 ⟨g9, rfl, hR, hg9, hb⟩
  clear c0 c1 c2 c3 c4 c5 c6 c7 c8 c9 c10
  have HP := hid_ (HP.out.bel hb)
  have BX := hid_ (BX.out.bel hb)
  have HBS := hid_ (HBS.out.bel hb)
  have HB := hid_ (HB.out.trans hb)
  clear hb
  have HR := hid_ hR
  clear hR hg9
  go_wp2_with fail
  refine (decode_any s (some ⟨g9, 0, none⟩) 1024 1024 (encP s P) _ HR.out (Nat.le_refl _) (enc_byte (here_iff HO.out).1)).mono ?_
  rintro e4 w4 hD
  rcases hD with ⟨q, v, hq, rfl, hIn, hb⟩ | ⟨hn, _⟩
  case inr => rw [HXS.out] at hn; cases hn
  rw [HXS.out] at hq
  injection hq with hq
  subst hq
  have HP := hid_ (HP.out.bel hb)
  have BX := hid_ (BX.out.bel hb)
  have HBS := hid_ (HBS.out.bel hb)
  have HR := hid_ (HR.out.bel hb)
  have HB := hid_ (HB.out.trans hb)
  clear hb
  obtain ⟨Q1, x1, y1, Q2, x2, y2, Q3, x3, y3, Q4, x4, y4, rfl, v1, v2, v3, v4, hQ⟩ := hIn
  have hvv : pgV P (.slice Q1 x1 y1) (.slice Q2 x2 y2) (.slice Q3 x3 y3) (.slice Q4 x4 y4) = .agg [.int .i64 P.kind, .slice Q1 x1 y1, .slice Q2 x2 y2, .slice Q3 x3 y3, .slice Q4 x4 y4, .int .i64 P.next, .int .u64 P.epoch, .int .i64 P.root, .int .i64 P.depth, .int .i64 P.count, .int .i64 P.high].toArray := rfl
  rw [hvv]
  clear hvv
  have HQ := hid_ hQ
  clear hQ
  go_upto_region 7 with (fail)
  have hbx := Bx.new w4 28 [.int .i64 P.kind, .slice Q1 x1 y1, .slice Q2 x2 y2, .slice Q3 x3 y3, .slice Q4 x4 y4, .int .i64 P.next, .int .u64 P.epoch, .int .i64 P.root, .int .i64 P.depth, .int .i64 P.count, .int .i64 P.high]
  have hb := (Bel.refl w4).alloc (.cells [.int .i64 P.kind, .slice Q1 x1 y1, .slice Q2 x2 y2, .slice Q3 x3 y3, .slice Q4 x4 y4, .int .i64 P.next, .int .u64 P.epoch, .int .i64 P.root, .int .i64 P.depth, .int .i64 P.count, .int .i64 P.high].toArray 28)
  generalize w4.alloc _ = Wb at hbx hb ⊢
  generalize w4.heap.size = gb at hbx ⊢
  have HP := hid_ (HP.out.bel hb)
  have BX := hid_ (BX.out.bel hb)
  have HBS := hid_ (HBS.out.bel hb)
  have HR := hid_ (HR.out.bel hb)
  have HQ := hid_ (HQ.out.bel hb)
  have HB := hid_ (HB.out.trans hb)
  clear hb
  have HBXb := hid_ hbx
  clear hbx
  go_wp2_with fail
  refine (decode_any t (some ⟨g9, 0, none⟩) 1024 1024 (encP s P) _ HR.out (Nat.le_refl _) (enc_byte (here_iff HO.out).1)).mono ?_
  rintro e5 w5 hD
  rcases hD with ⟨q, v, hq, rfl, hIn, hb⟩ | ⟨hn, _⟩
  case inr => rw [HXT.out] at hn; cases hn
  rw [HXT.out] at hq
  injection hq with hq
  subst hq
  have HP := hid_ (HP.out.bel hb)
  have BX := hid_ (BX.out.bel hb)
  have HBS := hid_ (HBS.out.bel hb)
  have HQ := hid_ (HQ.out.bel hb)
  have HBXb := hid_ (HBXb.out.bel hb)
  have HB := hid_ (HB.out.trans hb)
  clear hb
  obtain ⟨R1, o1, p1, R2, o2, p2, R3, o3, p3, R4, o4, p4, rfl, _, _, _, _, _⟩ := hIn
  have hvv : pgV P (.slice R1 o1 p1) (.slice R2 o2 p2) (.slice R3 o3 p3) (.slice R4 o4 p4) = .agg [.int .i64 P.kind, .slice R1 o1 p1, .slice R2 o2 p2, .slice R3 o3 p3, .slice R4 o4 p4, .int .i64 P.next, .int .u64 P.epoch, .int .i64 P.root, .int .i64 P.depth, .int .i64 P.count, .int .i64 P.high].toArray := rfl
  rw [hvv]
  clear hvv
  go_upto_region 8 with (fail)
  have hbx := Bx.new w5 28 [.int .i64 P.kind, .slice R1 o1 p1, .slice R2 o2 p2, .slice R3 o3 p3, .slice R4 o4 p4, .int .i64 P.next, .int .u64 P.epoch, .int .i64 P.root, .int .i64 P.depth, .int .i64 P.count, .int .i64 P.high]
  have hb := (Bel.refl w5).alloc (.cells [.int .i64 P.kind, .slice R1 o1 p1, .slice R2 o2 p2, .slice R3 o3 p3, .slice R4 o4 p4, .int .i64 P.next, .int .u64 P.epoch, .int .i64 P.root, .int .i64 P.depth, .int .i64 P.count, .int .i64 P.high].toArray 28)
  generalize w5.alloc _ = Wc at hbx hb ⊢
  generalize w5.heap.size = gc at hbx ⊢
  have HP := hid_ (HP.out.bel hb)
  have BX := hid_ (BX.out.bel hb)
  have HBS := hid_ (HBS.out.bel hb)
  have HQ := hid_ (HQ.out.bel hb)
  have HBXb := hid_ (HBXb.out.bel hb)
  have HB := hid_ (HB.out.trans hb)
  clear hb
  have HBXc := hid_ hbx
  clear hbx
  have c0 := BX.out.cell 0 rfl
  have c1 := BX.out.cell 1 rfl
  have c2 := BX.out.cell 2 rfl
  have c3 := BX.out.cell 3 rfl
  have c4 := BX.out.cell 4 rfl
  have c5 := BX.out.cell 5 rfl
  have c6 := BX.out.cell 6 rfl
  have c7 := BX.out.cell 7 rfl
  have c8 := BX.out.cell 8 rfl
  have c9 := BX.out.cell 9 rfl
  have c10 := BX.out.cell 10 rfl
  have z0 := HBXb.out.cell 0 rfl
  have z1 := HBXb.out.cell 1 rfl
  have z2 := HBXb.out.cell 2 rfl
  have z3 := HBXb.out.cell 3 rfl
  have z4 := HBXb.out.cell 4 rfl
  have z5 := HBXb.out.cell 5 rfl
  have z6 := HBXb.out.cell 6 rfl
  have z7 := HBXb.out.cell 7 rfl
  have z8 := HBXb.out.cell 8 rfl
  have z9 := HBXb.out.cell 9 rfl
  have z10 := HBXb.out.cell 10 rfl
  go_wp2_with fail
  refine (same_any P P A B C D n c m d k e l f Q1 Q2 Q3 Q4 x1 y1 x2 y2 x3 y3 x4 y4 _ HP.out HQ.out).mono ?_
  rintro e6 w6 ⟨rfl, hb⟩
  rw [decide_eq_true (rfl : P = P)]
  clear c0 c1 c2 c3 c4 c5 c6 c7 c8 c9 c10
  clear z0 z1 z2 z3 z4 z5 z6 z7 z8 z9 z10
  have HP := hid_ (HP.out.bel hb)
  have BX := hid_ (BX.out.bel hb)
  have HBS := hid_ (HBS.out.bel hb)
  have HB := hid_ (HB.out.trans hb)
  clear hb
  have c0 := BX.out.cell 0 rfl
  have c1 := BX.out.cell 1 rfl
  have c2 := BX.out.cell 2 rfl
  have c3 := BX.out.cell 3 rfl
  have c4 := BX.out.cell 4 rfl
  have c5 := BX.out.cell 5 rfl
  have c6 := BX.out.cell 6 rfl
  have c7 := BX.out.cell 7 rfl
  have c8 := BX.out.cell 8 rfl
  have c9 := BX.out.cell 9 rfl
  have c10 := BX.out.cell 10 rfl
  have hts := HTS.out
  go_wp2_with fail
  refine (check_any P A B C D n c m d k e l f _ HP.out HW.out (Nat.le_trans HT.out.1 (by omega)) (Nat.le_trans HT.out.2.1 (by omega)) (Nat.le_trans HT.out.2.2.1 (by omega)) (Nat.le_trans HT.out.2.2.2 (by omega))).mono ?_
  rintro e7 w7 ⟨rfl, hb⟩
  rw [HC.out]
  clear c0 c1 c2 c3 c4 c5 c6 c7 c8 c9 c10
  have HBS := hid_ (HBS.out.bel hb)
  have HB := hid_ (HB.out.trans hb)
  clear hb
  go_wp2_with fail
  refine (decode_any s Ab nb cb bs _ HBS.out HNC.out HBB.out).mono ?_
  rintro e8 w8 hD
  rcases hD with ⟨q, v, hq, rfl, hIn, hb⟩ | ⟨hn, rfl, hb⟩
  case inr =>
    have HBS := hid_ (HBS.out.bel hb)
    have HB := hid_ (HB.out.trans hb)
    clear hb
    unfold zeroC
    go_upto_region 12 with (fail)
    have hbx := Bx.new w8 28 [.int .i64 0, .slice none 0 0, .slice none 0 0, .slice none 0 0, .slice none 0 0, .int .i64 0, .int .u64 0, .int .i64 0, .int .i64 0, .int .i64 0, .int .i64 0]
    have hb := (Bel.refl w8).alloc (.cells [.int .i64 0, .slice none 0 0, .slice none 0 0, .slice none 0 0, .slice none 0 0, .int .i64 0, .int .u64 0, .int .i64 0, .int .i64 0, .int .i64 0, .int .i64 0].toArray 28)
    generalize w8.alloc _ = Wa at hbx hb ⊢
    generalize w8.heap.size = ga at hbx ⊢
    have HBS := hid_ (HBS.out.bel hb)
    have HB := hid_ (HB.out.trans hb)
    clear hb
    have HBXa := hid_ hbx
    clear hbx
    have z0 := HBXa.out.cell 0 rfl
    have z1 := HBXa.out.cell 1 rfl
    have z2 := HBXa.out.cell 2 rfl
    have z3 := HBXa.out.cell 3 rfl
    have z4 := HBXa.out.cell 4 rfl
    have z5 := HBXa.out.cell 5 rfl
    have z6 := HBXa.out.cell 6 rfl
    have z7 := HBXa.out.cell 7 rfl
    have z8 := HBXa.out.cell 8 rfl
    have z9 := HBXa.out.cell 9 rfl
    have z10 := HBXa.out.cell 10 rfl
    go_wp2
    go_ret
    exact ⟨rfl, HB.out⟩
  have HBS := hid_ (HBS.out.bel hb)
  have HB := hid_ (HB.out.trans hb)
  clear hb
  have HSM := hid_ (dec_sm HBB.out hq)
  have HOQ := hid_ (okE_of hq)
  clear hq
  obtain ⟨Q1, x1, y1, Q2, x2, y2, Q3, x3, y3, Q4, x4, y4, rfl, v1, v2, v3, v4, hQ⟩ := hIn
  have hvv : pgV q (.slice Q1 x1 y1) (.slice Q2 x2 y2) (.slice Q3 x3 y3) (.slice Q4 x4 y4) = .agg [.int .i64 q.kind, .slice Q1 x1 y1, .slice Q2 x2 y2, .slice Q3 x3 y3, .slice Q4 x4 y4, .int .i64 q.next, .int .u64 q.epoch, .int .i64 q.root, .int .i64 q.depth, .int .i64 q.count, .int .i64 q.high].toArray := rfl
  rw [hvv]
  clear hvv
  have HQ := hid_ hQ
  clear hQ
  go_upto_region 12 with (fail)
  have hbx := Bx.new w8 28 [.int .i64 q.kind, .slice Q1 x1 y1, .slice Q2 x2 y2, .slice Q3 x3 y3, .slice Q4 x4 y4, .int .i64 q.next, .int .u64 q.epoch, .int .i64 q.root, .int .i64 q.depth, .int .i64 q.count, .int .i64 q.high]
  have hb := (Bel.refl w8).alloc (.cells [.int .i64 q.kind, .slice Q1 x1 y1, .slice Q2 x2 y2, .slice Q3 x3 y3, .slice Q4 x4 y4, .int .i64 q.next, .int .u64 q.epoch, .int .i64 q.root, .int .i64 q.depth, .int .i64 q.count, .int .i64 q.high].toArray 28)
  generalize w8.alloc _ = Wa at hbx hb ⊢
  generalize w8.heap.size = ga at hbx ⊢
  have HBS := hid_ (HBS.out.bel hb)
  have HQ := hid_ (HQ.out.bel hb)
  have HB := hid_ (HB.out.trans hb)
  clear hb
  have HBXa := hid_ hbx
  clear hbx
  have z0 := HBXa.out.cell 0 rfl
  have z1 := HBXa.out.cell 1 rfl
  have z2 := HBXa.out.cell 2 rfl
  have z3 := HBXa.out.cell 3 rfl
  have z4 := HBXa.out.cell 4 rfl
  have z5 := HBXa.out.cell 5 rfl
  have z6 := HBXa.out.cell 6 rfl
  have z7 := HBXa.out.cell 7 rfl
  have z8 := HBXa.out.cell 8 rfl
  have z9 := HBXa.out.cell 9 rfl
  have z10 := HBXa.out.cell 10 rfl
  have b1 := HSM.out.n
  have b2 := HSM.out.m
  have b3 := HSM.out.k
  have b4 := HSM.out.l
  rw [HQ.out.pairs.1] at b1
  rw [HQ.out.keys.1] at b2
  rw [HQ.out.kids.1] at b3
  rw [HQ.out.pages.1] at b4
  have HEQ := hid_ (encode_yes s q Q1 Q2 Q3 Q4 x1 y1 x2 y2 x3 y3 x4 y4 _ HQ.out HSM.out.w b1 b2 b3 b4 HOQ.out.1)
  clear b1 b2 b3 b4
  go_wp2_with fail
  refine HEQ.out.mono ?_
  rintro e9 w9 ⟨gy, rfl, hY, hgy, hb⟩
  rw [HOQ.out.2.1] at hY
  clear z0 z1 z2 z3 z4 z5 z6 z7 z8 z9 z10
  have HBS := hid_ (HBS.out.bel hb)
  have HB := hid_ (HB.out.trans hb)
  clear hb
  have s1 := run_str (c := 1024) hY
  have s2 := run_str (c := cb) HBS.out
  clear hY hgy
  go_wp2
  go_ret
  exact ⟨rfl, HB.out⟩
set_option maxRecDepth 10000 in
set_option maxHeartbeats 8000000 in
theorem back_off (w : World) (s : Int) (P : Pg) (A : Option Addr) (n c : Nat) (B : Option Addr) (m d : Nat) (C : Option Addr) (k e : Nat) (D : Option Addr) (l f : Nat) (hP : pageWf w P A n c B m d C k e D l f) (t : Int) (Ab : Option Addr) (nb cb : Nat) (bs : List Int) (hbs : nb ≤ cb ∧ Row byteT w Ab nb bs ∧ ∀ x ∈ bs, 0 ≤ x ∧ x < 256) (hyes : okE s P = true) (hts : ¬ t = s) :
    Calls Try.prog 6 #[.int .i64 s, pgV P (.slice A n c) (.slice B m d) (.slice C k e) (.slice D l f), .int .i64 t, .slice Ab nb cb] w fun e w' => e = .returned (.bool true) ∧ Bel w w' := by
  have HO := hid_ hyes
  have HXS : Hid (decP s (encP s P) = some P) := hid_ (dec_enc hyes hP.2.2.2.2.2.2.2.1)
  have HXT : Hid (decP t (encP s P) = none) := hid_ (by rw [dec_at hyes hP.2.2.2.2.2.2.2.1, if_neg hts])
  have HTS : Hid ((t == s) = false) := hid_ (by simp [hts])
  have HC : Hid (chkP P = 0) := hid_ (by rw [chkP, (here_iff hyes).1]; rfl)
  clear hyes hts
  obtain ⟨hnc, hbs, hbb⟩ := hbs
  have HNC := hid_ hnc
  have HBS := hid_ hbs
  have HBB := hid_ hbb
  have hnb := hbs.2.1
  clear hnc hbs hbb
  obtain ⟨_, _, _, _, hP, hw⟩ := hP
  have HP := hid_ hP
  have HW := hid_ hw
  unfold pgV pgC
  clear hP hw
  go_enter Try.func6, Try.ntmps6
  go_upto_region 1 with (fail)
  have bx := Bx.new w 28 (pgC P (.slice A n c) (.slice B m d) (.slice C k e) (.slice D l f))
  have hb := (Bel.refl w).alloc (.cells (pgC P (.slice A n c) (.slice B m d) (.slice C k e) (.slice D l f)).toArray 28)
  unfold pgC at bx hb
  generalize w.alloc _ = W0 at bx hb ⊢
  generalize w.heap.size = g at bx ⊢
  have HB := hid_ hb
  have HBS := hid_ (HBS.out.bel hb)
  have HP := hid_ (HP.out.bel hb)
  have BX := hid_ bx
  clear bx hb
  go_wp2_with fail
  refine (awake_any _).mono ?_
  rintro e0 w1 ⟨rfl, hb⟩
  have HP := hid_ (HP.out.bel hb)
  have BX := hid_ (BX.out.bel hb)
  have HBS := hid_ (HBS.out.bel hb)
  have HB := hid_ (HB.out.trans hb)
  clear hb
  have c0 := BX.out.cell 0 rfl
  have c1 := BX.out.cell 1 rfl
  have c2 := BX.out.cell 2 rfl
  have c3 := BX.out.cell 3 rfl
  have c4 := BX.out.cell 4 rfl
  have c5 := BX.out.cell 5 rfl
  have c6 := BX.out.cell 6 rfl
  have c7 := BX.out.cell 7 rfl
  have c8 := BX.out.cell 8 rfl
  have c9 := BX.out.cell 9 rfl
  have c10 := BX.out.cell 10 rfl
  go_wp2_with fail
  refine (few_any P A B C D n c m d k e l f _ HP.out).mono ?_
  rintro e1 w2 ⟨⟨tf, rfl, ht⟩, hb⟩
  clear c0 c1 c2 c3 c4 c5 c6 c7 c8 c9 c10
  have HP := hid_ (HP.out.bel hb)
  have BX := hid_ (BX.out.bel hb)
  have HBS := hid_ (HBS.out.bel hb)
  have HB := hid_ (HB.out.trans hb)
  clear hb
  cases tf
  · clear ht
    go_wp2
    go_ret
    exact ⟨rfl, HB.out⟩
  have HT := hid_ (ht rfl)
  clear ht
  by_cases g1 : 2000 < nb
  · have g1d : decide (2000 < nb) = true := decide_eq_true g1
    go_wp2
    go_ret
    exact ⟨rfl, HB.out⟩
  have g1d : decide (2000 < nb) = false := decide_eq_false g1
  have c0 := BX.out.cell 0 rfl
  have c1 := BX.out.cell 1 rfl
  have c2 := BX.out.cell 2 rfl
  have c3 := BX.out.cell 3 rfl
  have c4 := BX.out.cell 4 rfl
  have c5 := BX.out.cell 5 rfl
  have c6 := BX.out.cell 6 rfl
  have c7 := BX.out.cell 7 rfl
  have c8 := BX.out.cell 8 rfl
  have c9 := BX.out.cell 9 rfl
  have c10 := BX.out.cell 10 rfl
  go_wp2_with fail
  refine (encode_yes s P A B C D n c m d k e l f _ HP.out HW.out (Nat.le_trans HT.out.1 (by omega)) (Nat.le_trans HT.out.2.1 (by omega)) (Nat.le_trans HT.out.2.2.1 (by omega)) (Nat.le_trans HT.out.2.2.2 (by omega)) HO.out).mono ?_
  rintro e3 w3 ⟨g9, rfl, hR, hg9, hb⟩
  clear c0 c1 c2 c3 c4 c5 c6 c7 c8 c9 c10
  have HP := hid_ (HP.out.bel hb)
  have BX := hid_ (BX.out.bel hb)
  have HBS := hid_ (HBS.out.bel hb)
  have HB := hid_ (HB.out.trans hb)
  clear hb
  have HR := hid_ hR
  clear hR hg9
  go_wp2_with fail
  refine (decode_any s (some ⟨g9, 0, none⟩) 1024 1024 (encP s P) _ HR.out (Nat.le_refl _) (enc_byte (here_iff HO.out).1)).mono ?_
  rintro e4 w4 hD
  rcases hD with ⟨q, v, hq, rfl, hIn, hb⟩ | ⟨hn, _⟩
  case inr => rw [HXS.out] at hn; cases hn
  rw [HXS.out] at hq
  injection hq with hq
  subst hq
  have HP := hid_ (HP.out.bel hb)
  have BX := hid_ (BX.out.bel hb)
  have HBS := hid_ (HBS.out.bel hb)
  have HR := hid_ (HR.out.bel hb)
  have HB := hid_ (HB.out.trans hb)
  clear hb
  obtain ⟨Q1, x1, y1, Q2, x2, y2, Q3, x3, y3, Q4, x4, y4, rfl, v1, v2, v3, v4, hQ⟩ := hIn
  have hvv : pgV P (.slice Q1 x1 y1) (.slice Q2 x2 y2) (.slice Q3 x3 y3) (.slice Q4 x4 y4) = .agg [.int .i64 P.kind, .slice Q1 x1 y1, .slice Q2 x2 y2, .slice Q3 x3 y3, .slice Q4 x4 y4, .int .i64 P.next, .int .u64 P.epoch, .int .i64 P.root, .int .i64 P.depth, .int .i64 P.count, .int .i64 P.high].toArray := rfl
  rw [hvv]
  clear hvv
  have HQ := hid_ hQ
  clear hQ
  go_upto_region 7 with (fail)
  have hbx := Bx.new w4 28 [.int .i64 P.kind, .slice Q1 x1 y1, .slice Q2 x2 y2, .slice Q3 x3 y3, .slice Q4 x4 y4, .int .i64 P.next, .int .u64 P.epoch, .int .i64 P.root, .int .i64 P.depth, .int .i64 P.count, .int .i64 P.high]
  have hb := (Bel.refl w4).alloc (.cells [.int .i64 P.kind, .slice Q1 x1 y1, .slice Q2 x2 y2, .slice Q3 x3 y3, .slice Q4 x4 y4, .int .i64 P.next, .int .u64 P.epoch, .int .i64 P.root, .int .i64 P.depth, .int .i64 P.count, .int .i64 P.high].toArray 28)
  generalize w4.alloc _ = Wb at hbx hb ⊢
  generalize w4.heap.size = gb at hbx ⊢
  have HP := hid_ (HP.out.bel hb)
  have BX := hid_ (BX.out.bel hb)
  have HBS := hid_ (HBS.out.bel hb)
  have HR := hid_ (HR.out.bel hb)
  have HQ := hid_ (HQ.out.bel hb)
  have HB := hid_ (HB.out.trans hb)
  clear hb
  have HBXb := hid_ hbx
  clear hbx
  go_wp2_with fail
  refine (decode_any t (some ⟨g9, 0, none⟩) 1024 1024 (encP s P) _ HR.out (Nat.le_refl _) (enc_byte (here_iff HO.out).1)).mono ?_
  rintro e5 w5 hD
  rcases hD with ⟨q, v, hq, _⟩ | ⟨_, rfl, hb⟩
  case inl => rw [HXT.out] at hq; cases hq
  have HP := hid_ (HP.out.bel hb)
  have BX := hid_ (BX.out.bel hb)
  have HBS := hid_ (HBS.out.bel hb)
  have HQ := hid_ (HQ.out.bel hb)
  have HBXb := hid_ (HBXb.out.bel hb)
  have HB := hid_ (HB.out.trans hb)
  clear hb
  unfold zeroC
  go_upto_region 8 with (fail)
  have hbx := Bx.new w5 28 [.int .i64 0, .slice none 0 0, .slice none 0 0, .slice none 0 0, .slice none 0 0, .int .i64 0, .int .u64 0, .int .i64 0, .int .i64 0, .int .i64 0, .int .i64 0]
  have hb := (Bel.refl w5).alloc (.cells [.int .i64 0, .slice none 0 0, .slice none 0 0, .slice none 0 0, .slice none 0 0, .int .i64 0, .int .u64 0, .int .i64 0, .int .i64 0, .int .i64 0, .int .i64 0].toArray 28)
  generalize w5.alloc _ = Wc at hbx hb ⊢
  generalize w5.heap.size = gc at hbx ⊢
  have HP := hid_ (HP.out.bel hb)
  have BX := hid_ (BX.out.bel hb)
  have HBS := hid_ (HBS.out.bel hb)
  have HQ := hid_ (HQ.out.bel hb)
  have HBXb := hid_ (HBXb.out.bel hb)
  have HB := hid_ (HB.out.trans hb)
  clear hb
  have HBXc := hid_ hbx
  clear hbx
  have c0 := BX.out.cell 0 rfl
  have c1 := BX.out.cell 1 rfl
  have c2 := BX.out.cell 2 rfl
  have c3 := BX.out.cell 3 rfl
  have c4 := BX.out.cell 4 rfl
  have c5 := BX.out.cell 5 rfl
  have c6 := BX.out.cell 6 rfl
  have c7 := BX.out.cell 7 rfl
  have c8 := BX.out.cell 8 rfl
  have c9 := BX.out.cell 9 rfl
  have c10 := BX.out.cell 10 rfl
  have z0 := HBXb.out.cell 0 rfl
  have z1 := HBXb.out.cell 1 rfl
  have z2 := HBXb.out.cell 2 rfl
  have z3 := HBXb.out.cell 3 rfl
  have z4 := HBXb.out.cell 4 rfl
  have z5 := HBXb.out.cell 5 rfl
  have z6 := HBXb.out.cell 6 rfl
  have z7 := HBXb.out.cell 7 rfl
  have z8 := HBXb.out.cell 8 rfl
  have z9 := HBXb.out.cell 9 rfl
  have z10 := HBXb.out.cell 10 rfl
  go_wp2_with fail
  refine (same_any P P A B C D n c m d k e l f Q1 Q2 Q3 Q4 x1 y1 x2 y2 x3 y3 x4 y4 _ HP.out HQ.out).mono ?_
  rintro e6 w6 ⟨rfl, hb⟩
  rw [decide_eq_true (rfl : P = P)]
  clear c0 c1 c2 c3 c4 c5 c6 c7 c8 c9 c10
  clear z0 z1 z2 z3 z4 z5 z6 z7 z8 z9 z10
  have HP := hid_ (HP.out.bel hb)
  have BX := hid_ (BX.out.bel hb)
  have HBS := hid_ (HBS.out.bel hb)
  have HB := hid_ (HB.out.trans hb)
  clear hb
  have c0 := BX.out.cell 0 rfl
  have c1 := BX.out.cell 1 rfl
  have c2 := BX.out.cell 2 rfl
  have c3 := BX.out.cell 3 rfl
  have c4 := BX.out.cell 4 rfl
  have c5 := BX.out.cell 5 rfl
  have c6 := BX.out.cell 6 rfl
  have c7 := BX.out.cell 7 rfl
  have c8 := BX.out.cell 8 rfl
  have c9 := BX.out.cell 9 rfl
  have c10 := BX.out.cell 10 rfl
  have hts := HTS.out
  go_wp2_with fail
  refine (check_any P A B C D n c m d k e l f _ HP.out HW.out (Nat.le_trans HT.out.1 (by omega)) (Nat.le_trans HT.out.2.1 (by omega)) (Nat.le_trans HT.out.2.2.1 (by omega)) (Nat.le_trans HT.out.2.2.2 (by omega))).mono ?_
  rintro e7 w7 ⟨rfl, hb⟩
  rw [HC.out]
  clear c0 c1 c2 c3 c4 c5 c6 c7 c8 c9 c10
  have HBS := hid_ (HBS.out.bel hb)
  have HB := hid_ (HB.out.trans hb)
  clear hb
  go_wp2_with fail
  refine (decode_any s Ab nb cb bs _ HBS.out HNC.out HBB.out).mono ?_
  rintro e8 w8 hD
  rcases hD with ⟨q, v, hq, rfl, hIn, hb⟩ | ⟨hn, rfl, hb⟩
  case inr =>
    have HBS := hid_ (HBS.out.bel hb)
    have HB := hid_ (HB.out.trans hb)
    clear hb
    unfold zeroC
    go_upto_region 12 with (fail)
    have hbx := Bx.new w8 28 [.int .i64 0, .slice none 0 0, .slice none 0 0, .slice none 0 0, .slice none 0 0, .int .i64 0, .int .u64 0, .int .i64 0, .int .i64 0, .int .i64 0, .int .i64 0]
    have hb := (Bel.refl w8).alloc (.cells [.int .i64 0, .slice none 0 0, .slice none 0 0, .slice none 0 0, .slice none 0 0, .int .i64 0, .int .u64 0, .int .i64 0, .int .i64 0, .int .i64 0, .int .i64 0].toArray 28)
    generalize w8.alloc _ = Wa at hbx hb ⊢
    generalize w8.heap.size = ga at hbx ⊢
    have HBS := hid_ (HBS.out.bel hb)
    have HB := hid_ (HB.out.trans hb)
    clear hb
    have HBXa := hid_ hbx
    clear hbx
    have z0 := HBXa.out.cell 0 rfl
    have z1 := HBXa.out.cell 1 rfl
    have z2 := HBXa.out.cell 2 rfl
    have z3 := HBXa.out.cell 3 rfl
    have z4 := HBXa.out.cell 4 rfl
    have z5 := HBXa.out.cell 5 rfl
    have z6 := HBXa.out.cell 6 rfl
    have z7 := HBXa.out.cell 7 rfl
    have z8 := HBXa.out.cell 8 rfl
    have z9 := HBXa.out.cell 9 rfl
    have z10 := HBXa.out.cell 10 rfl
    go_wp2
    go_ret
    exact ⟨rfl, HB.out⟩
  have HBS := hid_ (HBS.out.bel hb)
  have HB := hid_ (HB.out.trans hb)
  clear hb
  have HSM := hid_ (dec_sm HBB.out hq)
  have HOQ := hid_ (okE_of hq)
  clear hq
  obtain ⟨Q1, x1, y1, Q2, x2, y2, Q3, x3, y3, Q4, x4, y4, rfl, v1, v2, v3, v4, hQ⟩ := hIn
  have hvv : pgV q (.slice Q1 x1 y1) (.slice Q2 x2 y2) (.slice Q3 x3 y3) (.slice Q4 x4 y4) = .agg [.int .i64 q.kind, .slice Q1 x1 y1, .slice Q2 x2 y2, .slice Q3 x3 y3, .slice Q4 x4 y4, .int .i64 q.next, .int .u64 q.epoch, .int .i64 q.root, .int .i64 q.depth, .int .i64 q.count, .int .i64 q.high].toArray := rfl
  rw [hvv]
  clear hvv
  have HQ := hid_ hQ
  clear hQ
  go_upto_region 12 with (fail)
  have hbx := Bx.new w8 28 [.int .i64 q.kind, .slice Q1 x1 y1, .slice Q2 x2 y2, .slice Q3 x3 y3, .slice Q4 x4 y4, .int .i64 q.next, .int .u64 q.epoch, .int .i64 q.root, .int .i64 q.depth, .int .i64 q.count, .int .i64 q.high]
  have hb := (Bel.refl w8).alloc (.cells [.int .i64 q.kind, .slice Q1 x1 y1, .slice Q2 x2 y2, .slice Q3 x3 y3, .slice Q4 x4 y4, .int .i64 q.next, .int .u64 q.epoch, .int .i64 q.root, .int .i64 q.depth, .int .i64 q.count, .int .i64 q.high].toArray 28)
  generalize w8.alloc _ = Wa at hbx hb ⊢
  generalize w8.heap.size = ga at hbx ⊢
  have HBS := hid_ (HBS.out.bel hb)
  have HQ := hid_ (HQ.out.bel hb)
  have HB := hid_ (HB.out.trans hb)
  clear hb
  have HBXa := hid_ hbx
  clear hbx
  have z0 := HBXa.out.cell 0 rfl
  have z1 := HBXa.out.cell 1 rfl
  have z2 := HBXa.out.cell 2 rfl
  have z3 := HBXa.out.cell 3 rfl
  have z4 := HBXa.out.cell 4 rfl
  have z5 := HBXa.out.cell 5 rfl
  have z6 := HBXa.out.cell 6 rfl
  have z7 := HBXa.out.cell 7 rfl
  have z8 := HBXa.out.cell 8 rfl
  have z9 := HBXa.out.cell 9 rfl
  have z10 := HBXa.out.cell 10 rfl
  have b1 := HSM.out.n
  have b2 := HSM.out.m
  have b3 := HSM.out.k
  have b4 := HSM.out.l
  rw [HQ.out.pairs.1] at b1
  rw [HQ.out.keys.1] at b2
  rw [HQ.out.kids.1] at b3
  rw [HQ.out.pages.1] at b4
  have HEQ := hid_ (encode_yes s q Q1 Q2 Q3 Q4 x1 y1 x2 y2 x3 y3 x4 y4 _ HQ.out HSM.out.w b1 b2 b3 b4 HOQ.out.1)
  clear b1 b2 b3 b4
  go_wp2_with fail
  refine HEQ.out.mono ?_
  rintro e9 w9 ⟨gy, rfl, hY, hgy, hb⟩
  rw [HOQ.out.2.1] at hY
  clear z0 z1 z2 z3 z4 z5 z6 z7 z8 z9 z10
  have HBS := hid_ (HBS.out.bel hb)
  have HB := hid_ (HB.out.trans hb)
  clear hb
  have s1 := run_str (c := 1024) hY
  have s2 := run_str (c := cb) HBS.out
  clear hY hgy
  go_wp2
  go_ret
  exact ⟨rfl, HB.out⟩
theorem walkPageBack (w : World) (s : Int) (hs : (Lit.int .i64 s).wf = true) (P : Pg) (A : Option Addr) (n c : Nat) (B : Option Addr) (m d : Nat) (C : Option Addr) (k e : Nat) (D : Option Addr) (l f : Nat) (hP : pageWf w P A n c B m d C k e D l f) (t : Int) (ht : (Lit.int .i64 t).wf = true) (Ab : Option Addr) (nb cb : Nat) (bs : List Int) (hbs : nb ≤ cb ∧ Row byteT w Ab nb bs ∧ ∀ x ∈ bs, 0 ≤ x ∧ x < 256) :
    Calls Try.prog 6 #[.int .i64 s, pgV P (.slice A n c) (.slice B m d) (.slice C k e) (.slice D l f), .int .i64 t, .slice Ab nb cb] w fun e w' => e = .returned (.bool true) ∧ Bel w w' := by
  by_cases ho : okE s P = true
  · by_cases hts : t = s
    · exact back_at w s P A n c B m d C k e D l f hP t Ab nb cb bs hbs ho hts
    · exact back_off w s P A n c B m d C k e D l f hP t Ab nb cb bs hbs ho hts
  · exact back_no w s P A n c B m d C k e D l f hP t Ab nb cb bs hbs (by simpa using ho)
end Go.Proofs.Ytcfabnkkkpcelaa
