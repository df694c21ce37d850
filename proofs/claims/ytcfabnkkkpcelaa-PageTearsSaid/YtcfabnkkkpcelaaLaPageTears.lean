/- PageTears, walked. -/
import Derived.Test.YtcfabnkkkpcelaaTrA
import Derived.Test.YtcfabnkkkpcelaaOpPage
set_option linter.unusedSimpArgs false
set_option linter.unusedVariables false
namespace Go.Proofs.Ytcfabnkkkpcelaa
open Go.RowKit Go.Lib
set_option maxRecDepth 10000 in
set_option maxHeartbeats 8000000 in
theorem tears_bn (w : World) (s : Int) (O : Pg) (A : Option Addr) (n c : Nat) (B : Option Addr) (m d : Nat) (C : Option Addr) (k e : Nat) (D : Option Addr) (l f : Nat) (hO : pageWf w O A n c B m d C k e D l f) (hs1 : n ≤ 4398046511104 ∧ m ≤ 17592186044416 ∧ k ≤ 17592186044416 ∧ l ≤ 17592186044416) (P : Pg) (Aa : Option Addr) (na ca : Nat) (Ba : Option Addr) (ma da : Nat) (Ca : Option Addr) (ka ea : Nat) (Da : Option Addr) (la fa : Nat) (hP : pageWf w P Aa na ca Ba ma da Ca ka ea Da la fa) (hs2 : na ≤ 4398046511104 ∧ ma ≤ 17592186044416 ∧ ka ≤ 17592186044416 ∧ la ≤ 17592186044416) (ct : Int) (hct : i64R ct) (ho : okE s O = true) (hp : okE s P = true) (hk : P.kind = 4) (hok : O.kind = 4) (hne : ¬ O.epoch = P.epoch) (hn : ct < 0) :
    Calls Try.prog 8 #[.int .i64 s, pgV O (.slice A n c) (.slice B m d) (.slice C k e) (.slice D l f), pgV P (.slice Aa na ca) (.slice Ba ma da) (.slice Ca ka ea) (.slice Da la fa), .int .i64 ct] w fun e w' => e = .returned (.bool true) ∧ Bel w w' := by
  have hwo := hO.2.2.2.2.2.2.2.1
  have hwp := hP.2.2.2.2.2.2.2.1
  obtain ⟨m0, hm, hml⟩ : ∃ m0 : Nat, (wrap64 (-wrap64 (ct + 1))).tmod 1025 = (m0 : Int) ∧ m0 < 1025 := by
    rw [wrap_back hct.1 hn]
    exact tmod_nat _ 1025 (by omega) (by omega)
  obtain ⟨T, hT⟩ : ∃ T, tornL (encP s O) (encP s P) m0 = T := ⟨_, rfl⟩
  have HF : Hid (TornF s P (encP s O) T m0) := hid_ ⟨hT, by rw [← hT]; exact torn_len (enc_len (here_iff ho).1) (enc_len (here_iff hp).1) (by omega), by rw [← hT]; exact torn_byte (enc_byte (here_iff ho).1) (enc_byte (here_iff hp).1), enc_byte (here_iff ho).1, enc_byte (here_iff hp).1, enc_ne ho hwo hp hwp hne, fun h => tear_cut hp hwp (enc_len (here_iff ho).1) (by omega) (by rw [hT]; exact h), enc_len (here_iff ho).1⟩
  have HD : Hid (∀ q, decP s T = some q → (T = encP s O ∧ q = O) ∨ (T = encP s P ∧ q = P)) := hid_ (fun q h => by rw [← hT] at h ⊢; exact tear_old hp hk hwp ho hok hwo hne (by omega) h)
  have HOO := hid_ ho
  have HPO := hid_ hp
  have HK := hid_ hk
  have HNE := hid_ hne
  have HM := hid_ hm
  have HML := hid_ hml
  have HN := hid_ hn
  clear ho hp hk hne hm hml hn hwo hwp hT hct
  have HOK := hid_ hok
  clear hok
  obtain ⟨_, _, _, _, hO, hwo⟩ := hO
  obtain ⟨_, _, _, _, hP, hwp⟩ := hP
  have HO := hid_ hO
  have HP := hid_ hP
  have HWO := hid_ hwo
  have HWP := hid_ hwp
  have HS1 := hid_ hs1
  have HS2 := hid_ hs2
  clear hO hP hwo hwp hs1 hs2
  unfold pgV pgC
  go_enter Try.func8, Try.ntmps8
  go_upto_region 1 with (fail)
  have bx := (Bx.new w 28 (pgC O (.slice A n c) (.slice B m d) (.slice C k e) (.slice D l f))).alloc (.cells (pgC P (.slice Aa na ca) (.slice Ba ma da) (.slice Ca ka ea) (.slice Da la fa)).toArray 28)
  have bz := Bx.new (w.alloc (.cells (pgC O (.slice A n c) (.slice B m d) (.slice C k e) (.slice D l f)).toArray 28)) 28 (pgC P (.slice Aa na ca) (.slice Ba ma da) (.slice Ca ka ea) (.slice Da la fa))
  have hs := sizeAl w (.cells (pgC O (.slice A n c) (.slice B m d) (.slice C k e) (.slice D l f)).toArray 28)
  have hb := ((Bel.refl w).alloc (.cells (pgC O (.slice A n c) (.slice B m d) (.slice C k e) (.slice D l f)).toArray 28)).alloc (.cells (pgC P (.slice Aa na ca) (.slice Ba ma da) (.slice Ca ka ea) (.slice Da la fa)).toArray 28)
  rw [hs] at bz
  clear hs
  unfold pgC at bx bz hb
  generalize (w.alloc _).alloc _ = W0 at bx bz hb ⊢
  generalize w.heap.size = go at bx bz ⊢
  generalize hz : go + 1 = gp at bz ⊢
  clear hz
  have BO := hid_ bx
  have BP := hid_ bz
  have HB := hid_ hb
  have HO := hid_ (HO.out.bel hb)
  have HP := hid_ (HP.out.bel hb)
  clear bx bz hb
  go_wp2_with fail
  refine (awake_any _).mono ?_
  rintro e0 w1 ⟨rfl, hb⟩
  have HO := hid_ (HO.out.bel hb)
  have HP := hid_ (HP.out.bel hb)
  have BO := hid_ (BO.out.bel hb)
  have BP := hid_ (BP.out.bel hb)
  have HB := hid_ (HB.out.trans hb)
  clear hb
  have c0 := BO.out.cell 0 rfl
  have c1 := BO.out.cell 1 rfl
  have c2 := BO.out.cell 2 rfl
  have c3 := BO.out.cell 3 rfl
  have c4 := BO.out.cell 4 rfl
  have c5 := BO.out.cell 5 rfl
  have c6 := BO.out.cell 6 rfl
  have c7 := BO.out.cell 7 rfl
  have c8 := BO.out.cell 8 rfl
  have c9 := BO.out.cell 9 rfl
  have c10 := BO.out.cell 10 rfl
  go_wp2_with fail
  refine (encode_yes s O A B C D n c m d k e l f _ HO.out HWO.out HS1.out.1 HS1.out.2.1 HS1.out.2.2.1 HS1.out.2.2.2 HOO.out).mono ?_
  rintro e1 w2 ⟨g8, rfl, hR8, hg8, hb⟩
  clear c0 c1 c2 c3 c4 c5 c6 c7 c8 c9 c10
  have HRA := hid_ hR8
  clear hR8 hg8
  have HO := hid_ (HO.out.bel hb)
  have HP := hid_ (HP.out.bel hb)
  have BO := hid_ (BO.out.bel hb)
  have BP := hid_ (BP.out.bel hb)
  have HB := hid_ (HB.out.trans hb)
  clear hb
  have z0 := BP.out.cell 0 rfl
  have z1 := BP.out.cell 1 rfl
  have z2 := BP.out.cell 2 rfl
  have z3 := BP.out.cell 3 rfl
  have z4 := BP.out.cell 4 rfl
  have z5 := BP.out.cell 5 rfl
  have z6 := BP.out.cell 6 rfl
  have z7 := BP.out.cell 7 rfl
  have z8 := BP.out.cell 8 rfl
  have z9 := BP.out.cell 9 rfl
  have z10 := BP.out.cell 10 rfl
  go_wp2_with fail
  refine (encode_yes s P Aa Ba Ca Da na ca ma da ka ea la fa _ HP.out HWP.out HS2.out.1 HS2.out.2.1 HS2.out.2.2.1 HS2.out.2.2.2 HPO.out).mono ?_
  rintro e2 w3 ⟨g9, rfl, hR9, hg9, hb⟩
  clear z0 z1 z2 z3 z4 z5 z6 z7 z8 z9 z10
  have HRB := hid_ hR9
  clear hR9 hg9
  have HRA := hid_ (HRA.out.bel hb)
  have HO := hid_ (HO.out.bel hb)
  have HP := hid_ (HP.out.bel hb)
  have BO := hid_ (BO.out.bel hb)
  have BP := hid_ (BP.out.bel hb)
  have HB := hid_ (HB.out.trans hb)
  clear hb
  have c0 := BO.out.cell 0 rfl
  have c1 := BO.out.cell 1 rfl
  have c2 := BO.out.cell 2 rfl
  have c3 := BO.out.cell 3 rfl
  have c4 := BO.out.cell 4 rfl
  have c5 := BO.out.cell 5 rfl
  have c6 := BO.out.cell 6 rfl
  have c7 := BO.out.cell 7 rfl
  have c8 := BO.out.cell 8 rfl
  have c9 := BO.out.cell 9 rfl
  have c10 := BO.out.cell 10 rfl
  have z0 := BP.out.cell 0 rfl
  have z1 := BP.out.cell 1 rfl
  have z2 := BP.out.cell 2 rfl
  have z3 := BP.out.cell 3 rfl
  have z4 := BP.out.cell 4 rfl
  have z5 := BP.out.cell 5 rfl
  have z6 := BP.out.cell 6 rfl
  have z7 := BP.out.cell 7 rfl
  have z8 := BP.out.cell 8 rfl
  have z9 := BP.out.cell 9 rfl
  have z10 := BP.out.cell 10 rfl
  have r1 : (P.kind != 4) = false := by simp [HK.out]
  have r0 : (O.kind != 4) = false := by simp [HOK.out]
  have r2 : (O.epoch == P.epoch) = false := by simp [HNE.out]
  have hm := HM.out
  have hn := HN.out
  have i0 : (0 : Int) ≤ (m0 : Int) := by omega
  have i1 : (m0 : Int) ≤ 1024 := by have := HML.out; omega
  have i2 : m0 ≤ 1024 := by have := HML.out; omega
  go_upto_region 13 with (fail)
  obtain ⟨W0, hW0⟩ : ∃ W0, w3 = W0 := ⟨_, rfl⟩
  rw [hW0] at HB HRA HRB BO BP HO HP ⊢
  clear hW0 c0 c1 c2 c3 c4 c5 c6 c7 c8 c9 c10 z0 z1 z2 z3 z4 z5 z6 z7 z8 z9 z10 hm hn i0 i1
  obtain ⟨A', hcut, hrow⟩ := byteS.cutFrom (P := Try.prog) .i64 (some ⟨g8, 0, none⟩) 1024 1024 m0 i2 (Nat.le_refl _)
  have hcut2 := fun W => byteS.cutTo (P := Try.prog) .i64 (some ⟨g9, 0, none⟩) 1024 1024 m0 i2 W
  have ra := hid_ (hrow _ _ HRA.out)
  have rt := hid_ (HRB.out.take_ i2)
  have HLD : Hid ((List.drop m0 (encP s O)).length = 1024 - m0 ∧ ((encP s P).take m0).length = m0) := hid_ ⟨by rw [List.length_drop, HF.out.alen], by rw [List.length_take, HRB.out.1]; omega⟩
  have hKP : ∀ W, Bel W0 W → (fun W => Bel W0 W) W := fun W b => b
  have HKP := hid_ hKP
  clear hKP hrow
  go_region_held3 (fun W => Bel W0 W) ((refine HKP.out _ ?_; repeat first | with_reducible exact Bel.refl _ | with_reducible exact hb1 | with_reducible exact hb3 | with_reducible apply Bel.drew | with_reducible apply Bel.alloc))
    (first | (refine stepApp (w0 := W0) byteS rfl _ _ rfl _ [] ((encP s P).take m0) (some ⟨g9, 0, none⟩) m0 1024 rfl rfl ((Own.litE (T := byteT) W0 W0.heap.size _ 5 rfl rfl (Nat.le_refl _)).bel (by repeat first | with_reducible exact Bel.refl _ | with_reducible apply Bel.drew | with_reducible apply Bel.alloc)) (rt.out.bel (by repeat first | with_reducible exact Bel.refl _ | with_reducible apply Bel.drew | with_reducible apply Bel.alloc)) (by repeat first | with_reducible exact Bel.refl _ | with_reducible apply Bel.drew | with_reducible apply Bel.alloc) (by have h1 := HLD.out; have h3 := HML.out; simp only [List.length_append, List.length_nil, h1.1, h1.2]; omega) ?_; intro v1 x1 hO1 hb1 hg1 hat1) | (refine stepApp (w0 := W0) byteS rfl _ _ rfl v1 ([] ++ (encP s P).take m0) (List.drop m0 (encP s O)) A' (1024 - m0) (1024 - m0) rfl rfl hO1 (ra.out.bel hb1) hb1 (by have h1 := HLD.out; have h3 := HML.out; simp only [List.length_append, List.length_nil, h1.1, h1.2]; omega) ?_; intro v3 x3 hO3 hb3 hg3 hat3))
  have hO3 : Own byteT x3 W0.heap.size v3 (tornL (encP s O) (encP s P) m0) := hO3
  rw [HF.out.t] at hO3
  obtain ⟨A9, cT, rfl, hc9, r9⟩ := hO3.readsN' HF.out.len
  have R9 := hid_ r9
  have C9 := hid_ hc9
  have hb := hb3
  have HRA := hid_ (HRA.out.bel hb)
  have HRB := hid_ (HRB.out.bel hb)
  have HO := hid_ (HO.out.bel hb)
  have HP := hid_ (HP.out.bel hb)
  have BO := hid_ (BO.out.bel hb)
  have BP := hid_ (BP.out.bel hb)
  have HB := hid_ (HB.out.trans hb)
  clear hb
  clear hO1 hb1 hg1 hat1 hO3 hb3 hg3 hat3 r9 hc9 HKP ra rt hcut hcut2 HLD i2
  go_wp2_with fail
  refine (decode_any s A9 1024 cT T _ R9.out C9.out HF.out.byt).mono ?_
  rintro e8 w8 hD
  rcases hD with ⟨q, v, hq, rfl, hIn, hb⟩ | ⟨hq, rfl, hb⟩
  case inr =>
    have HB := hid_ (HB.out.trans hb)
    clear hb
    have i3 : (m0 : Int) < 1024 := by have := HF.out.cut hq; omega
    clear hq
    unfold zeroC
    go_upto_region 15 with (fail)
    have hbx := Bx.new w8 28 [.int .i64 0, .slice none 0 0, .slice none 0 0, .slice none 0 0, .slice none 0 0, .int .i64 0, .int .u64 0, .int .i64 0, .int .i64 0, .int .i64 0, .int .i64 0]
    have hb := (Bel.refl w8).alloc (.cells [.int .i64 0, .slice none 0 0, .slice none 0 0, .slice none 0 0, .slice none 0 0, .int .i64 0, .int .u64 0, .int .i64 0, .int .i64 0, .int .i64 0, .int .i64 0].toArray 28)
    generalize w8.alloc _ = Wa at hbx hb ⊢
    generalize w8.heap.size = ga at hbx ⊢
    have HB := hid_ (HB.out.trans hb)
    clear hb
    have HBXa := hid_ hbx
    clear hbx
    have yy0 := HBXa.out.cell 0 rfl
    have yy1 := HBXa.out.cell 1 rfl
    have yy2 := HBXa.out.cell 2 rfl
    have yy3 := HBXa.out.cell 3 rfl
    have yy4 := HBXa.out.cell 4 rfl
    have yy5 := HBXa.out.cell 5 rfl
    have yy6 := HBXa.out.cell 6 rfl
    have yy7 := HBXa.out.cell 7 rfl
    have yy8 := HBXa.out.cell 8 rfl
    have yy9 := HBXa.out.cell 9 rfl
    have yy10 := HBXa.out.cell 10 rfl
    go_wp2
    go_ret
    exact ⟨rfl, HB.out⟩
  have HRA := hid_ (HRA.out.bel hb)
  have HRB := hid_ (HRB.out.bel hb)
  have R9 := hid_ (R9.out.bel hb)
  have BO := hid_ (BO.out.bel hb)
  have BP := hid_ (BP.out.bel hb)
  have HO := hid_ (HO.out.bel hb)
  have HP := hid_ (HP.out.bel hb)
  have HB := hid_ (HB.out.trans hb)
  clear hb
  rcases HD.out q hq with ⟨hTT, hqe⟩ | ⟨hTT, hqe⟩
  · replace hqe := hqe.symm
    subst hqe
    have HTT := hid_ hTT
    clear hTT hq
    obtain ⟨Q1, x1, y1, Q2, x2, y2, Q3, x3, y3, Q4, x4, y4, rfl, v1, v2, v3, v4, hQ⟩ := hIn
    have hvv : pgV O (.slice Q1 x1 y1) (.slice Q2 x2 y2) (.slice Q3 x3 y3) (.slice Q4 x4 y4) = .agg [.int .i64 O.kind, .slice Q1 x1 y1, .slice Q2 x2 y2, .slice Q3 x3 y3, .slice Q4 x4 y4, .int .i64 O.next, .int .u64 O.epoch, .int .i64 O.root, .int .i64 O.depth, .int .i64 O.count, .int .i64 O.high].toArray := rfl
    rw [hvv]
    clear hvv
    have HQ := hid_ hQ
    clear hQ
    go_upto_region 15 with (fail)
    have hbx := Bx.new w8 28 [.int .i64 O.kind, .slice Q1 x1 y1, .slice Q2 x2 y2, .slice Q3 x3 y3, .slice Q4 x4 y4, .int .i64 O.next, .int .u64 O.epoch, .int .i64 O.root, .int .i64 O.depth, .int .i64 O.count, .int .i64 O.high]
    have hb := (Bel.refl w8).alloc (.cells [.int .i64 O.kind, .slice Q1 x1 y1, .slice Q2 x2 y2, .slice Q3 x3 y3, .slice Q4 x4 y4, .int .i64 O.next, .int .u64 O.epoch, .int .i64 O.root, .int .i64 O.depth, .int .i64 O.count, .int .i64 O.high].toArray 28)
    generalize w8.alloc _ = Wa at hbx hb ⊢
    generalize w8.heap.size = ga at hbx ⊢
    have HRA := hid_ (HRA.out.bel hb)
    have HRB := hid_ (HRB.out.bel hb)
    have R9 := hid_ (R9.out.bel hb)
    have BO := hid_ (BO.out.bel hb)
    have BP := hid_ (BP.out.bel hb)
    have HO := hid_ (HO.out.bel hb)
    have HP := hid_ (HP.out.bel hb)
    have HQ := hid_ (HQ.out.bel hb)
    have HB := hid_ (HB.out.trans hb)
    clear hb
    have HBXa := hid_ hbx
    clear hbx
    have yy0 := HBXa.out.cell 0 rfl
    have yy1 := HBXa.out.cell 1 rfl
    have yy2 := HBXa.out.cell 2 rfl
    have yy3 := HBXa.out.cell 3 rfl
    have yy4 := HBXa.out.cell 4 rfl
    have yy5 := HBXa.out.cell 5 rfl
    have yy6 := HBXa.out.cell 6 rfl
    have yy7 := HBXa.out.cell 7 rfl
    have yy8 := HBXa.out.cell 8 rfl
    have yy9 := HBXa.out.cell 9 rfl
    have yy10 := HBXa.out.cell 10 rfl
    have c0 := BO.out.cell 0 rfl
    have c1 := BO.out.cell 1 rfl
    have c2 := BO.out.cell 2 rfl
    have c3 := BO.out.cell 3 rfl
    have c4 := BO.out.cell 4 rfl
    have c5 := BO.out.cell 5 rfl
    have c6 := BO.out.cell 6 rfl
    have c7 := BO.out.cell 7 rfl
    have c8 := BO.out.cell 8 rfl
    have c9 := BO.out.cell 9 rfl
    have c10 := BO.out.cell 10 rfl
    have z0 := BP.out.cell 0 rfl
    have z1 := BP.out.cell 1 rfl
    have z2 := BP.out.cell 2 rfl
    have z3 := BP.out.cell 3 rfl
    have z4 := BP.out.cell 4 rfl
    have z5 := BP.out.cell 5 rfl
    have z6 := BP.out.cell 6 rfl
    have z7 := BP.out.cell 7 rfl
    have z8 := BP.out.cell 8 rfl
    have z9 := BP.out.cell 9 rfl
    have z10 := BP.out.cell 10 rfl
    have s1 := run_str (c := cT) R9.out
    have s2 := run_str (c := 1024) HRA.out
    have q1 : ((strOfNums T).toList == (strOfNums (encP s O)).toList) = true := by
      rw [strEq HF.out.byt HF.out.abyt]
      exact decide_eq_true HTT.out
    go_wp2_with fail
    refine (same_any O O Q1 Q2 Q3 Q4 x1 y1 x2 y2 x3 y3 x4 y4 A B C D n c m d k e l f _ HQ.out HO.out).mono ?_
    rintro e9 w9 ⟨rfl, hb⟩
    rw [decide_eq_true (rfl : O = O)]
    clear c0 c1 c2 c3 c4 c5 c6 c7 c8 c9 c10
    clear z0 z1 z2 z3 z4 z5 z6 z7 z8 z9 z10
    clear yy0 yy1 yy2 yy3 yy4 yy5 yy6 yy7 yy8 yy9 yy10
    clear s1 s2 q1
    have R9 := hid_ (R9.out.bel hb)
    have HRB := hid_ (HRB.out.bel hb)
    have HB := hid_ (HB.out.trans hb)
    clear hb
    have s1 := run_str (c := cT) R9.out
    have s3 := run_str (c := 1024) HRB.out
    have q2 : ((strOfNums T).toList == (strOfNums (encP s P)).toList) = false := by
      rw [strEq HF.out.byt HF.out.pbyt]
      exact decide_eq_false (fun h => HF.out.ne (by rw [← h]; exact HTT.out.symm))
    go_wp2
    go_ret
    exact ⟨rfl, HB.out⟩
  · replace hqe := hqe.symm
    subst hqe
    have HTT := hid_ hTT
    clear hTT hq
    obtain ⟨Q1, x1, y1, Q2, x2, y2, Q3, x3, y3, Q4, x4, y4, rfl, v1, v2, v3, v4, hQ⟩ := hIn
    have hvv : pgV P (.slice Q1 x1 y1) (.slice Q2 x2 y2) (.slice Q3 x3 y3) (.slice Q4 x4 y4) = .agg [.int .i64 P.kind, .slice Q1 x1 y1, .slice Q2 x2 y2, .slice Q3 x3 y3, .slice Q4 x4 y4, .int .i64 P.next, .int .u64 P.epoch, .int .i64 P.root, .int .i64 P.depth, .int .i64 P.count, .int .i64 P.high].toArray := rfl
    rw [hvv]
    clear hvv
    have HQ := hid_ hQ
    clear hQ
    go_upto_region 15 with (fail)
    have hbx := Bx.new w8 28 [.int .i64 P.kind, .slice Q1 x1 y1, .slice Q2 x2 y2, .slice Q3 x3 y3, .slice Q4 x4 y4, .int .i64 P.next, .int .u64 P.epoch, .int .i64 P.root, .int .i64 P.depth, .int .i64 P.count, .int .i64 P.high]
    have hb := (Bel.refl w8).alloc (.cells [.int .i64 P.kind, .slice Q1 x1 y1, .slice Q2 x2 y2, .slice Q3 x3 y3, .slice Q4 x4 y4, .int .i64 P.next, .int .u64 P.epoch, .int .i64 P.root, .int .i64 P.depth, .int .i64 P.count, .int .i64 P.high].toArray 28)
    generalize w8.alloc _ = Wa at hbx hb ⊢
    generalize w8.heap.size = ga at hbx ⊢
    have HRA := hid_ (HRA.out.bel hb)
    have HRB := hid_ (HRB.out.bel hb)
    have R9 := hid_ (R9.out.bel hb)
    have BO := hid_ (BO.out.bel hb)
    have BP := hid_ (BP.out.bel hb)
    have HO := hid_ (HO.out.bel hb)
    have HP := hid_ (HP.out.bel hb)
    have HQ := hid_ (HQ.out.bel hb)
    have HB := hid_ (HB.out.trans hb)
    clear hb
    have HBXa := hid_ hbx
    clear hbx
    have yy0 := HBXa.out.cell 0 rfl
    have yy1 := HBXa.out.cell 1 rfl
    have yy2 := HBXa.out.cell 2 rfl
    have yy3 := HBXa.out.cell 3 rfl
    have yy4 := HBXa.out.cell 4 rfl
    have yy5 := HBXa.out.cell 5 rfl
    have yy6 := HBXa.out.cell 6 rfl
    have yy7 := HBXa.out.cell 7 rfl
    have yy8 := HBXa.out.cell 8 rfl
    have yy9 := HBXa.out.cell 9 rfl
    have yy10 := HBXa.out.cell 10 rfl
    have c0 := BO.out.cell 0 rfl
    have c1 := BO.out.cell 1 rfl
    have c2 := BO.out.cell 2 rfl
    have c3 := BO.out.cell 3 rfl
    have c4 := BO.out.cell 4 rfl
    have c5 := BO.out.cell 5 rfl
    have c6 := BO.out.cell 6 rfl
    have c7 := BO.out.cell 7 rfl
    have c8 := BO.out.cell 8 rfl
    have c9 := BO.out.cell 9 rfl
    have c10 := BO.out.cell 10 rfl
    have z0 := BP.out.cell 0 rfl
    have z1 := BP.out.cell 1 rfl
    have z2 := BP.out.cell 2 rfl
    have z3 := BP.out.cell 3 rfl
    have z4 := BP.out.cell 4 rfl
    have z5 := BP.out.cell 5 rfl
    have z6 := BP.out.cell 6 rfl
    have z7 := BP.out.cell 7 rfl
    have z8 := BP.out.cell 8 rfl
    have z9 := BP.out.cell 9 rfl
    have z10 := BP.out.cell 10 rfl
    have s1 := run_str (c := cT) R9.out
    have s2 := run_str (c := 1024) HRA.out
    have q1 : ((strOfNums T).toList == (strOfNums (encP s O)).toList) = false := by
      rw [strEq HF.out.byt HF.out.abyt]
      exact decide_eq_false (fun h => HF.out.ne (by rw [← h]; exact HTT.out))
    have s3 := run_str (c := 1024) HRB.out
    have q2 : ((strOfNums T).toList == (strOfNums (encP s P)).toList) = true := by
      rw [strEq HF.out.byt HF.out.pbyt]
      exact decide_eq_true HTT.out
    go_wp2_with fail
    refine (same_any P P Q1 Q2 Q3 Q4 x1 y1 x2 y2 x3 y3 x4 y4 Aa Ba Ca Da na ca ma da ka ea la fa _ HQ.out HP.out).mono ?_
    rintro e9 w9 ⟨rfl, hb⟩
    rw [decide_eq_true (rfl : P = P)]
    clear c0 c1 c2 c3 c4 c5 c6 c7 c8 c9 c10
    clear z0 z1 z2 z3 z4 z5 z6 z7 z8 z9 z10
    clear yy0 yy1 yy2 yy3 yy4 yy5 yy6 yy7 yy8 yy9 yy10
    clear s1 s2 q1 s3 q2
    have R9 := hid_ (R9.out.bel hb)
    have HRB := hid_ (HRB.out.bel hb)
    have HB := hid_ (HB.out.trans hb)
    clear hb
    go_wp2
    go_ret
    exact ⟨rfl, HB.out⟩
set_option maxRecDepth 10000 in
set_option maxHeartbeats 8000000 in
theorem tears_bp (w : World) (s : Int) (O : Pg) (A : Option Addr) (n c : Nat) (B : Option Addr) (m d : Nat) (C : Option Addr) (k e : Nat) (D : Option Addr) (l f : Nat) (hO : pageWf w O A n c B m d C k e D l f) (hs1 : n ≤ 4398046511104 ∧ m ≤ 17592186044416 ∧ k ≤ 17592186044416 ∧ l ≤ 17592186044416) (P : Pg) (Aa : Option Addr) (na ca : Nat) (Ba : Option Addr) (ma da : Nat) (Ca : Option Addr) (ka ea : Nat) (Da : Option Addr) (la fa : Nat) (hP : pageWf w P Aa na ca Ba ma da Ca ka ea Da la fa) (hs2 : na ≤ 4398046511104 ∧ ma ≤ 17592186044416 ∧ ka ≤ 17592186044416 ∧ la ≤ 17592186044416) (ct : Int) (hct : i64R ct) (ho : okE s O = true) (hp : okE s P = true) (hk : P.kind = 4) (hok : O.kind = 4) (hne : ¬ O.epoch = P.epoch) (hn : ¬ ct < 0) :
    Calls Try.prog 8 #[.int .i64 s, pgV O (.slice A n c) (.slice B m d) (.slice C k e) (.slice D l f), pgV P (.slice Aa na ca) (.slice Ba ma da) (.slice Ca ka ea) (.slice Da la fa), .int .i64 ct] w fun e w' => e = .returned (.bool true) ∧ Bel w w' := by
  have hwo := hO.2.2.2.2.2.2.2.1
  have hwp := hP.2.2.2.2.2.2.2.1
  obtain ⟨m0, hm, hml⟩ : ∃ m0 : Nat, (ct).tmod 1025 = (m0 : Int) ∧ m0 < 1025 := by
    exact tmod_nat _ 1025 (by omega) (by omega)
  obtain ⟨T, hT⟩ : ∃ T, tornL (encP s O) (encP s P) m0 = T := ⟨_, rfl⟩
  have HF : Hid (TornF s P (encP s O) T m0) := hid_ ⟨hT, by rw [← hT]; exact torn_len (enc_len (here_iff ho).1) (enc_len (here_iff hp).1) (by omega), by rw [← hT]; exact torn_byte (enc_byte (here_iff ho).1) (enc_byte (here_iff hp).1), enc_byte (here_iff ho).1, enc_byte (here_iff hp).1, enc_ne ho hwo hp hwp hne, fun h => tear_cut hp hwp (enc_len (here_iff ho).1) (by omega) (by rw [hT]; exact h), enc_len (here_iff ho).1⟩
  have HD : Hid (∀ q, decP s T = some q → (T = encP s O ∧ q = O) ∨ (T = encP s P ∧ q = P)) := hid_ (fun q h => by rw [← hT] at h ⊢; exact tear_old hp hk hwp ho hok hwo hne (by omega) h)
  have HOO := hid_ ho
  have HPO := hid_ hp
  have HK := hid_ hk
  have HNE := hid_ hne
  have HM := hid_ hm
  have HML := hid_ hml
  have HN := hid_ hn
  clear ho hp hk hne hm hml hn hwo hwp hT hct
  have HOK := hid_ hok
  clear hok
  obtain ⟨_, _, _, _, hO, hwo⟩ := hO
  obtain ⟨_, _, _, _, hP, hwp⟩ := hP
  have HO := hid_ hO
  have HP := hid_ hP
  have HWO := hid_ hwo
  have HWP := hid_ hwp
  have HS1 := hid_ hs1
  have HS2 := hid_ hs2
  clear hO hP hwo hwp hs1 hs2
  unfold pgV pgC
  go_enter Try.func8, Try.ntmps8
  go_upto_region 1 with (fail)
  have bx := (Bx.new w 28 (pgC O (.slice A n c) (.slice B m d) (.slice C k e) (.slice D l f))).alloc (.cells (pgC P (.slice Aa na ca) (.slice Ba ma da) (.slice Ca ka ea) (.slice Da la fa)).toArray 28)
  have bz := Bx.new (w.alloc (.cells (pgC O (.slice A n c) (.slice B m d) (.slice C k e) (.slice D l f)).toArray 28)) 28 (pgC P (.slice Aa na ca) (.slice Ba ma da) (.slice Ca ka ea) (.slice Da la fa))
  have hs := sizeAl w (.cells (pgC O (.slice A n c) (.slice B m d) (.slice C k e) (.slice D l f)).toArray 28)
  have hb := ((Bel.refl w).alloc (.cells (pgC O (.slice A n c) (.slice B m d) (.slice C k e) (.slice D l f)).toArray 28)).alloc (.cells (pgC P (.slice Aa na ca) (.slice Ba ma da) (.slice Ca ka ea) (.slice Da la fa)).toArray 28)
  rw [hs] at bz
  clear hs
  unfold pgC at bx bz hb
  generalize (w.alloc _).alloc _ = W0 at bx bz hb ⊢
  generalize w.heap.size = go at bx bz ⊢
  generalize hz : go + 1 = gp at bz ⊢
  clear hz
  have BO := hid_ bx
  have BP := hid_ bz
  have HB := hid_ hb
  have HO := hid_ (HO.out.bel hb)
  have HP := hid_ (HP.out.bel hb)
  clear bx bz hb
  go_wp2_with fail
  refine (awake_any _).mono ?_
  rintro e0 w1 ⟨rfl, hb⟩
  have HO := hid_ (HO.out.bel hb)
  have HP := hid_ (HP.out.bel hb)
  have BO := hid_ (BO.out.bel hb)
  have BP := hid_ (BP.out.bel hb)
  have HB := hid_ (HB.out.trans hb)
  clear hb
  have c0 := BO.out.cell 0 rfl
  have c1 := BO.out.cell 1 rfl
  have c2 := BO.out.cell 2 rfl
  have c3 := BO.out.cell 3 rfl
  have c4 := BO.out.cell 4 rfl
  have c5 := BO.out.cell 5 rfl
  have c6 := BO.out.cell 6 rfl
  have c7 := BO.out.cell 7 rfl
  have c8 := BO.out.cell 8 rfl
  have c9 := BO.out.cell 9 rfl
  have c10 := BO.out.cell 10 rfl
  go_wp2_with fail
  refine (encode_yes s O A B C D n c m d k e l f _ HO.out HWO.out HS1.out.1 HS1.out.2.1 HS1.out.2.2.1 HS1.out.2.2.2 HOO.out).mono ?_
  rintro e1 w2 ⟨g8, rfl, hR8, hg8, hb⟩
  clear c0 c1 c2 c3 c4 c5 c6 c7 c8 c9 c10
  have HRA := hid_ hR8
  clear hR8 hg8
  have HO := hid_ (HO.out.bel hb)
  have HP := hid_ (HP.out.bel hb)
  have BO := hid_ (BO.out.bel hb)
  have BP := hid_ (BP.out.bel hb)
  have HB := hid_ (HB.out.trans hb)
  clear hb
  have z0 := BP.out.cell 0 rfl
  have z1 := BP.out.cell 1 rfl
  have z2 := BP.out.cell 2 rfl
  have z3 := BP.out.cell 3 rfl
  have z4 := BP.out.cell 4 rfl
  have z5 := BP.out.cell 5 rfl
  have z6 := BP.out.cell 6 rfl
  have z7 := BP.out.cell 7 rfl
  have z8 := BP.out.cell 8 rfl
  have z9 := BP.out.cell 9 rfl
  have z10 := BP.out.cell 10 rfl
  go_wp2_with fail
  refine (encode_yes s P Aa Ba Ca Da na ca ma da ka ea la fa _ HP.out HWP.out HS2.out.1 HS2.out.2.1 HS2.out.2.2.1 HS2.out.2.2.2 HPO.out).mono ?_
  rintro e2 w3 ⟨g9, rfl, hR9, hg9, hb⟩
  clear z0 z1 z2 z3 z4 z5 z6 z7 z8 z9 z10
  have HRB := hid_ hR9
  clear hR9 hg9
  have HRA := hid_ (HRA.out.bel hb)
  have HO := hid_ (HO.out.bel hb)
  have HP := hid_ (HP.out.bel hb)
  have BO := hid_ (BO.out.bel hb)
  have BP := hid_ (BP.out.bel hb)
  have HB := hid_ (HB.out.trans hb)
  clear hb
  have c0 := BO.out.cell 0 rfl
  have c1 := BO.out.cell 1 rfl
  have c2 := BO.out.cell 2 rfl
  have c3 := BO.out.cell 3 rfl
  have c4 := BO.out.cell 4 rfl
  have c5 := BO.out.cell 5 rfl
  have c6 := BO.out.cell 6 rfl
  have c7 := BO.out.cell 7 rfl
  have c8 := BO.out.cell 8 rfl
  have c9 := BO.out.cell 9 rfl
  have c10 := BO.out.cell 10 rfl
  have z0 := BP.out.cell 0 rfl
  have z1 := BP.out.cell 1 rfl
  have z2 := BP.out.cell 2 rfl
  have z3 := BP.out.cell 3 rfl
  have z4 := BP.out.cell 4 rfl
  have z5 := BP.out.cell 5 rfl
  have z6 := BP.out.cell 6 rfl
  have z7 := BP.out.cell 7 rfl
  have z8 := BP.out.cell 8 rfl
  have z9 := BP.out.cell 9 rfl
  have z10 := BP.out.cell 10 rfl
  have r1 : (P.kind != 4) = false := by simp [HK.out]
  have r0 : (O.kind != 4) = false := by simp [HOK.out]
  have r2 : (O.epoch == P.epoch) = false := by simp [HNE.out]
  have hm := HM.out
  have hn := HN.out
  have i0 : (0 : Int) ≤ (m0 : Int) := by omega
  have i1 : (m0 : Int) ≤ 1024 := by have := HML.out; omega
  have i2 : m0 ≤ 1024 := by have := HML.out; omega
  go_upto_region 13 with (fail)
  obtain ⟨W0, hW0⟩ : ∃ W0, w3 = W0 := ⟨_, rfl⟩
  rw [hW0] at HB HRA HRB BO BP HO HP ⊢
  clear hW0 c0 c1 c2 c3 c4 c5 c6 c7 c8 c9 c10 z0 z1 z2 z3 z4 z5 z6 z7 z8 z9 z10 hm hn i0 i1
  obtain ⟨A', hcut, hrow⟩ := byteS.cutFrom (P := Try.prog) .i64 (some ⟨g8, 0, none⟩) 1024 1024 m0 i2 (Nat.le_refl _)
  have hcut2 := fun W => byteS.cutTo (P := Try.prog) .i64 (some ⟨g9, 0, none⟩) 1024 1024 m0 i2 W
  have ra := hid_ (hrow _ _ HRA.out)
  have rt := hid_ (HRB.out.take_ i2)
  have HLD : Hid ((List.drop m0 (encP s O)).length = 1024 - m0 ∧ ((encP s P).take m0).length = m0) := hid_ ⟨by rw [List.length_drop, HF.out.alen], by rw [List.length_take, HRB.out.1]; omega⟩
  have hKP : ∀ W, Bel W0 W → (fun W => Bel W0 W) W := fun W b => b
  have HKP := hid_ hKP
  clear hKP hrow
  go_region_held3 (fun W => Bel W0 W) ((refine HKP.out _ ?_; repeat first | with_reducible exact Bel.refl _ | with_reducible exact hb1 | with_reducible exact hb3 | with_reducible apply Bel.drew | with_reducible apply Bel.alloc))
    (first | (refine stepApp (w0 := W0) byteS rfl _ _ rfl _ [] ((encP s P).take m0) (some ⟨g9, 0, none⟩) m0 1024 rfl rfl ((Own.litE (T := byteT) W0 W0.heap.size _ 5 rfl rfl (Nat.le_refl _)).bel (by repeat first | with_reducible exact Bel.refl _ | with_reducible apply Bel.drew | with_reducible apply Bel.alloc)) (rt.out.bel (by repeat first | with_reducible exact Bel.refl _ | with_reducible apply Bel.drew | with_reducible apply Bel.alloc)) (by repeat first | with_reducible exact Bel.refl _ | with_reducible apply Bel.drew | with_reducible apply Bel.alloc) (by have h1 := HLD.out; have h3 := HML.out; simp only [List.length_append, List.length_nil, h1.1, h1.2]; omega) ?_; intro v1 x1 hO1 hb1 hg1 hat1) | (refine stepApp (w0 := W0) byteS rfl _ _ rfl v1 ([] ++ (encP s P).take m0) (List.drop m0 (encP s O)) A' (1024 - m0) (1024 - m0) rfl rfl hO1 (ra.out.bel hb1) hb1 (by have h1 := HLD.out; have h3 := HML.out; simp only [List.length_append, List.length_nil, h1.1, h1.2]; omega) ?_; intro v3 x3 hO3 hb3 hg3 hat3))
  have hO3 : Own byteT x3 W0.heap.size v3 (tornL (encP s O) (encP s P) m0) := hO3
  rw [HF.out.t] at hO3
  obtain ⟨A9, cT, rfl, hc9, r9⟩ := hO3.readsN' HF.out.len
  have R9 := hid_ r9
  have C9 := hid_ hc9
  have hb := hb3
  have HRA := hid_ (HRA.out.bel hb)
  have HRB := hid_ (HRB.out.bel hb)
  have HO := hid_ (HO.out.bel hb)
  have HP := hid_ (HP.out.bel hb)
  have BO := hid_ (BO.out.bel hb)
  have BP := hid_ (BP.out.bel hb)
  have HB := hid_ (HB.out.trans hb)
  clear hb
  clear hO1 hb1 hg1 hat1 hO3 hb3 hg3 hat3 r9 hc9 HKP ra rt hcut hcut2 HLD i2
  go_wp2_with fail
  refine (decode_any s A9 1024 cT T _ R9.out C9.out HF.out.byt).mono ?_
  rintro e8 w8 hD
  rcases hD with ⟨q, v, hq, rfl, hIn, hb⟩ | ⟨hq, rfl, hb⟩
  case inr =>
    have HB := hid_ (HB.out.trans hb)
    clear hb
    have i3 : (m0 : Int) < 1024 := by have := HF.out.cut hq; omega
    clear hq
    unfold zeroC
    go_upto_region 15 with (fail)
    have hbx := Bx.new w8 28 [.int .i64 0, .slice none 0 0, .slice none 0 0, .slice none 0 0, .slice none 0 0, .int .i64 0, .int .u64 0, .int .i64 0, .int .i64 0, .int .i64 0, .int .i64 0]
    have hb := (Bel.refl w8).alloc (.cells [.int .i64 0, .slice none 0 0, .slice none 0 0, .slice none 0 0, .slice none 0 0, .int .i64 0, .int .u64 0, .int .i64 0, .int .i64 0, .int .i64 0, .int .i64 0].toArray 28)
    generalize w8.alloc _ = Wa at hbx hb ⊢
    generalize w8.heap.size = ga at hbx ⊢
    have HB := hid_ (HB.out.trans hb)
    clear hb
    have HBXa := hid_ hbx
    clear hbx
    have yy0 := HBXa.out.cell 0 rfl
    have yy1 := HBXa.out.cell 1 rfl
    have yy2 := HBXa.out.cell 2 rfl
    have yy3 := HBXa.out.cell 3 rfl
    have yy4 := HBXa.out.cell 4 rfl
    have yy5 := HBXa.out.cell 5 rfl
    have yy6 := HBXa.out.cell 6 rfl
    have yy7 := HBXa.out.cell 7 rfl
    have yy8 := HBXa.out.cell 8 rfl
    have yy9 := HBXa.out.cell 9 rfl
    have yy10 := HBXa.out.cell 10 rfl
    go_wp2
    go_ret
    exact ⟨rfl, HB.out⟩
  have HRA := hid_ (HRA.out.bel hb)
  have HRB := hid_ (HRB.out.bel hb)
  have R9 := hid_ (R9.out.bel hb)
  have BO := hid_ (BO.out.bel hb)
  have BP := hid_ (BP.out.bel hb)
  have HO := hid_ (HO.out.bel hb)
  have HP := hid_ (HP.out.bel hb)
  have HB := hid_ (HB.out.trans hb)
  clear hb
  rcases HD.out q hq with ⟨hTT, hqe⟩ | ⟨hTT, hqe⟩
  · replace hqe := hqe.symm
    subst hqe
    have HTT := hid_ hTT
    clear hTT hq
    obtain ⟨Q1, x1, y1, Q2, x2, y2, Q3, x3, y3, Q4, x4, y4, rfl, v1, v2, v3, v4, hQ⟩ := hIn
    have hvv : pgV O (.slice Q1 x1 y1) (.slice Q2 x2 y2) (.slice Q3 x3 y3) (.slice Q4 x4 y4) = .agg [.int .i64 O.kind, .slice Q1 x1 y1, .slice Q2 x2 y2, .slice Q3 x3 y3, .slice Q4 x4 y4, .int .i64 O.next, .int .u64 O.epoch, .int .i64 O.root, .int .i64 O.depth, .int .i64 O.count, .int .i64 O.high].toArray := rfl
    rw [hvv]
    clear hvv
    have HQ := hid_ hQ
    clear hQ
    go_upto_region 15 with (fail)
    have hbx := Bx.new w8 28 [.int .i64 O.kind, .slice Q1 x1 y1, .slice Q2 x2 y2, .slice Q3 x3 y3, .slice Q4 x4 y4, .int .i64 O.next, .int .u64 O.epoch, .int .i64 O.root, .int .i64 O.depth, .int .i64 O.count, .int .i64 O.high]
    have hb := (Bel.refl w8).alloc (.cells [.int .i64 O.kind, .slice Q1 x1 y1, .slice Q2 x2 y2, .slice Q3 x3 y3, .slice Q4 x4 y4, .int .i64 O.next, .int .u64 O.epoch, .int .i64 O.root, .int .i64 O.depth, .int .i64 O.count, .int .i64 O.high].toArray 28)
    generalize w8.alloc _ = Wa at hbx hb ⊢
    generalize w8.heap.size = ga at hbx ⊢
    have HRA := hid_ (HRA.out.bel hb)
    have HRB := hid_ (HRB.out.bel hb)
    have R9 := hid_ (R9.out.bel hb)
    have BO := hid_ (BO.out.bel hb)
    have BP := hid_ (BP.out.bel hb)
    have HO := hid_ (HO.out.bel hb)
    have HP := hid_ (HP.out.bel hb)
    have HQ := hid_ (HQ.out.bel hb)
    have HB := hid_ (HB.out.trans hb)
    clear hb
    have HBXa := hid_ hbx
    clear hbx
    have yy0 := HBXa.out.cell 0 rfl
    have yy1 := HBXa.out.cell 1 rfl
    have yy2 := HBXa.out.cell 2 rfl
    have yy3 := HBXa.out.cell 3 rfl
    have yy4 := HBXa.out.cell 4 rfl
    have yy5 := HBXa.out.cell 5 rfl
    have yy6 := HBXa.out.cell 6 rfl
    have yy7 := HBXa.out.cell 7 rfl
    have yy8 := HBXa.out.cell 8 rfl
    have yy9 := HBXa.out.cell 9 rfl
    have yy10 := HBXa.out.cell 10 rfl
    have c0 := BO.out.cell 0 rfl
    have c1 := BO.out.cell 1 rfl
    have c2 := BO.out.cell 2 rfl
    have c3 := BO.out.cell 3 rfl
    have c4 := BO.out.cell 4 rfl
    have c5 := BO.out.cell 5 rfl
    have c6 := BO.out.cell 6 rfl
    have c7 := BO.out.cell 7 rfl
    have c8 := BO.out.cell 8 rfl
    have c9 := BO.out.cell 9 rfl
    have c10 := BO.out.cell 10 rfl
    have z0 := BP.out.cell 0 rfl
    have z1 := BP.out.cell 1 rfl
    have z2 := BP.out.cell 2 rfl
    have z3 := BP.out.cell 3 rfl
    have z4 := BP.out.cell 4 rfl
    have z5 := BP.out.cell 5 rfl
    have z6 := BP.out.cell 6 rfl
    have z7 := BP.out.cell 7 rfl
    have z8 := BP.out.cell 8 rfl
    have z9 := BP.out.cell 9 rfl
    have z10 := BP.out.cell 10 rfl
    have s1 := run_str (c := cT) R9.out
    have s2 := run_str (c := 1024) HRA.out
    have q1 : ((strOfNums T).toList == (strOfNums (encP s O)).toList) = true := by
      rw [strEq HF.out.byt HF.out.abyt]
      exact decide_eq_true HTT.out
    go_wp2_with fail
    refine (same_any O O Q1 Q2 Q3 Q4 x1 y1 x2 y2 x3 y3 x4 y4 A B C D n c m d k e l f _ HQ.out HO.out).mono ?_
    rintro e9 w9 ⟨rfl, hb⟩
    rw [decide_eq_true (rfl : O = O)]
    clear c0 c1 c2 c3 c4 c5 c6 c7 c8 c9 c10
    clear z0 z1 z2 z3 z4 z5 z6 z7 z8 z9 z10
    clear yy0 yy1 yy2 yy3 yy4 yy5 yy6 yy7 yy8 yy9 yy10
    clear s1 s2 q1
    have R9 := hid_ (R9.out.bel hb)
    have HRB := hid_ (HRB.out.bel hb)
    have HB := hid_ (HB.out.trans hb)
    clear hb
    have s1 := run_str (c := cT) R9.out
    have s3 := run_str (c := 1024) HRB.out
    have q2 : ((strOfNums T).toList == (strOfNums (encP s P)).toList) = false := by
      rw [strEq HF.out.byt HF.out.pbyt]
      exact decide_eq_false (fun h => HF.out.ne (by rw [← h]; exact HTT.out.symm))
    go_wp2
    go_ret
    exact ⟨rfl, HB.out⟩
  · replace hqe := hqe.symm
    subst hqe
    have HTT := hid_ hTT
    clear hTT hq
    obtain ⟨Q1, x1, y1, Q2, x2, y2, Q3, x3, y3, Q4, x4, y4, rfl, v1, v2, v3, v4, hQ⟩ := hIn
    have hvv : pgV P (.slice Q1 x1 y1) (.slice Q2 x2 y2) (.slice Q3 x3 y3) (.slice Q4 x4 y4) = .agg [.int .i64 P.kind, .slice Q1 x1 y1, .slice Q2 x2 y2, .slice Q3 x3 y3, .slice Q4 x4 y4, .int .i64 P.next, .int .u64 P.epoch, .int .i64 P.root, .int .i64 P.depth, .int .i64 P.count, .int .i64 P.high].toArray := rfl
    rw [hvv]
    clear hvv
    have HQ := hid_ hQ
    clear hQ
    go_upto_region 15 with (fail)
    have hbx := Bx.new w8 28 [.int .i64 P.kind, .slice Q1 x1 y1, .slice Q2 x2 y2, .slice Q3 x3 y3, .slice Q4 x4 y4, .int .i64 P.next, .int .u64 P.epoch, .int .i64 P.root, .int .i64 P.depth, .int .i64 P.count, .int .i64 P.high]
    have hb := (Bel.refl w8).alloc (.cells [.int .i64 P.kind, .slice Q1 x1 y1, .slice Q2 x2 y2, .slice Q3 x3 y3, .slice Q4 x4 y4, .int .i64 P.next, .int .u64 P.epoch, .int .i64 P.root, .int .i64 P.depth, .int .i64 P.count, .int .i64 P.high].toArray 28)
    generalize w8.alloc _ = Wa at hbx hb ⊢
    generalize w8.heap.size = ga at hbx ⊢
    have HRA := hid_ (HRA.out.bel hb)
    have HRB := hid_ (HRB.out.bel hb)
    have R9 := hid_ (R9.out.bel hb)
    have BO := hid_ (BO.out.bel hb)
    have BP := hid_ (BP.out.bel hb)
    have HO := hid_ (HO.out.bel hb)
    have HP := hid_ (HP.out.bel hb)
    have HQ := hid_ (HQ.out.bel hb)
    have HB := hid_ (HB.out.trans hb)
    clear hb
    have HBXa := hid_ hbx
    clear hbx
    have yy0 := HBXa.out.cell 0 rfl
    have yy1 := HBXa.out.cell 1 rfl
    have yy2 := HBXa.out.cell 2 rfl
    have yy3 := HBXa.out.cell 3 rfl
    have yy4 := HBXa.out.cell 4 rfl
    have yy5 := HBXa.out.cell 5 rfl
    have yy6 := HBXa.out.cell 6 rfl
    have yy7 := HBXa.out.cell 7 rfl
    have yy8 := HBXa.out.cell 8 rfl
    have yy9 := HBXa.out.cell 9 rfl
    have yy10 := HBXa.out.cell 10 rfl
    have c0 := BO.out.cell 0 rfl
    have c1 := BO.out.cell 1 rfl
    have c2 := BO.out.cell 2 rfl
    have c3 := BO.out.cell 3 rfl
    have c4 := BO.out.cell 4 rfl
    have c5 := BO.out.cell 5 rfl
    have c6 := BO.out.cell 6 rfl
    have c7 := BO.out.cell 7 rfl
    have c8 := BO.out.cell 8 rfl
    have c9 := BO.out.cell 9 rfl
    have c10 := BO.out.cell 10 rfl
    have z0 := BP.out.cell 0 rfl
    have z1 := BP.out.cell 1 rfl
    have z2 := BP.out.cell 2 rfl
    have z3 := BP.out.cell 3 rfl
    have z4 := BP.out.cell 4 rfl
    have z5 := BP.out.cell 5 rfl
    have z6 := BP.out.cell 6 rfl
    have z7 := BP.out.cell 7 rfl
    have z8 := BP.out.cell 8 rfl
    have z9 := BP.out.cell 9 rfl
    have z10 := BP.out.cell 10 rfl
    have s1 := run_str (c := cT) R9.out
    have s2 := run_str (c := 1024) HRA.out
    have q1 : ((strOfNums T).toList == (strOfNums (encP s O)).toList) = false := by
      rw [strEq HF.out.byt HF.out.abyt]
      exact decide_eq_false (fun h => HF.out.ne (by rw [← h]; exact HTT.out))
    have s3 := run_str (c := 1024) HRB.out
    have q2 : ((strOfNums T).toList == (strOfNums (encP s P)).toList) = true := by
      rw [strEq HF.out.byt HF.out.pbyt]
      exact decide_eq_true HTT.out
    go_wp2_with fail
    refine (same_any P P Q1 Q2 Q3 Q4 x1 y1 x2 y2 x3 y3 x4 y4 Aa Ba Ca Da na ca ma da ka ea la fa _ HQ.out HP.out).mono ?_
    rintro e9 w9 ⟨rfl, hb⟩
    rw [decide_eq_true (rfl : P = P)]
    clear c0 c1 c2 c3 c4 c5 c6 c7 c8 c9 c10
    clear z0 z1 z2 z3 z4 z5 z6 z7 z8 z9 z10
    clear yy0 yy1 yy2 yy3 yy4 yy5 yy6 yy7 yy8 yy9 yy10
    clear s1 s2 q1 s3 q2
    have R9 := hid_ (R9.out.bel hb)
    have HRB := hid_ (HRB.out.bel hb)
    have HB := hid_ (HB.out.trans hb)
    clear hb
    go_wp2
    go_ret
    exact ⟨rfl, HB.out⟩
end Go.Proofs.Ytcfabnkkkpcelaa
set_option linter.unusedSimpArgs false
set_option linter.unusedVariables false
namespace Go.Proofs.Ytcfabnkkkpcelaa
open Go.RowKit Go.Lib
set_option maxRecDepth 10000 in
set_option maxHeartbeats 8000000 in
theorem tears_dn (w : World) (s : Int) (O : Pg) (A : Option Addr) (n c : Nat) (B : Option Addr) (m d : Nat) (C : Option Addr) (k e : Nat) (D : Option Addr) (l f : Nat) (hO : pageWf w O A n c B m d C k e D l f) (hs1 : n ≤ 4398046511104 ∧ m ≤ 17592186044416 ∧ k ≤ 17592186044416 ∧ l ≤ 17592186044416) (P : Pg) (Aa : Option Addr) (na ca : Nat) (Ba : Option Addr) (ma da : Nat) (Ca : Option Addr) (ka ea : Nat) (Da : Option Addr) (la fa : Nat) (hP : pageWf w P Aa na ca Ba ma da Ca ka ea Da la fa) (hs2 : na ≤ 4398046511104 ∧ ma ≤ 17592186044416 ∧ ka ≤ 17592186044416 ∧ la ≤ 17592186044416) (ct : Int) (hct : i64R ct) (ho : okE s O = true) (hp : okE s P = true) (hk : P.kind = 4) (hok : ¬ O.kind = 4) (hne : ¬ O.epoch = P.epoch) (hn : ct < 0) :
    Calls Try.prog 8 #[.int .i64 s, pgV O (.slice A n c) (.slice B m d) (.slice C k e) (.slice D l f), pgV P (.slice Aa na ca) (.slice Ba ma da) (.slice Ca ka ea) (.slice Da la fa), .int .i64 ct] w fun e w' => e = .returned (.bool true) ∧ Bel w w' := by
  have hwo := hO.2.2.2.2.2.2.2.1
  have hwp := hP.2.2.2.2.2.2.2.1
  obtain ⟨m0, hm, hml⟩ : ∃ m0 : Nat, (wrap64 (-wrap64 (ct + 1))).tmod 1025 = (m0 : Int) ∧ m0 < 1025 := by
    rw [wrap_back hct.1 hn]
    exact tmod_nat _ 1025 (by omega) (by omega)
  obtain ⟨Z, hZ⟩ : ∃ Z, List.replicate 1024 (0 : Int) = Z := ⟨_, rfl⟩
  obtain ⟨T, hT⟩ : ∃ T, tornL Z (encP s P) m0 = T := ⟨_, rfl⟩
  have hne0 : P.epoch ≠ 0 := fun e => hne (by rw [okE_epoch ho hok, e])
  have HF : Hid (TornF s P Z T m0) := hid_ ⟨hT, by rw [← hT]; exact torn_len (by rw [← hZ, List.length_replicate]) (enc_len (here_iff hp).1) (by omega), by rw [← hT]; exact torn_byte (by rw [← hZ]; exact rep_byte) (enc_byte (here_iff hp).1), by rw [← hZ]; exact rep_byte, enc_byte (here_iff hp).1, by rw [← hZ]; exact zero_ne hk, fun h => tear_cut (a := Z) hp hwp (by rw [← hZ, List.length_replicate]) (by omega) (by rw [hT]; exact h), by rw [← hZ, List.length_replicate]⟩
  have HD : Hid (∀ q, decP s T = some q → (T = encP s P ∧ q = P)) := hid_ (fun q h => by rw [← hT, ← hZ] at h ⊢; exact tear_zero hp hk hwp hne0 (by omega) h)
  have HZ := hid_ hZ
  clear hne0 hZ
  have HOO := hid_ ho
  have HPO := hid_ hp
  have HK := hid_ hk
  have HNE := hid_ hne
  have HM := hid_ hm
  have HML := hid_ hml
  have HN := hid_ hn
  clear ho hp hk hne hm hml hn hwo hwp hT hct
  have HOK := hid_ hok
  clear hok
  obtain ⟨_, _, _, _, hO, hwo⟩ := hO
  obtain ⟨_, _, _, _, hP, hwp⟩ := hP
  have HO := hid_ hO
  have HP := hid_ hP
  have HWO := hid_ hwo
  have HWP := hid_ hwp
  have HS1 := hid_ hs1
  have HS2 := hid_ hs2
  clear hO hP hwo hwp hs1 hs2
  unfold pgV pgC
  go_enter Try.func8, Try.ntmps8
  go_upto_region 1 with (fail)
  have bx := (Bx.new w 28 (pgC O (.slice A n c) (.slice B m d) (.slice C k e) (.slice D l f))).alloc (.cells (pgC P (.slice Aa na ca) (.slice Ba ma da) (.slice Ca ka ea) (.slice Da la fa)).toArray 28)
  have bz := Bx.new (w.alloc (.cells (pgC O (.slice A n c) (.slice B m d) (.slice C k e) (.slice D l f)).toArray 28)) 28 (pgC P (.slice Aa na ca) (.slice Ba ma da) (.slice Ca ka ea) (.slice Da la fa))
  have hs := sizeAl w (.cells (pgC O (.slice A n c) (.slice B m d) (.slice C k e) (.slice D l f)).toArray 28)
  have hb := ((Bel.refl w).alloc (.cells (pgC O (.slice A n c) (.slice B m d) (.slice C k e) (.slice D l f)).toArray 28)).alloc (.cells (pgC P (.slice Aa na ca) (.slice Ba ma da) (.slice Ca ka ea) (.slice Da la fa)).toArray 28)
  rw [hs] at bz
  clear hs
  unfold pgC at bx bz hb
  generalize (w.alloc _).alloc _ = W0 at bx bz hb ⊢
  generalize w.heap.size = go at bx bz ⊢
  generalize hz : go + 1 = gp at bz ⊢
  clear hz
  have BO := hid_ bx
  have BP := hid_ bz
  have HB := hid_ hb
  have HO := hid_ (HO.out.bel hb)
  have HP := hid_ (HP.out.bel hb)
  clear bx bz hb
  go_wp2_with fail
  refine (awake_any _).mono ?_
  rintro e0 w1 ⟨rfl, hb⟩
  have HO := hid_ (HO.out.bel hb)
  have HP := hid_ (HP.out.bel hb)
  have BO := hid_ (BO.out.bel hb)
  have BP := hid_ (BP.out.bel hb)
  have HB := hid_ (HB.out.trans hb)
  clear hb
  have c0 := BO.out.cell 0 rfl
  have c1 := BO.out.cell 1 rfl
  have c2 := BO.out.cell 2 rfl
  have c3 := BO.out.cell 3 rfl
  have c4 := BO.out.cell 4 rfl
  have c5 := BO.out.cell 5 rfl
  have c6 := BO.out.cell 6 rfl
  have c7 := BO.out.cell 7 rfl
  have c8 := BO.out.cell 8 rfl
  have c9 := BO.out.cell 9 rfl
  have c10 := BO.out.cell 10 rfl
  go_wp2_with fail
  refine (encode_yes s O A B C D n c m d k e l f _ HO.out HWO.out HS1.out.1 HS1.out.2.1 HS1.out.2.2.1 HS1.out.2.2.2 HOO.out).mono ?_
  rintro e1 w2 ⟨g8, rfl, hR8, hg8, hb⟩
  clear c0 c1 c2 c3 c4 c5 c6 c7 c8 c9 c10
  have HRA := hid_ hR8
  clear hR8 hg8
  have HO := hid_ (HO.out.bel hb)
  have HP := hid_ (HP.out.bel hb)
  have BO := hid_ (BO.out.bel hb)
  have BP := hid_ (BP.out.bel hb)
  have HB := hid_ (HB.out.trans hb)
  clear hb
  have z0 := BP.out.cell 0 rfl
  have z1 := BP.out.cell 1 rfl
  have z2 := BP.out.cell 2 rfl
  have z3 := BP.out.cell 3 rfl
  have z4 := BP.out.cell 4 rfl
  have z5 := BP.out.cell 5 rfl
  have z6 := BP.out.cell 6 rfl
  have z7 := BP.out.cell 7 rfl
  have z8 := BP.out.cell 8 rfl
  have z9 := BP.out.cell 9 rfl
  have z10 := BP.out.cell 10 rfl
  go_wp2_with fail
  refine (encode_yes s P Aa Ba Ca Da na ca ma da ka ea la fa _ HP.out HWP.out HS2.out.1 HS2.out.2.1 HS2.out.2.2.1 HS2.out.2.2.2 HPO.out).mono ?_
  rintro e2 w3 ⟨g9, rfl, hR9, hg9, hb⟩
  clear z0 z1 z2 z3 z4 z5 z6 z7 z8 z9 z10
  have HRB := hid_ hR9
  clear hR9 hg9
  have HRA := hid_ (HRA.out.bel hb)
  have HO := hid_ (HO.out.bel hb)
  have HP := hid_ (HP.out.bel hb)
  have BO := hid_ (BO.out.bel hb)
  have BP := hid_ (BP.out.bel hb)
  have HB := hid_ (HB.out.trans hb)
  clear hb
  have c0 := BO.out.cell 0 rfl
  have c1 := BO.out.cell 1 rfl
  have c2 := BO.out.cell 2 rfl
  have c3 := BO.out.cell 3 rfl
  have c4 := BO.out.cell 4 rfl
  have c5 := BO.out.cell 5 rfl
  have c6 := BO.out.cell 6 rfl
  have c7 := BO.out.cell 7 rfl
  have c8 := BO.out.cell 8 rfl
  have c9 := BO.out.cell 9 rfl
  have c10 := BO.out.cell 10 rfl
  have z0 := BP.out.cell 0 rfl
  have z1 := BP.out.cell 1 rfl
  have z2 := BP.out.cell 2 rfl
  have z3 := BP.out.cell 3 rfl
  have z4 := BP.out.cell 4 rfl
  have z5 := BP.out.cell 5 rfl
  have z6 := BP.out.cell 6 rfl
  have z7 := BP.out.cell 7 rfl
  have z8 := BP.out.cell 8 rfl
  have z9 := BP.out.cell 9 rfl
  have z10 := BP.out.cell 10 rfl
  have r1 : (P.kind != 4) = false := by simp [HK.out]
  have r0 : (O.kind != 4) = true := by simp [HOK.out]
  have r2 : (O.epoch == P.epoch) = false := by simp [HNE.out]
  have hmk : ∀ W : World, (Instr.makeSlice 30 (.int .i64 1024) (.int .i64 1024)).run Try.prog W = .ok (.slice (some ⟨W.heap.size, 0, none⟩) 1024 1024) (W.alloc (.cells (byteV Z).toArray 5)) := fun W => by rw [← HZ.out]; exact mkBytes 1024 (by omega) W
  go_upto_region 8 with (fail)
  have hra := rowZ w3 (Z := Z) (by rw [HF.out.alen]; omega)
  rw [HF.out.alen] at hra
  have hb := (Bel.refl w3).alloc (.cells (byteV Z).toArray 5)
  generalize w3.alloc _ = W4 at hra hb ⊢
  generalize w3.heap.size = g8 at hra ⊢
  have HRA := hid_ hra
  have HRB := hid_ (HRB.out.bel hb)
  clear hra hmk
  clear c0 c1 c2 c3 c4 c5 c6 c7 c8 c9 c10
  clear z0 z1 z2 z3 z4 z5 z6 z7 z8 z9 z10
  have HO := hid_ (HO.out.bel hb)
  have HP := hid_ (HP.out.bel hb)
  have BO := hid_ (BO.out.bel hb)
  have BP := hid_ (BP.out.bel hb)
  have HB := hid_ (HB.out.trans hb)
  clear hb
  have c0 := BO.out.cell 0 rfl
  have c1 := BO.out.cell 1 rfl
  have c2 := BO.out.cell 2 rfl
  have c3 := BO.out.cell 3 rfl
  have c4 := BO.out.cell 4 rfl
  have c5 := BO.out.cell 5 rfl
  have c6 := BO.out.cell 6 rfl
  have c7 := BO.out.cell 7 rfl
  have c8 := BO.out.cell 8 rfl
  have c9 := BO.out.cell 9 rfl
  have c10 := BO.out.cell 10 rfl
  have z0 := BP.out.cell 0 rfl
  have z1 := BP.out.cell 1 rfl
  have z2 := BP.out.cell 2 rfl
  have z3 := BP.out.cell 3 rfl
  have z4 := BP.out.cell 4 rfl
  have z5 := BP.out.cell 5 rfl
  have z6 := BP.out.cell 6 rfl
  have z7 := BP.out.cell 7 rfl
  have z8 := BP.out.cell 8 rfl
  have z9 := BP.out.cell 9 rfl
  have z10 := BP.out.cell 10 rfl
  have hm := HM.out
  have hn := HN.out
  have i0 : (0 : Int) ≤ (m0 : Int) := by omega
  have i1 : (m0 : Int) ≤ 1024 := by have := HML.out; omega
  have i2 : m0 ≤ 1024 := by have := HML.out; omega
  go_upto_region 13 with (fail)
  obtain ⟨W0, hW0⟩ : ∃ W0, W4 = W0 := ⟨_, rfl⟩
  rw [hW0] at HB HRA HRB BO BP HO HP ⊢
  clear hW0 c0 c1 c2 c3 c4 c5 c6 c7 c8 c9 c10 z0 z1 z2 z3 z4 z5 z6 z7 z8 z9 z10 hm hn i0 i1
  obtain ⟨A', hcut, hrow⟩ := byteS.cutFrom (P := Try.prog) .i64 (some ⟨g8, 0, none⟩) 1024 1024 m0 i2 (Nat.le_refl _)
  have hcut2 := fun W => byteS.cutTo (P := Try.prog) .i64 (some ⟨g9, 0, none⟩) 1024 1024 m0 i2 W
  have ra := hid_ (hrow _ _ HRA.out)
  have rt := hid_ (HRB.out.take_ i2)
  have HLD : Hid ((List.drop m0 Z).length = 1024 - m0 ∧ ((encP s P).take m0).length = m0) := hid_ ⟨by rw [List.length_drop, HF.out.alen], by rw [List.length_take, HRB.out.1]; omega⟩
  have hKP : ∀ W, Bel W0 W → (fun W => Bel W0 W) W := fun W b => b
  have HKP := hid_ hKP
  clear hKP hrow
  go_region_held3 (fun W => Bel W0 W) ((refine HKP.out _ ?_; repeat first | with_reducible exact Bel.refl _ | with_reducible exact hb1 | with_reducible exact hb3 | with_reducible apply Bel.drew | with_reducible apply Bel.alloc))
    (first | (refine stepApp (w0 := W0) byteS rfl _ _ rfl _ [] ((encP s P).take m0) (some ⟨g9, 0, none⟩) m0 1024 rfl rfl ((Own.litE (T := byteT) W0 W0.heap.size _ 5 rfl rfl (Nat.le_refl _)).bel (by repeat first | with_reducible exact Bel.refl _ | with_reducible apply Bel.drew | with_reducible apply Bel.alloc)) (rt.out.bel (by repeat first | with_reducible exact Bel.refl _ | with_reducible apply Bel.drew | with_reducible apply Bel.alloc)) (by repeat first | with_reducible exact Bel.refl _ | with_reducible apply Bel.drew | with_reducible apply Bel.alloc) (by have h1 := HLD.out; have h3 := HML.out; simp only [List.length_append, List.length_nil, h1.1, h1.2]; omega) ?_; intro v1 x1 hO1 hb1 hg1 hat1) | (refine stepApp (w0 := W0) byteS rfl _ _ rfl v1 ([] ++ (encP s P).take m0) (List.drop m0 Z) A' (1024 - m0) (1024 - m0) rfl rfl hO1 (ra.out.bel hb1) hb1 (by have h1 := HLD.out; have h3 := HML.out; simp only [List.length_append, List.length_nil, h1.1, h1.2]; omega) ?_; intro v3 x3 hO3 hb3 hg3 hat3))
  have hO3 : Own byteT x3 W0.heap.size v3 (tornL Z (encP s P) m0) := hO3
  rw [HF.out.t] at hO3
  obtain ⟨A9, cT, rfl, hc9, r9⟩ := hO3.readsN' HF.out.len
  have R9 := hid_ r9
  have C9 := hid_ hc9
  have hb := hb3
  have HRA := hid_ (HRA.out.bel hb)
  have HRB := hid_ (HRB.out.bel hb)
  have HO := hid_ (HO.out.bel hb)
  have HP := hid_ (HP.out.bel hb)
  have BO := hid_ (BO.out.bel hb)
  have BP := hid_ (BP.out.bel hb)
  have HB := hid_ (HB.out.trans hb)
  clear hb
  clear hO1 hb1 hg1 hat1 hO3 hb3 hg3 hat3 r9 hc9 HKP ra rt hcut hcut2 HLD i2
  go_wp2_with fail
  refine (decode_any s A9 1024 cT T _ R9.out C9.out HF.out.byt).mono ?_
  rintro e8 w8 hD
  rcases hD with ⟨q, v, hq, rfl, hIn, hb⟩ | ⟨hq, rfl, hb⟩
  case inr =>
    have HB := hid_ (HB.out.trans hb)
    clear hb
    have i3 : (m0 : Int) < 1024 := by have := HF.out.cut hq; omega
    clear hq
    unfold zeroC
    go_upto_region 15 with (fail)
    have hbx := Bx.new w8 28 [.int .i64 0, .slice none 0 0, .slice none 0 0, .slice none 0 0, .slice none 0 0, .int .i64 0, .int .u64 0, .int .i64 0, .int .i64 0, .int .i64 0, .int .i64 0]
    have hb := (Bel.refl w8).alloc (.cells [.int .i64 0, .slice none 0 0, .slice none 0 0, .slice none 0 0, .slice none 0 0, .int .i64 0, .int .u64 0, .int .i64 0, .int .i64 0, .int .i64 0, .int .i64 0].toArray 28)
    generalize w8.alloc _ = Wa at hbx hb ⊢
    generalize w8.heap.size = ga at hbx ⊢
    have HB := hid_ (HB.out.trans hb)
    clear hb
    have HBXa := hid_ hbx
    clear hbx
    have yy0 := HBXa.out.cell 0 rfl
    have yy1 := HBXa.out.cell 1 rfl
    have yy2 := HBXa.out.cell 2 rfl
    have yy3 := HBXa.out.cell 3 rfl
    have yy4 := HBXa.out.cell 4 rfl
    have yy5 := HBXa.out.cell 5 rfl
    have yy6 := HBXa.out.cell 6 rfl
    have yy7 := HBXa.out.cell 7 rfl
    have yy8 := HBXa.out.cell 8 rfl
    have yy9 := HBXa.out.cell 9 rfl
    have yy10 := HBXa.out.cell 10 rfl
    go_wp2
    go_ret
    exact ⟨rfl, HB.out⟩
  have HRA := hid_ (HRA.out.bel hb)
  have HRB := hid_ (HRB.out.bel hb)
  have R9 := hid_ (R9.out.bel hb)
  have BO := hid_ (BO.out.bel hb)
  have BP := hid_ (BP.out.bel hb)
  have HO := hid_ (HO.out.bel hb)
  have HP := hid_ (HP.out.bel hb)
  have HB := hid_ (HB.out.trans hb)
  clear hb
  obtain ⟨hTT, hqe⟩ := HD.out q hq
  replace hqe := hqe.symm
  subst hqe
  have HTT := hid_ hTT
  clear hTT hq
  obtain ⟨Q1, x1, y1, Q2, x2, y2, Q3, x3, y3, Q4, x4, y4, rfl, v1, v2, v3, v4, hQ⟩ := hIn
  have hvv : pgV P (.slice Q1 x1 y1) (.slice Q2 x2 y2) (.slice Q3 x3 y3) (.slice Q4 x4 y4) = .agg [.int .i64 P.kind, .slice Q1 x1 y1, .slice Q2 x2 y2, .slice Q3 x3 y3, .slice Q4 x4 y4, .int .i64 P.next, .int .u64 P.epoch, .int .i64 P.root, .int .i64 P.depth, .int .i64 P.count, .int .i64 P.high].toArray := rfl
  rw [hvv]
  clear hvv
  have HQ := hid_ hQ
  clear hQ
  go_upto_region 15 with (fail)
  have hbx := Bx.new w8 28 [.int .i64 P.kind, .slice Q1 x1 y1, .slice Q2 x2 y2, .slice Q3 x3 y3, .slice Q4 x4 y4, .int .i64 P.next, .int .u64 P.epoch, .int .i64 P.root, .int .i64 P.depth, .int .i64 P.count, .int .i64 P.high]
  have hb := (Bel.refl w8).alloc (.cells [.int .i64 P.kind, .slice Q1 x1 y1, .slice Q2 x2 y2, .slice Q3 x3 y3, .slice Q4 x4 y4, .int .i64 P.next, .int .u64 P.epoch, .int .i64 P.root, .int .i64 P.depth, .int .i64 P.count, .int .i64 P.high].toArray 28)
  generalize w8.alloc _ = Wa at hbx hb ⊢
  generalize w8.heap.size = ga at hbx ⊢
  have HRA := hid_ (HRA.out.bel hb)
  have HRB := hid_ (HRB.out.bel hb)
  have R9 := hid_ (R9.out.bel hb)
  have BO := hid_ (BO.out.bel hb)
  have BP := hid_ (BP.out.bel hb)
  have HO := hid_ (HO.out.bel hb)
  have HP := hid_ (HP.out.bel hb)
  have HQ := hid_ (HQ.out.bel hb)
  have HB := hid_ (HB.out.trans hb)
  clear hb
  have HBXa := hid_ hbx
  clear hbx
  have yy0 := HBXa.out.cell 0 rfl
  have yy1 := HBXa.out.cell 1 rfl
  have yy2 := HBXa.out.cell 2 rfl
  have yy3 := HBXa.out.cell 3 rfl
  have yy4 := HBXa.out.cell 4 rfl
  have yy5 := HBXa.out.cell 5 rfl
  have yy6 := HBXa.out.cell 6 rfl
  have yy7 := HBXa.out.cell 7 rfl
  have yy8 := HBXa.out.cell 8 rfl
  have yy9 := HBXa.out.cell 9 rfl
  have yy10 := HBXa.out.cell 10 rfl
  have c0 := BO.out.cell 0 rfl
  have c1 := BO.out.cell 1 rfl
  have c2 := BO.out.cell 2 rfl
  have c3 := BO.out.cell 3 rfl
  have c4 := BO.out.cell 4 rfl
  have c5 := BO.out.cell 5 rfl
  have c6 := BO.out.cell 6 rfl
  have c7 := BO.out.cell 7 rfl
  have c8 := BO.out.cell 8 rfl
  have c9 := BO.out.cell 9 rfl
  have c10 := BO.out.cell 10 rfl
  have z0 := BP.out.cell 0 rfl
  have z1 := BP.out.cell 1 rfl
  have z2 := BP.out.cell 2 rfl
  have z3 := BP.out.cell 3 rfl
  have z4 := BP.out.cell 4 rfl
  have z5 := BP.out.cell 5 rfl
  have z6 := BP.out.cell 6 rfl
  have z7 := BP.out.cell 7 rfl
  have z8 := BP.out.cell 8 rfl
  have z9 := BP.out.cell 9 rfl
  have z10 := BP.out.cell 10 rfl
  have s1 := run_str (c := cT) R9.out
  have s2 := run_str (c := 1024) HRA.out
  have q1 : ((strOfNums T).toList == (strOfNums Z).toList) = false := by
    rw [strEq HF.out.byt HF.out.abyt]
    exact decide_eq_false (fun h => HF.out.ne (by rw [← h]; exact HTT.out))
  have s3 := run_str (c := 1024) HRB.out
  have q2 : ((strOfNums T).toList == (strOfNums (encP s P)).toList) = true := by
    rw [strEq HF.out.byt HF.out.pbyt]
    exact decide_eq_true HTT.out
  go_wp2_with fail
  refine (same_any P P Q1 Q2 Q3 Q4 x1 y1 x2 y2 x3 y3 x4 y4 Aa Ba Ca Da na ca ma da ka ea la fa _ HQ.out HP.out).mono ?_
  rintro e9 w9 ⟨rfl, hb⟩
  rw [decide_eq_true (rfl : P = P)]
  clear c0 c1 c2 c3 c4 c5 c6 c7 c8 c9 c10
  clear z0 z1 z2 z3 z4 z5 z6 z7 z8 z9 z10
  clear yy0 yy1 yy2 yy3 yy4 yy5 yy6 yy7 yy8 yy9 yy10
  clear s1 s2 q1 s3 q2
  have R9 := hid_ (R9.out.bel hb)
  have HRB := hid_ (HRB.out.bel hb)
  have HB := hid_ (HB.out.trans hb)
  clear hb
  go_wp2
  go_ret
  exact ⟨rfl, HB.out⟩
set_option maxRecDepth 10000 in
set_option maxHeartbeats 8000000 in
theorem tears_dp (w : World) (s : Int) (O : Pg) (A : Option Addr) (n c : Nat) (B : Option Addr) (m d : Nat) (C : Option Addr) (k e : Nat) (D : Option Addr) (l f : Nat) (hO : pageWf w O A n c B m d C k e D l f) (hs1 : n ≤ 4398046511104 ∧ m ≤ 17592186044416 ∧ k ≤ 17592186044416 ∧ l ≤ 17592186044416) (P : Pg) (Aa : Option Addr) (na ca : Nat) (Ba : Option Addr) (ma da : Nat) (Ca : Option Addr) (ka ea : Nat) (Da : Option Addr) (la fa : Nat) (hP : pageWf w P Aa na ca Ba ma da Ca ka ea Da la fa) (hs2 : na ≤ 4398046511104 ∧ ma ≤ 17592186044416 ∧ ka ≤ 17592186044416 ∧ la ≤ 17592186044416) (ct : Int) (hct : i64R ct) (ho : okE s O = true) (hp : okE s P = true) (hk : P.kind = 4) (hok : ¬ O.kind = 4) (hne : ¬ O.epoch = P.epoch) (hn : ¬ ct < 0) :
    Calls Try.prog 8 #[.int .i64 s, pgV O (.slice A n c) (.slice B m d) (.slice C k e) (.slice D l f), pgV P (.slice Aa na ca) (.slice Ba ma da) (.slice Ca ka ea) (.slice Da la fa), .int .i64 ct] w fun e w' => e = .returned (.bool true) ∧ Bel w w' := by
  have hwo := hO.2.2.2.2.2.2.2.1
  have hwp := hP.2.2.2.2.2.2.2.1
  obtain ⟨m0, hm, hml⟩ : ∃ m0 : Nat, (ct).tmod 1025 = (m0 : Int) ∧ m0 < 1025 := by
    exact tmod_nat _ 1025 (by omega) (by omega)
  obtain ⟨Z, hZ⟩ : ∃ Z, List.replicate 1024 (0 : Int) = Z := ⟨_, rfl⟩
  obtain ⟨T, hT⟩ : ∃ T, tornL Z (encP s P) m0 = T := ⟨_, rfl⟩
  have hne0 : P.epoch ≠ 0 := fun e => hne (by rw [okE_epoch ho hok, e])
  have HF : Hid (TornF s P Z T m0) := hid_ ⟨hT, by rw [← hT]; exact torn_len (by rw [← hZ, List.length_replicate]) (enc_len (here_iff hp).1) (by omega), by rw [← hT]; exact torn_byte (by rw [← hZ]; exact rep_byte) (enc_byte (here_iff hp).1), by rw [← hZ]; exact rep_byte, enc_byte (here_iff hp).1, by rw [← hZ]; exact zero_ne hk, fun h => tear_cut (a := Z) hp hwp (by rw [← hZ, List.length_replicate]) (by omega) (by rw [hT]; exact h), by rw [← hZ, List.length_replicate]⟩
  have HD : Hid (∀ q, decP s T = some q → (T = encP s P ∧ q = P)) := hid_ (fun q h => by rw [← hT, ← hZ] at h ⊢; exact tear_zero hp hk hwp hne0 (by omega) h)
  have HZ := hid_ hZ
  clear hne0 hZ
  have HOO := hid_ ho
  have HPO := hid_ hp
  have HK := hid_ hk
  have HNE := hid_ hne
  have HM := hid_ hm
  have HML := hid_ hml
  have HN := hid_ hn
  clear ho hp hk hne hm hml hn hwo hwp hT hct
  have HOK := hid_ hok
  clear hok
  obtain ⟨_, _, _, _, hO, hwo⟩ := hO
  obtain ⟨_, _, _, _, hP, hwp⟩ := hP
  have HO := hid_ hO
  have HP := hid_ hP
  have HWO := hid_ hwo
  have HWP := hid_ hwp
  have HS1 := hid_ hs1
  have HS2 := hid_ hs2
  clear hO hP hwo hwp hs1 hs2
  unfold pgV pgC
  go_enter Try.func8, Try.ntmps8
  go_upto_region 1 with (fail)
  have bx := (Bx.new w 28 (pgC O (.slice A n c) (.slice B m d) (.slice C k e) (.slice D l f))).alloc (.cells (pgC P (.slice Aa na ca) (.slice Ba ma da) (.slice Ca ka ea) (.slice Da la fa)).toArray 28)
  have bz := Bx.new (w.alloc (.cells (pgC O (.slice A n c) (.slice B m d) (.slice C k e) (.slice D l f)).toArray 28)) 28 (pgC P (.slice Aa na ca) (.slice Ba ma da) (.slice Ca ka ea) (.slice Da la fa))
  have hs := sizeAl w (.cells (pgC O (.slice A n c) (.slice B m d) (.slice C k e) (.slice D l f)).toArray 28)
  have hb := ((Bel.refl w).alloc (.cells (pgC O (.slice A n c) (.slice B m d) (.slice C k e) (.slice D l f)).toArray 28)).alloc (.cells (pgC P (.slice Aa na ca) (.slice Ba ma da) (.slice Ca ka ea) (.slice Da la fa)).toArray 28)
  rw [hs] at bz
  clear hs
  unfold pgC at bx bz hb
  generalize (w.alloc _).alloc _ = W0 at bx bz hb ⊢
  generalize w.heap.size = go at bx bz ⊢
  generalize hz : go + 1 = gp at bz ⊢
  clear hz
  have BO := hid_ bx
  have BP := hid_ bz
  have HB := hid_ hb
  have HO := hid_ (HO.out.bel hb)
  have HP := hid_ (HP.out.bel hb)
  clear bx bz hb
  go_wp2_with fail
  refine (awake_any _).mono ?_
  rintro e0 w1 ⟨rfl, hb⟩
  have HO := hid_ (HO.out.bel hb)
  have HP := hid_ (HP.out.bel hb)
  have BO := hid_ (BO.out.bel hb)
  have BP := hid_ (BP.out.bel hb)
  have HB := hid_ (HB.out.trans hb)
  clear hb
  have c0 := BO.out.cell 0 rfl
  have c1 := BO.out.cell 1 rfl
  have c2 := BO.out.cell 2 rfl
  have c3 := BO.out.cell 3 rfl
  have c4 := BO.out.cell 4 rfl
  have c5 := BO.out.cell 5 rfl
  have c6 := BO.out.cell 6 rfl
  have c7 := BO.out.cell 7 rfl
  have c8 := BO.out.cell 8 rfl
  have c9 := BO.out.cell 9 rfl
  have c10 := BO.out.cell 10 rfl
  go_wp2_with fail
  refine (encode_yes s O A B C D n c m d k e l f _ HO.out HWO.out HS1.out.1 HS1.out.2.1 HS1.out.2.2.1 HS1.out.2.2.2 HOO.out).mono ?_
  rintro e1 w2 ⟨g8, rfl, hR8, hg8, hb⟩
  clear c0 c1 c2 c3 c4 c5 c6 c7 c8 c9 c10
  have HRA := hid_ hR8
  clear hR8 hg8
  have HO := hid_ (HO.out.bel hb)
  have HP := hid_ (HP.out.bel hb)
  have BO := hid_ (BO.out.bel hb)
  have BP := hid_ (BP.out.bel hb)
  have HB := hid_ (HB.out.trans hb)
  clear hb
  have z0 := BP.out.cell 0 rfl
  have z1 := BP.out.cell 1 rfl
  have z2 := BP.out.cell 2 rfl
  have z3 := BP.out.cell 3 rfl
  have z4 := BP.out.cell 4 rfl
  have z5 := BP.out.cell 5 rfl
  have z6 := BP.out.cell 6 rfl
  have z7 := BP.out.cell 7 rfl
  have z8 := BP.out.cell 8 rfl
  have z9 := BP.out.cell 9 rfl
  have z10 := BP.out.cell 10 rfl
  go_wp2_with fail
  refine (encode_yes s P Aa Ba Ca Da na ca ma da ka ea la fa _ HP.out HWP.out HS2.out.1 HS2.out.2.1 HS2.out.2.2.1 HS2.out.2.2.2 HPO.out).mono ?_
  rintro e2 w3 ⟨g9, rfl, hR9, hg9, hb⟩
  clear z0 z1 z2 z3 z4 z5 z6 z7 z8 z9 z10
  have HRB := hid_ hR9
  clear hR9 hg9
  have HRA := hid_ (HRA.out.bel hb)
  have HO := hid_ (HO.out.bel hb)
  have HP := hid_ (HP.out.bel hb)
  have BO := hid_ (BO.out.bel hb)
  have BP := hid_ (BP.out.bel hb)
  have HB := hid_ (HB.out.trans hb)
  clear hb
  have c0 := BO.out.cell 0 rfl
  have c1 := BO.out.cell 1 rfl
  have c2 := BO.out.cell 2 rfl
  have c3 := BO.out.cell 3 rfl
  have c4 := BO.out.cell 4 rfl
  have c5 := BO.out.cell 5 rfl
  have c6 := BO.out.cell 6 rfl
  have c7 := BO.out.cell 7 rfl
  have c8 := BO.out.cell 8 rfl
  have c9 := BO.out.cell 9 rfl
  have c10 := BO.out.cell 10 rfl
  have z0 := BP.out.cell 0 rfl
  have z1 := BP.out.cell 1 rfl
  have z2 := BP.out.cell 2 rfl
  have z3 := BP.out.cell 3 rfl
  have z4 := BP.out.cell 4 rfl
  have z5 := BP.out.cell 5 rfl
  have z6 := BP.out.cell 6 rfl
  have z7 := BP.out.cell 7 rfl
  have z8 := BP.out.cell 8 rfl
  have z9 := BP.out.cell 9 rfl
  have z10 := BP.out.cell 10 rfl
  have r1 : (P.kind != 4) = false := by simp [HK.out]
  have r0 : (O.kind != 4) = true := by simp [HOK.out]
  have r2 : (O.epoch == P.epoch) = false := by simp [HNE.out]
  have hmk : ∀ W : World, (Instr.makeSlice 30 (.int .i64 1024) (.int .i64 1024)).run Try.prog W = .ok (.slice (some ⟨W.heap.size, 0, none⟩) 1024 1024) (W.alloc (.cells (byteV Z).toArray 5)) := fun W => by rw [← HZ.out]; exact mkBytes 1024 (by omega) W
  go_upto_region 8 with (fail)
  have hra := rowZ w3 (Z := Z) (by rw [HF.out.alen]; omega)
  rw [HF.out.alen] at hra
  have hb := (Bel.refl w3).alloc (.cells (byteV Z).toArray 5)
  generalize w3.alloc _ = W4 at hra hb ⊢
  generalize w3.heap.size = g8 at hra ⊢
  have HRA := hid_ hra
  have HRB := hid_ (HRB.out.bel hb)
  clear hra hmk
  clear c0 c1 c2 c3 c4 c5 c6 c7 c8 c9 c10
  clear z0 z1 z2 z3 z4 z5 z6 z7 z8 z9 z10
  have HO := hid_ (HO.out.bel hb)
  have HP := hid_ (HP.out.bel hb)
  have BO := hid_ (BO.out.bel hb)
  have BP := hid_ (BP.out.bel hb)
  have HB := hid_ (HB.out.trans hb)
  clear hb
  have c0 := BO.out.cell 0 rfl
  have c1 := BO.out.cell 1 rfl
  have c2 := BO.out.cell 2 rfl
  have c3 := BO.out.cell 3 rfl
  have c4 := BO.out.cell 4 rfl
  have c5 := BO.out.cell 5 rfl
  have c6 := BO.out.cell 6 rfl
  have c7 := BO.out.cell 7 rfl
  have c8 := BO.out.cell 8 rfl
  have c9 := BO.out.cell 9 rfl
  have c10 := BO.out.cell 10 rfl
  have z0 := BP.out.cell 0 rfl
  have z1 := BP.out.cell 1 rfl
  have z2 := BP.out.cell 2 rfl
  have z3 := BP.out.cell 3 rfl
  have z4 := BP.out.cell 4 rfl
  have z5 := BP.out.cell 5 rfl
  have z6 := BP.out.cell 6 rfl
  have z7 := BP.out.cell 7 rfl
  have z8 := BP.out.cell 8 rfl
  have z9 := BP.out.cell 9 rfl
  have z10 := BP.out.cell 10 rfl
  have hm := HM.out
  have hn := HN.out
  have i0 : (0 : Int) ≤ (m0 : Int) := by omega
  have i1 : (m0 : Int) ≤ 1024 := by have := HML.out; omega
  have i2 : m0 ≤ 1024 := by have := HML.out; omega
  go_upto_region 13 with (fail)
  obtain ⟨W0, hW0⟩ : ∃ W0, W4 = W0 := ⟨_, rfl⟩
  rw [hW0] at HB HRA HRB BO BP HO HP ⊢
  clear hW0 c0 c1 c2 c3 c4 c5 c6 c7 c8 c9 c10 z0 z1 z2 z3 z4 z5 z6 z7 z8 z9 z10 hm hn i0 i1
  obtain ⟨A', hcut, hrow⟩ := byteS.cutFrom (P := Try.prog) .i64 (some ⟨g8, 0, none⟩) 1024 1024 m0 i2 (Nat.le_refl _)
  have hcut2 := fun W => byteS.cutTo (P := Try.prog) .i64 (some ⟨g9, 0, none⟩) 1024 1024 m0 i2 W
  have ra := hid_ (hrow _ _ HRA.out)
  have rt := hid_ (HRB.out.take_ i2)
  have HLD : Hid ((List.drop m0 Z).length = 1024 - m0 ∧ ((encP s P).take m0).length = m0) := hid_ ⟨by rw [List.length_drop, HF.out.alen], by rw [List.length_take, HRB.out.1]; omega⟩
  have hKP : ∀ W, Bel W0 W → (fun W => Bel W0 W) W := fun W b => b
  have HKP := hid_ hKP
  clear hKP hrow
  go_region_held3 (fun W => Bel W0 W) ((refine HKP.out _ ?_; repeat first | with_reducible exact Bel.refl _ | with_reducible exact hb1 | with_reducible exact hb3 | with_reducible apply Bel.drew | with_reducible apply Bel.alloc))
    (first | (refine stepApp (w0 := W0) byteS rfl _ _ rfl _ [] ((encP s P).take m0) (some ⟨g9, 0, none⟩) m0 1024 rfl rfl ((Own.litE (T := byteT) W0 W0.heap.size _ 5 rfl rfl (Nat.le_refl _)).bel (by repeat first | with_reducible exact Bel.refl _ | with_reducible apply Bel.drew | with_reducible apply Bel.alloc)) (rt.out.bel (by repeat first | with_reducible exact Bel.refl _ | with_reducible apply Bel.drew | with_reducible apply Bel.alloc)) (by repeat first | with_reducible exact Bel.refl _ | with_reducible apply Bel.drew | with_reducible apply Bel.alloc) (by have h1 := HLD.out; have h3 := HML.out; simp only [List.length_append, List.length_nil, h1.1, h1.2]; omega) ?_; intro v1 x1 hO1 hb1 hg1 hat1) | (refine stepApp (w0 := W0) byteS rfl _ _ rfl v1 ([] ++ (encP s P).take m0) (List.drop m0 Z) A' (1024 - m0) (1024 - m0) rfl rfl hO1 (ra.out.bel hb1) hb1 (by have h1 := HLD.out; have h3 := HML.out; simp only [List.length_append, List.length_nil, h1.1, h1.2]; omega) ?_; intro v3 x3 hO3 hb3 hg3 hat3))
  have hO3 : Own byteT x3 W0.heap.size v3 (tornL Z (encP s P) m0) := hO3
  rw [HF.out.t] at hO3
  obtain ⟨A9, cT, rfl, hc9, r9⟩ := hO3.readsN' HF.out.len
  have R9 := hid_ r9
  have C9 := hid_ hc9
  have hb := hb3
  have HRA := hid_ (HRA.out.bel hb)
  have HRB := hid_ (HRB.out.bel hb)
  have HO := hid_ (HO.out.bel hb)
  have HP := hid_ (HP.out.bel hb)
  have BO := hid_ (BO.out.bel hb)
  have BP := hid_ (BP.out.bel hb)
  have HB := hid_ (HB.out.trans hb)
  clear hb
  clear hO1 hb1 hg1 hat1 hO3 hb3 hg3 hat3 r9 hc9 HKP ra rt hcut hcut2 HLD i2
  go_wp2_with fail
  refine (decode_any s A9 1024 cT T _ R9.out C9.out HF.out.byt).mono ?_
  rintro e8 w8 hD
  rcases hD with ⟨q, v, hq, rfl, hIn, hb⟩ | ⟨hq, rfl, hb⟩
  case inr =>
    have HB := hid_ (HB.out.trans hb)
    clear hb
    have i3 : (m0 : Int) < 1024 := by have := HF.out.cut hq; omega
    clear hq
    unfold zeroC
    go_upto_region 15 with (fail)
    have hbx := Bx.new w8 28 [.int .i64 0, .slice none 0 0, .slice none 0 0, .slice none 0 0, .slice none 0 0, .int .i64 0, .int .u64 0, .int .i64 0, .int .i64 0, .int .i64 0, .int .i64 0]
    have hb := (Bel.refl w8).alloc (.cells [.int .i64 0, .slice none 0 0, .slice none 0 0, .slice none 0 0, .slice none 0 0, .int .i64 0, .int .u64 0, .int .i64 0, .int .i64 0, .int .i64 0, .int .i64 0].toArray 28)
    generalize w8.alloc _ = Wa at hbx hb ⊢
    generalize w8.heap.size = ga at hbx ⊢
    have HB := hid_ (HB.out.trans hb)
    clear hb
    have HBXa := hid_ hbx
    clear hbx
    have yy0 := HBXa.out.cell 0 rfl
    have yy1 := HBXa.out.cell 1 rfl
    have yy2 := HBXa.out.cell 2 rfl
    have yy3 := HBXa.out.cell 3 rfl
    have yy4 := HBXa.out.cell 4 rfl
    have yy5 := HBXa.out.cell 5 rfl
    have yy6 := HBXa.out.cell 6 rfl
    have yy7 := HBXa.out.cell 7 rfl
    have yy8 := HBXa.out.cell 8 rfl
    have yy9 := HBXa.out.cell 9 rfl
    have yy10 := HBXa.out.cell 10 rfl
    go_wp2
    go_ret
    exact ⟨rfl, HB.out⟩
  have HRA := hid_ (HRA.out.bel hb)
  have HRB := hid_ (HRB.out.bel hb)
  have R9 := hid_ (R9.out.bel hb)
  have BO := hid_ (BO.out.bel hb)
  have BP := hid_ (BP.out.bel hb)
  have HO := hid_ (HO.out.bel hb)
  have HP := hid_ (HP.out.bel hb)
  have HB := hid_ (HB.out.trans hb)
  clear hb
  obtain ⟨hTT, hqe⟩ := HD.out q hq
  replace hqe := hqe.symm
  subst hqe
  have HTT := hid_ hTT
  clear hTT hq
  obtain ⟨Q1, x1, y1, Q2, x2, y2, Q3, x3, y3, Q4, x4, y4, rfl, v1, v2, v3, v4, hQ⟩ := hIn
  have hvv : pgV P (.slice Q1 x1 y1) (.slice Q2 x2 y2) (.slice Q3 x3 y3) (.slice Q4 x4 y4) = .agg [.int .i64 P.kind, .slice Q1 x1 y1, .slice Q2 x2 y2, .slice Q3 x3 y3, .slice Q4 x4 y4, .int .i64 P.next, .int .u64 P.epoch, .int .i64 P.root, .int .i64 P.depth, .int .i64 P.count, .int .i64 P.high].toArray := rfl
  rw [hvv]
  clear hvv
  have HQ := hid_ hQ
  clear hQ
  go_upto_region 15 with (fail)
  have hbx := Bx.new w8 28 [.int .i64 P.kind, .slice Q1 x1 y1, .slice Q2 x2 y2, .slice Q3 x3 y3, .slice Q4 x4 y4, .int .i64 P.next, .int .u64 P.epoch, .int .i64 P.root, .int .i64 P.depth, .int .i64 P.count, .int .i64 P.high]
  have hb := (Bel.refl w8).alloc (.cells [.int .i64 P.kind, .slice Q1 x1 y1, .slice Q2 x2 y2, .slice Q3 x3 y3, .slice Q4 x4 y4, .int .i64 P.next, .int .u64 P.epoch, .int .i64 P.root, .int .i64 P.depth, .int .i64 P.count, .int .i64 P.high].toArray 28)
  generalize w8.alloc _ = Wa at hbx hb ⊢
  generalize w8.heap.size = ga at hbx ⊢
  have HRA := hid_ (HRA.out.bel hb)
  have HRB := hid_ (HRB.out.bel hb)
  have R9 := hid_ (R9.out.bel hb)
  have BO := hid_ (BO.out.bel hb)
  have BP := hid_ (BP.out.bel hb)
  have HO := hid_ (HO.out.bel hb)
  have HP := hid_ (HP.out.bel hb)
  have HQ := hid_ (HQ.out.bel hb)
  have HB := hid_ (HB.out.trans hb)
  clear hb
  have HBXa := hid_ hbx
  clear hbx
  have yy0 := HBXa.out.cell 0 rfl
  have yy1 := HBXa.out.cell 1 rfl
  have yy2 := HBXa.out.cell 2 rfl
  have yy3 := HBXa.out.cell 3 rfl
  have yy4 := HBXa.out.cell 4 rfl
  have yy5 := HBXa.out.cell 5 rfl
  have yy6 := HBXa.out.cell 6 rfl
  have yy7 := HBXa.out.cell 7 rfl
  have yy8 := HBXa.out.cell 8 rfl
  have yy9 := HBXa.out.cell 9 rfl
  have yy10 := HBXa.out.cell 10 rfl
  have c0 := BO.out.cell 0 rfl
  have c1 := BO.out.cell 1 rfl
  have c2 := BO.out.cell 2 rfl
  have c3 := BO.out.cell 3 rfl
  have c4 := BO.out.cell 4 rfl
  have c5 := BO.out.cell 5 rfl
  have c6 := BO.out.cell 6 rfl
  have c7 := BO.out.cell 7 rfl
  have c8 := BO.out.cell 8 rfl
  have c9 := BO.out.cell 9 rfl
  have c10 := BO.out.cell 10 rfl
  have z0 := BP.out.cell 0 rfl
  have z1 := BP.out.cell 1 rfl
  have z2 := BP.out.cell 2 rfl
  have z3 := BP.out.cell 3 rfl
  have z4 := BP.out.cell 4 rfl
  have z5 := BP.out.cell 5 rfl
  have z6 := BP.out.cell 6 rfl
  have z7 := BP.out.cell 7 rfl
  have z8 := BP.out.cell 8 rfl
  have z9 := BP.out.cell 9 rfl
  have z10 := BP.out.cell 10 rfl
  have s1 := run_str (c := cT) R9.out
  have s2 := run_str (c := 1024) HRA.out
  have q1 : ((strOfNums T).toList == (strOfNums Z).toList) = false := by
    rw [strEq HF.out.byt HF.out.abyt]
    exact decide_eq_false (fun h => HF.out.ne (by rw [← h]; exact HTT.out))
  have s3 := run_str (c := 1024) HRB.out
  have q2 : ((strOfNums T).toList == (strOfNums (encP s P)).toList) = true := by
    rw [strEq HF.out.byt HF.out.pbyt]
    exact decide_eq_true HTT.out
  go_wp2_with fail
  refine (same_any P P Q1 Q2 Q3 Q4 x1 y1 x2 y2 x3 y3 x4 y4 Aa Ba Ca Da na ca ma da ka ea la fa _ HQ.out HP.out).mono ?_
  rintro e9 w9 ⟨rfl, hb⟩
  rw [decide_eq_true (rfl : P = P)]
  clear c0 c1 c2 c3 c4 c5 c6 c7 c8 c9 c10
  clear z0 z1 z2 z3 z4 z5 z6 z7 z8 z9 z10
  clear yy0 yy1 yy2 yy3 yy4 yy5 yy6 yy7 yy8 yy9 yy10
  clear s1 s2 q1 s3 q2
  have R9 := hid_ (R9.out.bel hb)
  have HRB := hid_ (HRB.out.bel hb)
  have HB := hid_ (HB.out.trans hb)
  clear hb
  go_wp2
  go_ret
  exact ⟨rfl, HB.out⟩
end Go.Proofs.Ytcfabnkkkpcelaa
set_option linter.unusedSimpArgs false
set_option linter.unusedVariables false
namespace Go.Proofs.Ytcfabnkkkpcelaa
open Go.RowKit Go.Lib
set_option maxRecDepth 10000 in
set_option maxHeartbeats 8000000 in
theorem tears_fn (w : World) (s : Int) (O : Pg) (A : Option Addr) (n c : Nat) (B : Option Addr) (m d : Nat) (C : Option Addr) (k e : Nat) (D : Option Addr) (l f : Nat) (hO : pageWf w O A n c B m d C k e D l f) (hs1 : n ≤ 4398046511104 ∧ m ≤ 17592186044416 ∧ k ≤ 17592186044416 ∧ l ≤ 17592186044416) (P : Pg) (Aa : Option Addr) (na ca : Nat) (Ba : Option Addr) (ma da : Nat) (Ca : Option Addr) (ka ea : Nat) (Da : Option Addr) (la fa : Nat) (hP : pageWf w P Aa na ca Ba ma da Ca ka ea Da la fa) (hs2 : na ≤ 4398046511104 ∧ ma ≤ 17592186044416 ∧ ka ≤ 17592186044416 ∧ la ≤ 17592186044416) (ct : Int) (hct : i64R ct) (ho : okE s O = false) (hp : okE s P = true) (hk : P.kind = 4) (hne : ¬ P.epoch = 0) (hn : ct < 0) :
    Calls Try.prog 8 #[.int .i64 s, pgV O (.slice A n c) (.slice B m d) (.slice C k e) (.slice D l f), pgV P (.slice Aa na ca) (.slice Ba ma da) (.slice Ca ka ea) (.slice Da la fa), .int .i64 ct] w fun e w' => e = .returned (.bool true) ∧ Bel w w' := by
  have hwo := hO.2.2.2.2.2.2.2.1
  have hwp := hP.2.2.2.2.2.2.2.1
  obtain ⟨m0, hm, hml⟩ : ∃ m0 : Nat, (wrap64 (-wrap64 (ct + 1))).tmod 1025 = (m0 : Int) ∧ m0 < 1025 := by
    rw [wrap_back hct.1 hn]
    exact tmod_nat _ 1025 (by omega) (by omega)
  obtain ⟨Z, hZ⟩ : ∃ Z, List.replicate 1024 (0 : Int) = Z := ⟨_, rfl⟩
  obtain ⟨T, hT⟩ : ∃ T, tornL Z (encP s P) m0 = T := ⟨_, rfl⟩
  have hne0 : P.epoch ≠ 0 := hne
  have HF : Hid (TornF s P Z T m0) := hid_ ⟨hT, by rw [← hT]; exact torn_len (by rw [← hZ, List.length_replicate]) (enc_len (here_iff hp).1) (by omega), by rw [← hT]; exact torn_byte (by rw [← hZ]; exact rep_byte) (enc_byte (here_iff hp).1), by rw [← hZ]; exact rep_byte, enc_byte (here_iff hp).1, by rw [← hZ]; exact zero_ne hk, fun h => tear_cut (a := Z) hp hwp (by rw [← hZ, List.length_replicate]) (by omega) (by rw [hT]; exact h), by rw [← hZ, List.length_replicate]⟩
  have HD : Hid (∀ q, decP s T = some q → (T = encP s P ∧ q = P)) := hid_ (fun q h => by rw [← hT, ← hZ] at h ⊢; exact tear_zero hp hk hwp hne0 (by omega) h)
  have HZ := hid_ hZ
  clear hne0 hZ
  have HOO := hid_ ho
  have HPO := hid_ hp
  have HK := hid_ hk
  have HNE := hid_ hne
  have HM := hid_ hm
  have HML := hid_ hml
  have HN := hid_ hn
  clear ho hp hk hne hm hml hn hwo hwp hT hct
  obtain ⟨_, _, _, _, hO, hwo⟩ := hO
  obtain ⟨_, _, _, _, hP, hwp⟩ := hP
  have HO := hid_ hO
  have HP := hid_ hP
  have HWO := hid_ hwo
  have HWP := hid_ hwp
  have HS1 := hid_ hs1
  have HS2 := hid_ hs2
  clear hO hP hwo hwp hs1 hs2
  unfold pgV pgC
  go_enter Try.func8, Try.ntmps8
  go_upto_region 1 with (fail)
  have bx := (Bx.new w 28 (pgC O (.slice A n c) (.slice B m d) (.slice C k e) (.slice D l f))).alloc (.cells (pgC P (.slice Aa na ca) (.slice Ba ma da) (.slice Ca ka ea) (.slice Da la fa)).toArray 28)
  have bz := Bx.new (w.alloc (.cells (pgC O (.slice A n c) (.slice B m d) (.slice C k e) (.slice D l f)).toArray 28)) 28 (pgC P (.slice Aa na ca) (.slice Ba ma da) (.slice Ca ka ea) (.slice Da la fa))
  have hs := sizeAl w (.cells (pgC O (.slice A n c) (.slice B m d) (.slice C k e) (.slice D l f)).toArray 28)
  have hb := ((Bel.refl w).alloc (.cells (pgC O (.slice A n c) (.slice B m d) (.slice C k e) (.slice D l f)).toArray 28)).alloc (.cells (pgC P (.slice Aa na ca) (.slice Ba ma da) (.slice Ca ka ea) (.slice Da la fa)).toArray 28)
  rw [hs] at bz
  clear hs
  unfold pgC at bx bz hb
  generalize (w.alloc _).alloc _ = W0 at bx bz hb ⊢
  generalize w.heap.size = go at bx bz ⊢
  generalize hz : go + 1 = gp at bz ⊢
  clear hz
  have BO := hid_ bx
  have BP := hid_ bz
  have HB := hid_ hb
  have HO := hid_ (HO.out.bel hb)
  have HP := hid_ (HP.out.bel hb)
  clear bx bz hb
  go_wp2_with fail
  refine (awake_any _).mono ?_
  rintro e0 w1 ⟨rfl, hb⟩
  have HO := hid_ (HO.out.bel hb)
  have HP := hid_ (HP.out.bel hb)
  have BO := hid_ (BO.out.bel hb)
  have BP := hid_ (BP.out.bel hb)
  have HB := hid_ (HB.out.trans hb)
  clear hb
  have c0 := BO.out.cell 0 rfl
  have c1 := BO.out.cell 1 rfl
  have c2 := BO.out.cell 2 rfl
  have c3 := BO.out.cell 3 rfl
  have c4 := BO.out.cell 4 rfl
  have c5 := BO.out.cell 5 rfl
  have c6 := BO.out.cell 6 rfl
  have c7 := BO.out.cell 7 rfl
  have c8 := BO.out.cell 8 rfl
  have c9 := BO.out.cell 9 rfl
  have c10 := BO.out.cell 10 rfl
  go_wp2_with fail
  refine (encode_no s O A B C D n c m d k e l f _ HO.out HWO.out HS1.out.1 HS1.out.2.1 HS1.out.2.2.1 HS1.out.2.2.2 HOO.out).mono ?_
  rintro e1 w2 ⟨rfl, hb⟩
  clear c0 c1 c2 c3 c4 c5 c6 c7 c8 c9 c10
  have HO := hid_ (HO.out.bel hb)
  have HP := hid_ (HP.out.bel hb)
  have BO := hid_ (BO.out.bel hb)
  have BP := hid_ (BP.out.bel hb)
  have HB := hid_ (HB.out.trans hb)
  clear hb
  have z0 := BP.out.cell 0 rfl
  have z1 := BP.out.cell 1 rfl
  have z2 := BP.out.cell 2 rfl
  have z3 := BP.out.cell 3 rfl
  have z4 := BP.out.cell 4 rfl
  have z5 := BP.out.cell 5 rfl
  have z6 := BP.out.cell 6 rfl
  have z7 := BP.out.cell 7 rfl
  have z8 := BP.out.cell 8 rfl
  have z9 := BP.out.cell 9 rfl
  have z10 := BP.out.cell 10 rfl
  go_wp2_with fail
  refine (encode_yes s P Aa Ba Ca Da na ca ma da ka ea la fa _ HP.out HWP.out HS2.out.1 HS2.out.2.1 HS2.out.2.2.1 HS2.out.2.2.2 HPO.out).mono ?_
  rintro e2 w3 ⟨g9, rfl, hR9, hg9, hb⟩
  clear z0 z1 z2 z3 z4 z5 z6 z7 z8 z9 z10
  have HRB := hid_ hR9
  clear hR9 hg9
  have HO := hid_ (HO.out.bel hb)
  have HP := hid_ (HP.out.bel hb)
  have BO := hid_ (BO.out.bel hb)
  have BP := hid_ (BP.out.bel hb)
  have HB := hid_ (HB.out.trans hb)
  clear hb
  have c0 := BO.out.cell 0 rfl
  have c1 := BO.out.cell 1 rfl
  have c2 := BO.out.cell 2 rfl
  have c3 := BO.out.cell 3 rfl
  have c4 := BO.out.cell 4 rfl
  have c5 := BO.out.cell 5 rfl
  have c6 := BO.out.cell 6 rfl
  have c7 := BO.out.cell 7 rfl
  have c8 := BO.out.cell 8 rfl
  have c9 := BO.out.cell 9 rfl
  have c10 := BO.out.cell 10 rfl
  have z0 := BP.out.cell 0 rfl
  have z1 := BP.out.cell 1 rfl
  have z2 := BP.out.cell 2 rfl
  have z3 := BP.out.cell 3 rfl
  have z4 := BP.out.cell 4 rfl
  have z5 := BP.out.cell 5 rfl
  have z6 := BP.out.cell 6 rfl
  have z7 := BP.out.cell 7 rfl
  have z8 := BP.out.cell 8 rfl
  have z9 := BP.out.cell 9 rfl
  have z10 := BP.out.cell 10 rfl
  have r1 : (P.kind != 4) = false := by simp [HK.out]
  have r2 : (P.epoch == 0) = false := by simp [HNE.out]
  have hmk : ∀ W : World, (Instr.makeSlice 30 (.int .i64 1024) (.int .i64 1024)).run Try.prog W = .ok (.slice (some ⟨W.heap.size, 0, none⟩) 1024 1024) (W.alloc (.cells (byteV Z).toArray 5)) := fun W => by rw [← HZ.out]; exact mkBytes 1024 (by omega) W
  go_upto_region 8 with (fail)
  have hra := rowZ w3 (Z := Z) (by rw [HF.out.alen]; omega)
  rw [HF.out.alen] at hra
  have hb := (Bel.refl w3).alloc (.cells (byteV Z).toArray 5)
  generalize w3.alloc _ = W4 at hra hb ⊢
  generalize w3.heap.size = g8 at hra ⊢
  have HRA := hid_ hra
  have HRB := hid_ (HRB.out.bel hb)
  clear hra hmk
  clear c0 c1 c2 c3 c4 c5 c6 c7 c8 c9 c10
  clear z0 z1 z2 z3 z4 z5 z6 z7 z8 z9 z10
  have HO := hid_ (HO.out.bel hb)
  have HP := hid_ (HP.out.bel hb)
  have BO := hid_ (BO.out.bel hb)
  have BP := hid_ (BP.out.bel hb)
  have HB := hid_ (HB.out.trans hb)
  clear hb
  have c0 := BO.out.cell 0 rfl
  have c1 := BO.out.cell 1 rfl
  have c2 := BO.out.cell 2 rfl
  have c3 := BO.out.cell 3 rfl
  have c4 := BO.out.cell 4 rfl
  have c5 := BO.out.cell 5 rfl
  have c6 := BO.out.cell 6 rfl
  have c7 := BO.out.cell 7 rfl
  have c8 := BO.out.cell 8 rfl
  have c9 := BO.out.cell 9 rfl
  have c10 := BO.out.cell 10 rfl
  have z0 := BP.out.cell 0 rfl
  have z1 := BP.out.cell 1 rfl
  have z2 := BP.out.cell 2 rfl
  have z3 := BP.out.cell 3 rfl
  have z4 := BP.out.cell 4 rfl
  have z5 := BP.out.cell 5 rfl
  have z6 := BP.out.cell 6 rfl
  have z7 := BP.out.cell 7 rfl
  have z8 := BP.out.cell 8 rfl
  have z9 := BP.out.cell 9 rfl
  have z10 := BP.out.cell 10 rfl
  have hm := HM.out
  have hn := HN.out
  have i0 : (0 : Int) ≤ (m0 : Int) := by omega
  have i1 : (m0 : Int) ≤ 1024 := by have := HML.out; omega
  have i2 : m0 ≤ 1024 := by have := HML.out; omega
  go_upto_region 13 with (fail)
  obtain ⟨W0, hW0⟩ : ∃ W0, W4 = W0 := ⟨_, rfl⟩
  rw [hW0] at HB HRA HRB BO BP HO HP ⊢
  clear hW0 c0 c1 c2 c3 c4 c5 c6 c7 c8 c9 c10 z0 z1 z2 z3 z4 z5 z6 z7 z8 z9 z10 hm hn i0 i1
  obtain ⟨A', hcut, hrow⟩ := byteS.cutFrom (P := Try.prog) .i64 (some ⟨g8, 0, none⟩) 1024 1024 m0 i2 (Nat.le_refl _)
  have hcut2 := fun W => byteS.cutTo (P := Try.prog) .i64 (some ⟨g9, 0, none⟩) 1024 1024 m0 i2 W
  have ra := hid_ (hrow _ _ HRA.out)
  have rt := hid_ (HRB.out.take_ i2)
  have HLD : Hid ((List.drop m0 Z).length = 1024 - m0 ∧ ((encP s P).take m0).length = m0) := hid_ ⟨by rw [List.length_drop, HF.out.alen], by rw [List.length_take, HRB.out.1]; omega⟩
  have hKP : ∀ W, Bel W0 W → (fun W => Bel W0 W) W := fun W b => b
  have HKP := hid_ hKP
  clear hKP hrow
  go_region_held3 (fun W => Bel W0 W) ((refine HKP.out _ ?_; repeat first | with_reducible exact Bel.refl _ | with_reducible exact hb1 | with_reducible exact hb3 | with_reducible apply Bel.drew | with_reducible apply Bel.alloc))
    (first | (refine stepApp (w0 := W0) byteS rfl _ _ rfl _ [] ((encP s P).take m0) (some ⟨g9, 0, none⟩) m0 1024 rfl rfl ((Own.litE (T := byteT) W0 W0.heap.size _ 5 rfl rfl (Nat.le_refl _)).bel (by repeat first | with_reducible exact Bel.refl _ | with_reducible apply Bel.drew | with_reducible apply Bel.alloc)) (rt.out.bel (by repeat first | with_reducible exact Bel.refl _ | with_reducible apply Bel.drew | with_reducible apply Bel.alloc)) (by repeat first | with_reducible exact Bel.refl _ | with_reducible apply Bel.drew | with_reducible apply Bel.alloc) (by have h1 := HLD.out; have h3 := HML.out; simp only [List.length_append, List.length_nil, h1.1, h1.2]; omega) ?_; intro v1 x1 hO1 hb1 hg1 hat1) | (refine stepApp (w0 := W0) byteS rfl _ _ rfl v1 ([] ++ (encP s P).take m0) (List.drop m0 Z) A' (1024 - m0) (1024 - m0) rfl rfl hO1 (ra.out.bel hb1) hb1 (by have h1 := HLD.out; have h3 := HML.out; simp only [List.length_append, List.length_nil, h1.1, h1.2]; omega) ?_; intro v3 x3 hO3 hb3 hg3 hat3))
  have hO3 : Own byteT x3 W0.heap.size v3 (tornL Z (encP s P) m0) := hO3
  rw [HF.out.t] at hO3
  obtain ⟨A9, cT, rfl, hc9, r9⟩ := hO3.readsN' HF.out.len
  have R9 := hid_ r9
  have C9 := hid_ hc9
  have hb := hb3
  have HRA := hid_ (HRA.out.bel hb)
  have HRB := hid_ (HRB.out.bel hb)
  have HO := hid_ (HO.out.bel hb)
  have HP := hid_ (HP.out.bel hb)
  have BO := hid_ (BO.out.bel hb)
  have BP := hid_ (BP.out.bel hb)
  have HB := hid_ (HB.out.trans hb)
  clear hb
  clear hO1 hb1 hg1 hat1 hO3 hb3 hg3 hat3 r9 hc9 HKP ra rt hcut hcut2 HLD i2
  go_wp2_with fail
  refine (decode_any s A9 1024 cT T _ R9.out C9.out HF.out.byt).mono ?_
  rintro e8 w8 hD
  rcases hD with ⟨q, v, hq, rfl, hIn, hb⟩ | ⟨hq, rfl, hb⟩
  case inr =>
    have HB := hid_ (HB.out.trans hb)
    clear hb
    have i3 : (m0 : Int) < 1024 := by have := HF.out.cut hq; omega
    clear hq
    unfold zeroC
    go_upto_region 15 with (fail)
    have hbx := Bx.new w8 28 [.int .i64 0, .slice none 0 0, .slice none 0 0, .slice none 0 0, .slice none 0 0, .int .i64 0, .int .u64 0, .int .i64 0, .int .i64 0, .int .i64 0, .int .i64 0]
    have hb := (Bel.refl w8).alloc (.cells [.int .i64 0, .slice none 0 0, .slice none 0 0, .slice none 0 0, .slice none 0 0, .int .i64 0, .int .u64 0, .int .i64 0, .int .i64 0, .int .i64 0, .int .i64 0].toArray 28)
    generalize w8.alloc _ = Wa at hbx hb ⊢
    generalize w8.heap.size = ga at hbx ⊢
    have HB := hid_ (HB.out.trans hb)
    clear hb
    have HBXa := hid_ hbx
    clear hbx
    have yy0 := HBXa.out.cell 0 rfl
    have yy1 := HBXa.out.cell 1 rfl
    have yy2 := HBXa.out.cell 2 rfl
    have yy3 := HBXa.out.cell 3 rfl
    have yy4 := HBXa.out.cell 4 rfl
    have yy5 := HBXa.out.cell 5 rfl
    have yy6 := HBXa.out.cell 6 rfl
    have yy7 := HBXa.out.cell 7 rfl
    have yy8 := HBXa.out.cell 8 rfl
    have yy9 := HBXa.out.cell 9 rfl
    have yy10 := HBXa.out.cell 10 rfl
    go_wp2
    go_ret
    exact ⟨rfl, HB.out⟩
  have HRA := hid_ (HRA.out.bel hb)
  have HRB := hid_ (HRB.out.bel hb)
  have R9 := hid_ (R9.out.bel hb)
  have BO := hid_ (BO.out.bel hb)
  have BP := hid_ (BP.out.bel hb)
  have HO := hid_ (HO.out.bel hb)
  have HP := hid_ (HP.out.bel hb)
  have HB := hid_ (HB.out.trans hb)
  clear hb
  obtain ⟨hTT, hqe⟩ := HD.out q hq
  replace hqe := hqe.symm
  subst hqe
  have HTT := hid_ hTT
  clear hTT hq
  obtain ⟨Q1, x1, y1, Q2, x2, y2, Q3, x3, y3, Q4, x4, y4, rfl, v1, v2, v3, v4, hQ⟩ := hIn
  have hvv : pgV P (.slice Q1 x1 y1) (.slice Q2 x2 y2) (.slice Q3 x3 y3) (.slice Q4 x4 y4) = .agg [.int .i64 P.kind, .slice Q1 x1 y1, .slice Q2 x2 y2, .slice Q3 x3 y3, .slice Q4 x4 y4, .int .i64 P.next, .int .u64 P.epoch, .int .i64 P.root, .int .i64 P.depth, .int .i64 P.count, .int .i64 P.high].toArray := rfl
  rw [hvv]
  clear hvv
  have HQ := hid_ hQ
  clear hQ
  go_upto_region 15 with (fail)
  have hbx := Bx.new w8 28 [.int .i64 P.kind, .slice Q1 x1 y1, .slice Q2 x2 y2, .slice Q3 x3 y3, .slice Q4 x4 y4, .int .i64 P.next, .int .u64 P.epoch, .int .i64 P.root, .int .i64 P.depth, .int .i64 P.count, .int .i64 P.high]
  have hb := (Bel.refl w8).alloc (.cells [.int .i64 P.kind, .slice Q1 x1 y1, .slice Q2 x2 y2, .slice Q3 x3 y3, .slice Q4 x4 y4, .int .i64 P.next, .int .u64 P.epoch, .int .i64 P.root, .int .i64 P.depth, .int .i64 P.count, .int .i64 P.high].toArray 28)
  generalize w8.alloc _ = Wa at hbx hb ⊢
  generalize w8.heap.size = ga at hbx ⊢
  have HRA := hid_ (HRA.out.bel hb)
  have HRB := hid_ (HRB.out.bel hb)
  have R9 := hid_ (R9.out.bel hb)
  have BO := hid_ (BO.out.bel hb)
  have BP := hid_ (BP.out.bel hb)
  have HO := hid_ (HO.out.bel hb)
  have HP := hid_ (HP.out.bel hb)
  have HQ := hid_ (HQ.out.bel hb)
  have HB := hid_ (HB.out.trans hb)
  clear hb
  have HBXa := hid_ hbx
  clear hbx
  have yy0 := HBXa.out.cell 0 rfl
  have yy1 := HBXa.out.cell 1 rfl
  have yy2 := HBXa.out.cell 2 rfl
  have yy3 := HBXa.out.cell 3 rfl
  have yy4 := HBXa.out.cell 4 rfl
  have yy5 := HBXa.out.cell 5 rfl
  have yy6 := HBXa.out.cell 6 rfl
  have yy7 := HBXa.out.cell 7 rfl
  have yy8 := HBXa.out.cell 8 rfl
  have yy9 := HBXa.out.cell 9 rfl
  have yy10 := HBXa.out.cell 10 rfl
  have c0 := BO.out.cell 0 rfl
  have c1 := BO.out.cell 1 rfl
  have c2 := BO.out.cell 2 rfl
  have c3 := BO.out.cell 3 rfl
  have c4 := BO.out.cell 4 rfl
  have c5 := BO.out.cell 5 rfl
  have c6 := BO.out.cell 6 rfl
  have c7 := BO.out.cell 7 rfl
  have c8 := BO.out.cell 8 rfl
  have c9 := BO.out.cell 9 rfl
  have c10 := BO.out.cell 10 rfl
  have z0 := BP.out.cell 0 rfl
  have z1 := BP.out.cell 1 rfl
  have z2 := BP.out.cell 2 rfl
  have z3 := BP.out.cell 3 rfl
  have z4 := BP.out.cell 4 rfl
  have z5 := BP.out.cell 5 rfl
  have z6 := BP.out.cell 6 rfl
  have z7 := BP.out.cell 7 rfl
  have z8 := BP.out.cell 8 rfl
  have z9 := BP.out.cell 9 rfl
  have z10 := BP.out.cell 10 rfl
  have s1 := run_str (c := cT) R9.out
  have s2 := run_str (c := 1024) HRA.out
  have q1 : ((strOfNums T).toList == (strOfNums Z).toList) = false := by
    rw [strEq HF.out.byt HF.out.abyt]
    exact decide_eq_false (fun h => HF.out.ne (by rw [← h]; exact HTT.out))
  have s3 := run_str (c := 1024) HRB.out
  have q2 : ((strOfNums T).toList == (strOfNums (encP s P)).toList) = true := by
    rw [strEq HF.out.byt HF.out.pbyt]
    exact decide_eq_true HTT.out
  go_wp2_with fail
  refine (same_any P P Q1 Q2 Q3 Q4 x1 y1 x2 y2 x3 y3 x4 y4 Aa Ba Ca Da na ca ma da ka ea la fa _ HQ.out HP.out).mono ?_
  rintro e9 w9 ⟨rfl, hb⟩
  rw [decide_eq_true (rfl : P = P)]
  clear c0 c1 c2 c3 c4 c5 c6 c7 c8 c9 c10
  clear z0 z1 z2 z3 z4 z5 z6 z7 z8 z9 z10
  clear yy0 yy1 yy2 yy3 yy4 yy5 yy6 yy7 yy8 yy9 yy10
  clear s1 s2 q1 s3 q2
  have R9 := hid_ (R9.out.bel hb)
  have HRB := hid_ (HRB.out.bel hb)
  have HB := hid_ (HB.out.trans hb)
  clear hb
  go_wp2
  go_ret
  exact ⟨rfl, HB.out⟩
set_option maxRecDepth 10000 in
set_option maxHeartbeats 8000000 in
theorem tears_fp (w : World) (s : Int) (O : Pg) (A : Option Addr) (n c : Nat) (B : Option Addr) (m d : Nat) (C : Option Addr) (k e : Nat) (D : Option Addr) (l f : Nat) (hO : pageWf w O A n c B m d C k e D l f) (hs1 : n ≤ 4398046511104 ∧ m ≤ 17592186044416 ∧ k ≤ 17592186044416 ∧ l ≤ 17592186044416) (P : Pg) (Aa : Option Addr) (na ca : Nat) (Ba : Option Addr) (ma da : Nat) (Ca : Option Addr) (ka ea : Nat) (Da : Option Addr) (la fa : Nat) (hP : pageWf w P Aa na ca Ba ma da Ca ka ea Da la fa) (hs2 : na ≤ 4398046511104 ∧ ma ≤ 17592186044416 ∧ ka ≤ 17592186044416 ∧ la ≤ 17592186044416) (ct : Int) (hct : i64R ct) (ho : okE s O = false) (hp : okE s P = true) (hk : P.kind = 4) (hne : ¬ P.epoch = 0) (hn : ¬ ct < 0) :
    Calls Try.prog 8 #[.int .i64 s, pgV O (.slice A n c) (.slice B m d) (.slice C k e) (.slice D l f), pgV P (.slice Aa na ca) (.slice Ba ma da) (.slice Ca ka ea) (.slice Da la fa), .int .i64 ct] w fun e w' => e = .returned (.bool true) ∧ Bel w w' := by
  have hwo := hO.2.2.2.2.2.2.2.1
  have hwp := hP.2.2.2.2.2.2.2.1
  obtain ⟨m0, hm, hml⟩ : ∃ m0 : Nat, (ct).tmod 1025 = (m0 : Int) ∧ m0 < 1025 := by
    exact tmod_nat _ 1025 (by omega) (by omega)
  obtain ⟨Z, hZ⟩ : ∃ Z, List.replicate 1024 (0 : Int) = Z := ⟨_, rfl⟩
  obtain ⟨T, hT⟩ : ∃ T, tornL Z (encP s P) m0 = T := ⟨_, rfl⟩
  have hne0 : P.epoch ≠ 0 := hne
  have HF : Hid (TornF s P Z T m0) := hid_ ⟨hT, by rw [← hT]; exact torn_len (by rw [← hZ, List.length_replicate]) (enc_len (here_iff hp).1) (by omega), by rw [← hT]; exact torn_byte (by rw [← hZ]; exact rep_byte) (enc_byte (here_iff hp).1), by rw [← hZ]; exact rep_byte, enc_byte (here_iff hp).1, by rw [← hZ]; exact zero_ne hk, fun h => tear_cut (a := Z) hp hwp (by rw [← hZ, List.length_replicate]) (by omega) (by rw [hT]; exact h), by rw [← hZ, List.length_replicate]⟩
  have HD : Hid (∀ q, decP s T = some q → (T = encP s P ∧ q = P)) := hid_ (fun q h => by rw [← hT, ← hZ] at h ⊢; exact tear_zero hp hk hwp hne0 (by omega) h)
  have HZ := hid_ hZ
  clear hne0 hZ
  have HOO := hid_ ho
  have HPO := hid_ hp
  have HK := hid_ hk
  have HNE := hid_ hne
  have HM := hid_ hm
  have HML := hid_ hml
  have HN := hid_ hn
  clear ho hp hk hne hm hml hn hwo hwp hT hct
  obtain ⟨_, _, _, _, hO, hwo⟩ := hO
  obtain ⟨_, _, _, _, hP, hwp⟩ := hP
  have HO := hid_ hO
  have HP := hid_ hP
  have HWO := hid_ hwo
  have HWP := hid_ hwp
  have HS1 := hid_ hs1
  have HS2 := hid_ hs2
  clear hO hP hwo hwp hs1 hs2
  unfold pgV pgC
  go_enter Try.func8, Try.ntmps8
  go_upto_region 1 with (fail)
  have bx := (Bx.new w 28 (pgC O (.slice A n c) (.slice B m d) (.slice C k e) (.slice D l f))).alloc (.cells (pgC P (.slice Aa na ca) (.slice Ba ma da) (.slice Ca ka ea) (.slice Da la fa)).toArray 28)
  have bz := Bx.new (w.alloc (.cells (pgC O (.slice A n c) (.slice B m d) (.slice C k e) (.slice D l f)).toArray 28)) 28 (pgC P (.slice Aa na ca) (.slice Ba ma da) (.slice Ca ka ea) (.slice Da la fa))
  have hs := sizeAl w (.cells (pgC O (.slice A n c) (.slice B m d) (.slice C k e) (.slice D l f)).toArray 28)
  have hb := ((Bel.refl w).alloc (.cells (pgC O (.slice A n c) (.slice B m d) (.slice C k e) (.slice D l f)).toArray 28)).alloc (.cells (pgC P (.slice Aa na ca) (.slice Ba ma da) (.slice Ca ka ea) (.slice Da la fa)).toArray 28)
  rw [hs] at bz
  clear hs
  unfold pgC at bx bz hb
  generalize (w.alloc _).alloc _ = W0 at bx bz hb ⊢
  generalize w.heap.size = go at bx bz ⊢
  generalize hz : go + 1 = gp at bz ⊢
  clear hz
  have BO := hid_ bx
  have BP := hid_ bz
  have HB := hid_ hb
  have HO := hid_ (HO.out.bel hb)
  have HP := hid_ (HP.out.bel hb)
  clear bx bz hb
  go_wp2_with fail
  refine (awake_any _).mono ?_
  rintro e0 w1 ⟨rfl, hb⟩
  have HO := hid_ (HO.out.bel hb)
  have HP := hid_ (HP.out.bel hb)
  have BO := hid_ (BO.out.bel hb)
  have BP := hid_ (BP.out.bel hb)
  have HB := hid_ (HB.out.trans hb)
  clear hb
  have c0 := BO.out.cell 0 rfl
  have c1 := BO.out.cell 1 rfl
  have c2 := BO.out.cell 2 rfl
  have c3 := BO.out.cell 3 rfl
  have c4 := BO.out.cell 4 rfl
  have c5 := BO.out.cell 5 rfl
  have c6 := BO.out.cell 6 rfl
  have c7 := BO.out.cell 7 rfl
  have c8 := BO.out.cell 8 rfl
  have c9 := BO.out.cell 9 rfl
  have c10 := BO.out.cell 10 rfl
  go_wp2_with fail
  refine (encode_no s O A B C D n c m d k e l f _ HO.out HWO.out HS1.out.1 HS1.out.2.1 HS1.out.2.2.1 HS1.out.2.2.2 HOO.out).mono ?_
  rintro e1 w2 ⟨rfl, hb⟩
  clear c0 c1 c2 c3 c4 c5 c6 c7 c8 c9 c10
  have HO := hid_ (HO.out.bel hb)
  have HP := hid_ (HP.out.bel hb)
  have BO := hid_ (BO.out.bel hb)
  have BP := hid_ (BP.out.bel hb)
  have HB := hid_ (HB.out.trans hb)
  clear hb
  have z0 := BP.out.cell 0 rfl
  have z1 := BP.out.cell 1 rfl
  have z2 := BP.out.cell 2 rfl
  have z3 := BP.out.cell 3 rfl
  have z4 := BP.out.cell 4 rfl
  have z5 := BP.out.cell 5 rfl
  have z6 := BP.out.cell 6 rfl
  have z7 := BP.out.cell 7 rfl
  have z8 := BP.out.cell 8 rfl
  have z9 := BP.out.cell 9 rfl
  have z10 := BP.out.cell 10 rfl
  go_wp2_with fail
  refine (encode_yes s P Aa Ba Ca Da na ca ma da ka ea la fa _ HP.out HWP.out HS2.out.1 HS2.out.2.1 HS2.out.2.2.1 HS2.out.2.2.2 HPO.out).mono ?_
  rintro e2 w3 ⟨g9, rfl, hR9, hg9, hb⟩
  clear z0 z1 z2 z3 z4 z5 z6 z7 z8 z9 z10
  have HRB := hid_ hR9
  clear hR9 hg9
  have HO := hid_ (HO.out.bel hb)
  have HP := hid_ (HP.out.bel hb)
  have BO := hid_ (BO.out.bel hb)
  have BP := hid_ (BP.out.bel hb)
  have HB := hid_ (HB.out.trans hb)
  clear hb
  have c0 := BO.out.cell 0 rfl
  have c1 := BO.out.cell 1 rfl
  have c2 := BO.out.cell 2 rfl
  have c3 := BO.out.cell 3 rfl
  have c4 := BO.out.cell 4 rfl
  have c5 := BO.out.cell 5 rfl
  have c6 := BO.out.cell 6 rfl
  have c7 := BO.out.cell 7 rfl
  have c8 := BO.out.cell 8 rfl
  have c9 := BO.out.cell 9 rfl
  have c10 := BO.out.cell 10 rfl
  have z0 := BP.out.cell 0 rfl
  have z1 := BP.out.cell 1 rfl
  have z2 := BP.out.cell 2 rfl
  have z3 := BP.out.cell 3 rfl
  have z4 := BP.out.cell 4 rfl
  have z5 := BP.out.cell 5 rfl
  have z6 := BP.out.cell 6 rfl
  have z7 := BP.out.cell 7 rfl
  have z8 := BP.out.cell 8 rfl
  have z9 := BP.out.cell 9 rfl
  have z10 := BP.out.cell 10 rfl
  have r1 : (P.kind != 4) = false := by simp [HK.out]
  have r2 : (P.epoch == 0) = false := by simp [HNE.out]
  have hmk : ∀ W : World, (Instr.makeSlice 30 (.int .i64 1024) (.int .i64 1024)).run Try.prog W = .ok (.slice (some ⟨W.heap.size, 0, none⟩) 1024 1024) (W.alloc (.cells (byteV Z).toArray 5)) := fun W => by rw [← HZ.out]; exact mkBytes 1024 (by omega) W
  go_upto_region 8 with (fail)
  have hra := rowZ w3 (Z := Z) (by rw [HF.out.alen]; omega)
  rw [HF.out.alen] at hra
  have hb := (Bel.refl w3).alloc (.cells (byteV Z).toArray 5)
  generalize w3.alloc _ = W4 at hra hb ⊢
  generalize w3.heap.size = g8 at hra ⊢
  have HRA := hid_ hra
  have HRB := hid_ (HRB.out.bel hb)
  clear hra hmk
  clear c0 c1 c2 c3 c4 c5 c6 c7 c8 c9 c10
  clear z0 z1 z2 z3 z4 z5 z6 z7 z8 z9 z10
  have HO := hid_ (HO.out.bel hb)
  have HP := hid_ (HP.out.bel hb)
  have BO := hid_ (BO.out.bel hb)
  have BP := hid_ (BP.out.bel hb)
  have HB := hid_ (HB.out.trans hb)
  clear hb
  have c0 := BO.out.cell 0 rfl
  have c1 := BO.out.cell 1 rfl
  have c2 := BO.out.cell 2 rfl
  have c3 := BO.out.cell 3 rfl
  have c4 := BO.out.cell 4 rfl
  have c5 := BO.out.cell 5 rfl
  have c6 := BO.out.cell 6 rfl
  have c7 := BO.out.cell 7 rfl
  have c8 := BO.out.cell 8 rfl
  have c9 := BO.out.cell 9 rfl
  have c10 := BO.out.cell 10 rfl
  have z0 := BP.out.cell 0 rfl
  have z1 := BP.out.cell 1 rfl
  have z2 := BP.out.cell 2 rfl
  have z3 := BP.out.cell 3 rfl
  have z4 := BP.out.cell 4 rfl
  have z5 := BP.out.cell 5 rfl
  have z6 := BP.out.cell 6 rfl
  have z7 := BP.out.cell 7 rfl
  have z8 := BP.out.cell 8 rfl
  have z9 := BP.out.cell 9 rfl
  have z10 := BP.out.cell 10 rfl
  have hm := HM.out
  have hn := HN.out
  have i0 : (0 : Int) ≤ (m0 : Int) := by omega
  have i1 : (m0 : Int) ≤ 1024 := by have := HML.out; omega
  have i2 : m0 ≤ 1024 := by have := HML.out; omega
  go_upto_region 13 with (fail)
  obtain ⟨W0, hW0⟩ : ∃ W0, W4 = W0 := ⟨_, rfl⟩
  rw [hW0] at HB HRA HRB BO BP HO HP ⊢
  clear hW0 c0 c1 c2 c3 c4 c5 c6 c7 c8 c9 c10 z0 z1 z2 z3 z4 z5 z6 z7 z8 z9 z10 hm hn i0 i1
  obtain ⟨A', hcut, hrow⟩ := byteS.cutFrom (P := Try.prog) .i64 (some ⟨g8, 0, none⟩) 1024 1024 m0 i2 (Nat.le_refl _)
  have hcut2 := fun W => byteS.cutTo (P := Try.prog) .i64 (some ⟨g9, 0, none⟩) 1024 1024 m0 i2 W
  have ra := hid_ (hrow _ _ HRA.out)
  have rt := hid_ (HRB.out.take_ i2)
  have HLD : Hid ((List.drop m0 Z).length = 1024 - m0 ∧ ((encP s P).take m0).length = m0) := hid_ ⟨by rw [List.length_drop, HF.out.alen], by rw [List.length_take, HRB.out.1]; omega⟩
  have hKP : ∀ W, Bel W0 W → (fun W => Bel W0 W) W := fun W b => b
  have HKP := hid_ hKP
  clear hKP hrow
  go_region_held3 (fun W => Bel W0 W) ((refine HKP.out _ ?_; repeat first | with_reducible exact Bel.refl _ | with_reducible exact hb1 | with_reducible exact hb3 | with_reducible apply Bel.drew | with_reducible apply Bel.alloc))
    (first | (refine stepApp (w0 := W0) byteS rfl _ _ rfl _ [] ((encP s P).take m0) (some ⟨g9, 0, none⟩) m0 1024 rfl rfl ((Own.litE (T := byteT) W0 W0.heap.size _ 5 rfl rfl (Nat.le_refl _)).bel (by repeat first | with_reducible exact Bel.refl _ | with_reducible apply Bel.drew | with_reducible apply Bel.alloc)) (rt.out.bel (by repeat first | with_reducible exact Bel.refl _ | with_reducible apply Bel.drew | with_reducible apply Bel.alloc)) (by repeat first | with_reducible exact Bel.refl _ | with_reducible apply Bel.drew | with_reducible apply Bel.alloc) (by have h1 := HLD.out; have h3 := HML.out; simp only [List.length_append, List.length_nil, h1.1, h1.2]; omega) ?_; intro v1 x1 hO1 hb1 hg1 hat1) | (refine stepApp (w0 := W0) byteS rfl _ _ rfl v1 ([] ++ (encP s P).take m0) (List.drop m0 Z) A' (1024 - m0) (1024 - m0) rfl rfl hO1 (ra.out.bel hb1) hb1 (by have h1 := HLD.out; have h3 := HML.out; simp only [List.length_append, List.length_nil, h1.1, h1.2]; omega) ?_; intro v3 x3 hO3 hb3 hg3 hat3))
  have hO3 : Own byteT x3 W0.heap.size v3 (tornL Z (encP s P) m0) := hO3
  rw [HF.out.t] at hO3
  obtain ⟨A9, cT, rfl, hc9, r9⟩ := hO3.readsN' HF.out.len
  have R9 := hid_ r9
  have C9 := hid_ hc9
  have hb := hb3
  have HRA := hid_ (HRA.out.bel hb)
  have HRB := hid_ (HRB.out.bel hb)
  have HO := hid_ (HO.out.bel hb)
  have HP := hid_ (HP.out.bel hb)
  have BO := hid_ (BO.out.bel hb)
  have BP := hid_ (BP.out.bel hb)
  have HB := hid_ (HB.out.trans hb)
  clear hb
  clear hO1 hb1 hg1 hat1 hO3 hb3 hg3 hat3 r9 hc9 HKP ra rt hcut hcut2 HLD i2
  go_wp2_with fail
  refine (decode_any s A9 1024 cT T _ R9.out C9.out HF.out.byt).mono ?_
  rintro e8 w8 hD
  rcases hD with ⟨q, v, hq, rfl, hIn, hb⟩ | ⟨hq, rfl, hb⟩
  case inr =>
    have HB := hid_ (HB.out.trans hb)
    clear hb
    have i3 : (m0 : Int) < 1024 := by have := HF.out.cut hq; omega
    clear hq
    unfold zeroC
    go_upto_region 15 with (fail)
    have hbx := Bx.new w8 28 [.int .i64 0, .slice none 0 0, .slice none 0 0, .slice none 0 0, .slice none 0 0, .int .i64 0, .int .u64 0, .int .i64 0, .int .i64 0, .int .i64 0, .int .i64 0]
    have hb := (Bel.refl w8).alloc (.cells [.int .i64 0, .slice none 0 0, .slice none 0 0, .slice none 0 0, .slice none 0 0, .int .i64 0, .int .u64 0, .int .i64 0, .int .i64 0, .int .i64 0, .int .i64 0].toArray 28)
    generalize w8.alloc _ = Wa at hbx hb ⊢
    generalize w8.heap.size = ga at hbx ⊢
    have HB := hid_ (HB.out.trans hb)
    clear hb
    have HBXa := hid_ hbx
    clear hbx
    have yy0 := HBXa.out.cell 0 rfl
    have yy1 := HBXa.out.cell 1 rfl
    have yy2 := HBXa.out.cell 2 rfl
    have yy3 := HBXa.out.cell 3 rfl
    have yy4 := HBXa.out.cell 4 rfl
    have yy5 := HBXa.out.cell 5 rfl
    have yy6 := HBXa.out.cell 6 rfl
    have yy7 := HBXa.out.cell 7 rfl
    have yy8 := HBXa.out.cell 8 rfl
    have yy9 := HBXa.out.cell 9 rfl
    have yy10 := HBXa.out.cell 10 rfl
    go_wp2
    go_ret
    exact ⟨rfl, HB.out⟩
  have HRA := hid_ (HRA.out.bel hb)
  have HRB := hid_ (HRB.out.bel hb)
  have R9 := hid_ (R9.out.bel hb)
  have BO := hid_ (BO.out.bel hb)
  have BP := hid_ (BP.out.bel hb)
  have HO := hid_ (HO.out.bel hb)
  have HP := hid_ (HP.out.bel hb)
  have HB := hid_ (HB.out.trans hb)
  clear hb
  obtain ⟨hTT, hqe⟩ := HD.out q hq
  replace hqe := hqe.symm
  subst hqe
  have HTT := hid_ hTT
  clear hTT hq
  obtain ⟨Q1, x1, y1, Q2, x2, y2, Q3, x3, y3, Q4, x4, y4, rfl, v1, v2, v3, v4, hQ⟩ := hIn
  have hvv : pgV P (.slice Q1 x1 y1) (.slice Q2 x2 y2) (.slice Q3 x3 y3) (.slice Q4 x4 y4) = .agg [.int .i64 P.kind, .slice Q1 x1 y1, .slice Q2 x2 y2, .slice Q3 x3 y3, .slice Q4 x4 y4, .int .i64 P.next, .int .u64 P.epoch, .int .i64 P.root, .int .i64 P.depth, .int .i64 P.count, .int .i64 P.high].toArray := rfl
  rw [hvv]
  clear hvv
  have HQ := hid_ hQ
  clear hQ
  go_upto_region 15 with (fail)
  have hbx := Bx.new w8 28 [.int .i64 P.kind, .slice Q1 x1 y1, .slice Q2 x2 y2, .slice Q3 x3 y3, .slice Q4 x4 y4, .int .i64 P.next, .int .u64 P.epoch, .int .i64 P.root, .int .i64 P.depth, .int .i64 P.count, .int .i64 P.high]
  have hb := (Bel.refl w8).alloc (.cells [.int .i64 P.kind, .slice Q1 x1 y1, .slice Q2 x2 y2, .slice Q3 x3 y3, .slice Q4 x4 y4, .int .i64 P.next, .int .u64 P.epoch, .int .i64 P.root, .int .i64 P.depth, .int .i64 P.count, .int .i64 P.high].toArray 28)
  generalize w8.alloc _ = Wa at hbx hb ⊢
  generalize w8.heap.size = ga at hbx ⊢
  have HRA := hid_ (HRA.out.bel hb)
  have HRB := hid_ (HRB.out.bel hb)
  have R9 := hid_ (R9.out.bel hb)
  have BO := hid_ (BO.out.bel hb)
  have BP := hid_ (BP.out.bel hb)
  have HO := hid_ (HO.out.bel hb)
  have HP := hid_ (HP.out.bel hb)
  have HQ := hid_ (HQ.out.bel hb)
  have HB := hid_ (HB.out.trans hb)
  clear hb
  have HBXa := hid_ hbx
  clear hbx
  have yy0 := HBXa.out.cell 0 rfl
  have yy1 := HBXa.out.cell 1 rfl
  have yy2 := HBXa.out.cell 2 rfl
  have yy3 := HBXa.out.cell 3 rfl
  have yy4 := HBXa.out.cell 4 rfl
  have yy5 := HBXa.out.cell 5 rfl
  have yy6 := HBXa.out.cell 6 rfl
  have yy7 := HBXa.out.cell 7 rfl
  have yy8 := HBXa.out.cell 8 rfl
  have yy9 := HBXa.out.cell 9 rfl
  have yy10 := HBXa.out.cell 10 rfl
  have c0 := BO.out.cell 0 rfl
  have c1 := BO.out.cell 1 rfl
  have c2 := BO.out.cell 2 rfl
  have c3 := BO.out.cell 3 rfl
  have c4 := BO.out.cell 4 rfl
  have c5 := BO.out.cell 5 rfl
  have c6 := BO.out.cell 6 rfl
  have c7 := BO.out.cell 7 rfl
  have c8 := BO.out.cell 8 rfl
  have c9 := BO.out.cell 9 rfl
  have c10 := BO.out.cell 10 rfl
  have z0 := BP.out.cell 0 rfl
  have z1 := BP.out.cell 1 rfl
  have z2 := BP.out.cell 2 rfl
  have z3 := BP.out.cell 3 rfl
  have z4 := BP.out.cell 4 rfl
  have z5 := BP.out.cell 5 rfl
  have z6 := BP.out.cell 6 rfl
  have z7 := BP.out.cell 7 rfl
  have z8 := BP.out.cell 8 rfl
  have z9 := BP.out.cell 9 rfl
  have z10 := BP.out.cell 10 rfl
  have s1 := run_str (c := cT) R9.out
  have s2 := run_str (c := 1024) HRA.out
  have q1 : ((strOfNums T).toList == (strOfNums Z).toList) = false := by
    rw [strEq HF.out.byt HF.out.abyt]
    exact decide_eq_false (fun h => HF.out.ne (by rw [← h]; exact HTT.out))
  have s3 := run_str (c := 1024) HRB.out
  have q2 : ((strOfNums T).toList == (strOfNums (encP s P)).toList) = true := by
    rw [strEq HF.out.byt HF.out.pbyt]
    exact decide_eq_true HTT.out
  go_wp2_with fail
  refine (same_any P P Q1 Q2 Q3 Q4 x1 y1 x2 y2 x3 y3 x4 y4 Aa Ba Ca Da na ca ma da ka ea la fa _ HQ.out HP.out).mono ?_
  rintro e9 w9 ⟨rfl, hb⟩
  rw [decide_eq_true (rfl : P = P)]
  clear c0 c1 c2 c3 c4 c5 c6 c7 c8 c9 c10
  clear z0 z1 z2 z3 z4 z5 z6 z7 z8 z9 z10
  clear yy0 yy1 yy2 yy3 yy4 yy5 yy6 yy7 yy8 yy9 yy10
  clear s1 s2 q1 s3 q2
  have R9 := hid_ (R9.out.bel hb)
  have HRB := hid_ (HRB.out.bel hb)
  have HB := hid_ (HB.out.trans hb)
  clear hb
  go_wp2
  go_ret
  exact ⟨rfl, HB.out⟩
end Go.Proofs.Ytcfabnkkkpcelaa
set_option linter.unusedSimpArgs false
set_option linter.unusedVariables false
namespace Go.Proofs.Ytcfabnkkkpcelaa
open Go.RowKit Go.Lib
theorem walkPageTears (w : World) (s : Int) (hs : (Lit.int .i64 s).wf = true) (O : Pg) (A : Option Addr) (n c : Nat) (B : Option Addr) (m d : Nat) (C : Option Addr) (k e : Nat) (D : Option Addr) (l f : Nat) (hO : pageWf w O A n c B m d C k e D l f) (hs1 : n ≤ 4398046511104 ∧ m ≤ 17592186044416 ∧ k ≤ 17592186044416 ∧ l ≤ 17592186044416) (P : Pg) (Aa : Option Addr) (na ca : Nat) (Ba : Option Addr) (ma da : Nat) (Ca : Option Addr) (ka ea : Nat) (Da : Option Addr) (la fa : Nat) (hP : pageWf w P Aa na ca Ba ma da Ca ka ea Da la fa) (hs2 : na ≤ 4398046511104 ∧ ma ≤ 17592186044416 ∧ ka ≤ 17592186044416 ∧ la ≤ 17592186044416) (ct : Int) (ht : (Lit.int .i64 ct).wf = true) :
    Calls Try.prog 8 #[.int .i64 s, pgV O (.slice A n c) (.slice B m d) (.slice C k e) (.slice D l f), pgV P (.slice Aa na ca) (.slice Ba ma da) (.slice Ca ka ea) (.slice Da la fa), .int .i64 ct] w fun e w' => e = .returned (.bool true) ∧ Bel w w' := by
  have hct : i64R ct := wf_i64 ht
  by_cases hp : okE s P = true
  · by_cases hk : P.kind = 4
    · by_cases ho : okE s O = true
      · by_cases hok : O.kind = 4
        · by_cases hne : O.epoch = P.epoch
          · exact tears_a w s O A n c B m d C k e D l f hO hs1 P Aa na ca Ba ma da Ca ka ea Da la fa hP hs2 ct hct ho hp hok hne hk
          · by_cases hn : ct < 0
            · exact tears_bn w s O A n c B m d C k e D l f hO hs1 P Aa na ca Ba ma da Ca ka ea Da la fa hP hs2 ct hct ho hp hk hok hne hn
            · exact tears_bp w s O A n c B m d C k e D l f hO hs1 P Aa na ca Ba ma da Ca ka ea Da la fa hP hs2 ct hct ho hp hk hok hne hn
        · by_cases hne : O.epoch = P.epoch
          · exact tears_c w s O A n c B m d C k e D l f hO hs1 P Aa na ca Ba ma da Ca ka ea Da la fa hP hs2 ct hct ho hp hok hne hk
          · by_cases hn : ct < 0
            · exact tears_dn w s O A n c B m d C k e D l f hO hs1 P Aa na ca Ba ma da Ca ka ea Da la fa hP hs2 ct hct ho hp hk hok hne hn
            · exact tears_dp w s O A n c B m d C k e D l f hO hs1 P Aa na ca Ba ma da Ca ka ea Da la fa hP hs2 ct hct ho hp hk hok hne hn
      · have ho' : okE s O = false := by simpa using ho
        by_cases hne : P.epoch = 0
        · exact tears_e w s O A n c B m d C k e D l f hO hs1 P Aa na ca Ba ma da Ca ka ea Da la fa hP hs2 ct hct ho' hp hne hk
        · by_cases hn : ct < 0
          · exact tears_fn w s O A n c B m d C k e D l f hO hs1 P Aa na ca Ba ma da Ca ka ea Da la fa hP hs2 ct hct ho' hp hk hne hn
          · exact tears_fp w s O A n c B m d C k e D l f hO hs1 P Aa na ca Ba ma da Ca ka ea Da la fa hP hs2 ct hct ho' hp hk hne hn
    · by_cases ho : okE s O = true
      · exact tears_kdy w s O A n c B m d C k e D l f hO hs1 P Aa na ca Ba ma da Ca ka ea Da la fa hP hs2 ct hct ho hp hk
      · exact tears_kdn w s O A n c B m d C k e D l f hO hs1 P Aa na ca Ba ma da Ca ka ea Da la fa hP hs2 ct hct (by simpa using ho) hp hk
  · have hp' : okE s P = false := by simpa using hp
    by_cases ho : okE s O = true
    · exact tears_noy w s O A n c B m d C k e D l f hO hs1 P Aa na ca Ba ma da Ca ka ea Da la fa hP hs2 ct hct ho hp'
    · exact tears_non w s O A n c B m d C k e D l f hO hs1 P Aa na ca Ba ma da Ca ka ea Da la fa hP hs2 ct hct (by simpa using ho) hp'
end Go.Proofs.Ytcfabnkkkpcelaa
