/- PageTurns, walked. -/
import Derived.Test.YtcfabnkkkpcelaaPgTu
import Derived.Test.YtcfabnkkkpcelaaPgL4
import Derived.Test.YtcfabnkkkpcelaaOpPage
set_option linter.unusedSimpArgs false
set_option linter.unusedVariables false
namespace Go.Proofs.Ytcfabnkkkpcelaa
open Go.RowKit Go.Lib
theorem tmod_nat (a : Int) (n : Nat) (h : 0 ≤ a) (hn : 0 < n) : ∃ m : Nat, a.tmod (n : Int) = (m : Int) ∧ m < n := by
  rw [Int.tmod_eq_emod_of_nonneg h]
  have h1 := Int.emod_nonneg a (show (n : Int) ≠ 0 by omega)
  have h2 := Int.emod_lt_of_pos a (show (0 : Int) < (n : Int) by omega)
  exact ⟨(a % (n : Int)).toNat, by omega, by omega⟩
theorem wrap_back {a : Int} (h0 : -9223372036854775808 ≤ a) (h : a < 0) : wrap64 (-wrap64 (a + 1)) = -(a + 1) := by unfold wrap64; omega
set_option maxRecDepth 10000 in
set_option maxHeartbeats 8000000 in
theorem turns_no (w : World) (s : Int) (P : Pg) (A : Option Addr) (n c : Nat) (B : Option Addr) (m d : Nat) (C : Option Addr) (k e : Nat) (D : Option Addr) (l f : Nat) (hP : pageWf w P A n c B m d C k e D l f) (at_ by_ : Int) (hat : i64R at_) (hby : 0 ≤ by_ ∧ by_ < 256) (hno : okE s P = false) :
    Calls Try.prog 7 #[.int .i64 s, pgV P (.slice A n c) (.slice B m d) (.slice C k e) (.slice D l f), .int .i64 at_, .int .u8 by_] w fun e w' => e = .returned (.bool true) ∧ Bel w w' := by
  have HO := hid_ hno
  clear hno hat hby
  obtain ⟨_, _, _, _, hP, hw⟩ := hP
  have HP := hid_ hP
  have HW := hid_ hw
  unfold pgV pgC
  clear hP hw
  go_enter Try.func7, Try.ntmps7
  go_upto_region 1 with (fail)
  have bx := Bx.new w 28 (pgC P (.slice A n c) (.slice B m d) (.slice C k e) (.slice D l f))
  have hb := (Bel.refl w).alloc (.cells (pgC P (.slice A n c) (.slice B m d) (.slice C k e) (.slice D l f)).toArray 28)
  unfold pgC at bx hb
  generalize w.alloc _ = W0 at bx hb ⊢
  generalize w.heap.size = g at bx ⊢
  have HB := hid_ hb
  have HP := hid_ (HP.out.bel hb)
  have BX := hid_ bx
  clear bx hb
  go_wp2_with fail
  refine (awake_any _).mono ?_
  rintro e0 w1 ⟨rfl, hb⟩
  have HP := hid_ (HP.out.bel hb)
  have BX := hid_ (BX.out.bel hb)
  have HB := hid_ (HB.out.trans hb)
  clear hb
  have c0 := BX.out.cell 0 rfl
  have c1 := BX.out.cell 1 rfl
  have c2 := BX.out.cell 2 rfl
  have c3 := BX.out.cell 3 rfl
  have c4 := BX.out.cell 4 rfl
  have c5 := BX.out.cell 5 rfl
  have c6 := BX.out.cell 6 rfl
  have c7 := BX.out.cell 7 rfl
  have c8 := BX.out.cell 8 rfl
  have c9 := BX.out.cell 9 rfl
  have c10 := BX.out.cell 10 rfl
  go_wp2_with fail
  refine (few_any P A B C D n c m d k e l f _ HP.out).mono ?_
  rintro e1 w2 ⟨⟨t, rfl, ht⟩, hb⟩
  clear c0 c1 c2 c3 c4 c5 c6 c7 c8 c9 c10
  have HP := hid_ (HP.out.bel hb)
  have BX := hid_ (BX.out.bel hb)
  have HB := hid_ (HB.out.trans hb)
  clear hb
  cases t
  · clear ht
    go_wp2
    go_ret
    exact ⟨rfl, HB.out⟩
  have HT := hid_ (ht rfl)
  clear ht
  have c0 := BX.out.cell 0 rfl
  have c1 := BX.out.cell 1 rfl
  have c2 := BX.out.cell 2 rfl
  have c3 := BX.out.cell 3 rfl
  have c4 := BX.out.cell 4 rfl
  have c5 := BX.out.cell 5 rfl
  have c6 := BX.out.cell 6 rfl
  have c7 := BX.out.cell 7 rfl
  have c8 := BX.out.cell 8 rfl
  have c9 := BX.out.cell 9 rfl
  have c10 := BX.out.cell 10 rfl
  go_wp2_with fail
  refine (encode_no s P A B C D n c m d k e l f _ HP.out HW.out (Nat.le_trans HT.out.1 (by omega)) (Nat.le_trans HT.out.2.1 (by omega)) (Nat.le_trans HT.out.2.2.1 (by omega)) (Nat.le_trans HT.out.2.2.2 (by omega)) HO.out).mono ?_
  rintro e3 w3 ⟨rfl, hb⟩
  go_wp2
  go_ret
  exact ⟨rfl, HB.out.trans hb⟩
set_option maxRecDepth 10000 in
set_option maxHeartbeats 8000000 in
theorem turns_nz (w : World) (s : Int) (P : Pg) (A : Option Addr) (n c : Nat) (B : Option Addr) (m d : Nat) (C : Option Addr) (k e : Nat) (D : Option Addr) (l f : Nat) (hP : pageWf w P A n c B m d C k e D l f) (at_ by_ : Int) (hat : i64R at_) (hby : 0 ≤ by_ ∧ by_ < 256) (hyes : okE s P = true) (hn : at_ < 0) (hz : by_ = 0) :
    Calls Try.prog 7 #[.int .i64 s, pgV P (.slice A n c) (.slice B m d) (.slice C k e) (.slice D l f), .int .i64 at_, .int .u8 by_] w fun e w' => e = .returned (.bool true) ∧ Bel w w' := by
  have hl := enc_len (s := s) (here_iff hyes).1
  have hbb := enc_byte (s := s) (here_iff hyes).1
  obtain ⟨m0, hm, hml⟩ : ∃ m0 : Nat, (wrap64 (-wrap64 (at_ + 1))).tmod 1024 = (m0 : Int) ∧ m0 < 1024 := by
    rw [wrap_back hat.1 hn]
    exact tmod_nat _ 1024 (by omega) (by omega)
  obtain ⟨b0, hb0⟩ : ∃ b0, (encP s P)[m0]? = some b0 := ⟨_, List.getElem?_eq_getElem (by rw [hl]; exact hml)⟩
  have hbr := hbb b0 (List.mem_of_getElem? hb0)
  have hx := xor_byte hbr hby
  obtain ⟨x0, hx0⟩ : ∃ x0, Go.bits .xor .u8 b0 by_ = x0 := ⟨_, rfl⟩
  rw [hx0] at hx
  have hgd : (encP s P).getD m0 0 = b0 := by rw [List.getD_eq_getElem?_getD, hb0]; rfl
  have hxe : x0 = b0 := by
    have := hx.2.2
    rw [hz] at this
    simpa using this
  have hset : decP s ((encP s P).set m0 x0) = some P := by
    have e : (encP s P).set m0 x0 = encP s P := by
      rw [hxe]
      apply List.ext_getElem?
      intro j
      by_cases hj : m0 = j
      · subst hj
        rw [List.getElem?_set_self (by rw [hl]; exact hml), hb0]
      · rw [List.getElem?_set_ne hj]
    rw [e, dec_enc hyes hP.2.2.2.2.2.2.2.1]
  clear hxe
  have hsb : ∀ y ∈ (encP s P).set m0 x0, 0 ≤ y ∧ y < 256 := fun y hy => by
    rcases List.mem_or_eq_of_mem_set hy with h | h
    · exact hbb y h
    · subst h; exact ⟨hx.1, hx.2.1⟩
  have HO := hid_ hyes
  have HL := hid_ hl
  have HM := hid_ hb0
  have HSB := hid_ hsb
  have HSET := hid_ hset
  have HXX := hid_ hx0
  have HMM := hid_ hm
  have HN := hid_ hn
  have HZ := hid_ hz
  have HML := hid_ hml
  clear hl hbb hm hb0 hbr hx hx0 hgd hset hsb hyes hn hz hat hby hml
  obtain ⟨_, _, _, _, hP, hw⟩ := hP
  have HP := hid_ hP
  have HW := hid_ hw
  unfold pgV pgC
  clear hP hw
  go_enter Try.func7, Try.ntmps7
  go_upto_region 1 with (fail)
  have bx := Bx.new w 28 (pgC P (.slice A n c) (.slice B m d) (.slice C k e) (.slice D l f))
  have hb := (Bel.refl w).alloc (.cells (pgC P (.slice A n c) (.slice B m d) (.slice C k e) (.slice D l f)).toArray 28)
  unfold pgC at bx hb
  generalize w.alloc _ = W0 at bx hb ⊢
  generalize w.heap.size = g at bx ⊢
  have HB := hid_ hb
  have HP := hid_ (HP.out.bel hb)
  have BX := hid_ bx
  clear bx hb
  go_wp2_with fail
  refine (awake_any _).mono ?_
  rintro e0 w1 ⟨rfl, hb⟩
  have HP := hid_ (HP.out.bel hb)
  have BX := hid_ (BX.out.bel hb)
  have HB := hid_ (HB.out.trans hb)
  clear hb
  have c0 := BX.out.cell 0 rfl
  have c1 := BX.out.cell 1 rfl
  have c2 := BX.out.cell 2 rfl
  have c3 := BX.out.cell 3 rfl
  have c4 := BX.out.cell 4 rfl
  have c5 := BX.out.cell 5 rfl
  have c6 := BX.out.cell 6 rfl
  have c7 := BX.out.cell 7 rfl
  have c8 := BX.out.cell 8 rfl
  have c9 := BX.out.cell 9 rfl
  have c10 := BX.out.cell 10 rfl
  go_wp2_with fail
  refine (few_any P A B C D n c m d k e l f _ HP.out).mono ?_
  rintro e1 w2 ⟨⟨t, rfl, ht⟩, hb⟩
  clear c0 c1 c2 c3 c4 c5 c6 c7 c8 c9 c10
  have HP := hid_ (HP.out.bel hb)
  have BX := hid_ (BX.out.bel hb)
  have HB := hid_ (HB.out.trans hb)
  clear hb
  cases t
  · clear ht
    go_wp2
    go_ret
    exact ⟨rfl, HB.out⟩
  have HT := hid_ (ht rfl)
  clear ht
  have c0 := BX.out.cell 0 rfl
  have c1 := BX.out.cell 1 rfl
  have c2 := BX.out.cell 2 rfl
  have c3 := BX.out.cell 3 rfl
  have c4 := BX.out.cell 4 rfl
  have c5 := BX.out.cell 5 rfl
  have c6 := BX.out.cell 6 rfl
  have c7 := BX.out.cell 7 rfl
  have c8 := BX.out.cell 8 rfl
  have c9 := BX.out.cell 9 rfl
  have c10 := BX.out.cell 10 rfl
  go_wp2_with fail
  refine (encode_yes s P A B C D n c m d k e l f _ HP.out HW.out (Nat.le_trans HT.out.1 (by omega)) (Nat.le_trans HT.out.2.1 (by omega)) (Nat.le_trans HT.out.2.2.1 (by omega)) (Nat.le_trans HT.out.2.2.2 (by omega)) HO.out).mono ?_
  rintro e3 w3 ⟨g9, rfl, hR, hg9, hb⟩
  clear c0 c1 c2 c3 c4 c5 c6 c7 c8 c9 c10
  have HB := hid_ (HB.out.trans hb)
  have HR := hid_ hR
  clear hR hg9 hb HP BX
  have hm := HMM.out
  have hn := HN.out
  have hxx := HXX.out
  have i0 : (0 : Int) ≤ (m0 : Int) := by omega
  have i1 : (m0 : Int) < 1024 := by have := HML.out; omega
  have i2 : m0 < 1024 := HML.out
  have hz : by_ = 0 := HZ.out
  subst hz
  obtain ⟨W, hW⟩ : ∃ W, w3 = W := ⟨_, rfl⟩
  rw [hW] at HB HR ⊢
  clear hW
  go_wp2_with (at_builtin; refine wpApp (w0 := W) byteS rfl _ _ rfl (.slice (some ⟨W.heap.size, 0, none⟩) 0 0) [] (encP s P) (some ⟨g9, 0, none⟩) 1024 1024 rfl rfl (Own.lit W W.heap.size [] (Nat.le_refl _) (by simp)) (HR.out.bel ((Bel.refl _).alloc _)) ((Bel.refl W).alloc _) (by simp) ?_; intro v1 w1 hO hb2 _ _; obtain ⟨g, cp, hv, hcc, hc1, hc2, hgg, hrow⟩ := storedP (W := W) (x := x0) HL.out hO HM.out; subst hv)
  have hb : Bel w (w1.setCell ⟨g, m0, none⟩ (.int .u8 x0)) := (HB.out.trans hb2).set_ (p := ⟨g, m0, none⟩) (Nat.le_trans HB.out.size_ hgg) _
  refine (decode_any s (some ⟨g, 0, none⟩) 1024 cp ((encP s P).set m0 x0) _ hrow hcc HSB.out).mono ?_
  have HB := hid_ hb
  clear hb hrow hcc hc1 hc2 hgg hb2 hO
  rintro e8 w8 hD
  rcases hD with ⟨q, v, hq, rfl, hIn, hb⟩ | ⟨hq, _⟩
  case inr => rw [HSET.out] at hq; cases hq
  rw [HSET.out] at hq
  injection hq with hq
  subst hq
  have HB := hid_ (HB.out.trans hb)
  clear hb
  obtain ⟨Q1, x1, y1, Q2, x2, y2, Q3, x3, y3, Q4, x4, y4, rfl, v1, v2, v3, v4, hQ⟩ := hIn
  have hvv : pgV P (.slice Q1 x1 y1) (.slice Q2 x2 y2) (.slice Q3 x3 y3) (.slice Q4 x4 y4) = .agg [.int .i64 P.kind, .slice Q1 x1 y1, .slice Q2 x2 y2, .slice Q3 x3 y3, .slice Q4 x4 y4, .int .i64 P.next, .int .u64 P.epoch, .int .i64 P.root, .int .i64 P.depth, .int .i64 P.count, .int .i64 P.high].toArray := rfl
  rw [hvv]
  clear hvv
  go_upto_region 13 with (fail)
  have hbx := Bx.new w8 28 [.int .i64 P.kind, .slice Q1 x1 y1, .slice Q2 x2 y2, .slice Q3 x3 y3, .slice Q4 x4 y4, .int .i64 P.next, .int .u64 P.epoch, .int .i64 P.root, .int .i64 P.depth, .int .i64 P.count, .int .i64 P.high]
  have hb := (Bel.refl w8).alloc (.cells [.int .i64 P.kind, .slice Q1 x1 y1, .slice Q2 x2 y2, .slice Q3 x3 y3, .slice Q4 x4 y4, .int .i64 P.next, .int .u64 P.epoch, .int .i64 P.root, .int .i64 P.depth, .int .i64 P.count, .int .i64 P.high].toArray 28)
  generalize w8.alloc _ = Wa at hbx hb ⊢
  generalize w8.heap.size = ga at hbx ⊢
  have HB := hid_ (HB.out.trans hb)
  clear hb
  have HBXa := hid_ hbx
  clear hbx
  have z0 := HBXa.out.cell 0 rfl
  have z1 := HBXa.out.cell 1 rfl
  have z2 := HBXa.out.cell 2 rfl
  have z3 := HBXa.out.cell 3 rfl
  have z4 := HBXa.out.cell 4 rfl
  have z5 := HBXa.out.cell 5 rfl
  have z6 := HBXa.out.cell 6 rfl
  have z7 := HBXa.out.cell 7 rfl
  have z8 := HBXa.out.cell 8 rfl
  have z9 := HBXa.out.cell 9 rfl
  have z10 := HBXa.out.cell 10 rfl
  go_wp2
  go_ret
  exact ⟨rfl, HB.out⟩
set_option maxRecDepth 10000 in
set_option maxHeartbeats 8000000 in
theorem turns_nx (w : World) (s : Int) (P : Pg) (A : Option Addr) (n c : Nat) (B : Option Addr) (m d : Nat) (C : Option Addr) (k e : Nat) (D : Option Addr) (l f : Nat) (hP : pageWf w P A n c B m d C k e D l f) (at_ by_ : Int) (hat : i64R at_) (hby : 0 ≤ by_ ∧ by_ < 256) (hyes : okE s P = true) (hn : at_ < 0) (hz : ¬ by_ = 0) :
    Calls Try.prog 7 #[.int .i64 s, pgV P (.slice A n c) (.slice B m d) (.slice C k e) (.slice D l f), .int .i64 at_, .int .u8 by_] w fun e w' => e = .returned (.bool true) ∧ Bel w w' := by
  have hl := enc_len (s := s) (here_iff hyes).1
  have hbb := enc_byte (s := s) (here_iff hyes).1
  obtain ⟨m0, hm, hml⟩ : ∃ m0 : Nat, (wrap64 (-wrap64 (at_ + 1))).tmod 1024 = (m0 : Int) ∧ m0 < 1024 := by
    rw [wrap_back hat.1 hn]
    exact tmod_nat _ 1024 (by omega) (by omega)
  obtain ⟨b0, hb0⟩ : ∃ b0, (encP s P)[m0]? = some b0 := ⟨_, List.getElem?_eq_getElem (by rw [hl]; exact hml)⟩
  have hbr := hbb b0 (List.mem_of_getElem? hb0)
  have hx := xor_byte hbr hby
  obtain ⟨x0, hx0⟩ : ∃ x0, Go.bits .xor .u8 b0 by_ = x0 := ⟨_, rfl⟩
  rw [hx0] at hx
  have hgd : (encP s P).getD m0 0 = b0 := by rw [List.getD_eq_getElem?_getD, hb0]; rfl
  have hset : decP s ((encP s P).set m0 x0) = none := turn_dec hyes hml ⟨hx.1, hx.2.1⟩ (fun e => by
    rw [hgd] at e
    have h3 := hx.2.2
    rw [e] at h3
    simp at h3
    exact hz h3)
  have hsb : ∀ y ∈ (encP s P).set m0 x0, 0 ≤ y ∧ y < 256 := fun y hy => by
    rcases List.mem_or_eq_of_mem_set hy with h | h
    · exact hbb y h
    · subst h; exact ⟨hx.1, hx.2.1⟩
  have HO := hid_ hyes
  have HL := hid_ hl
  have HM := hid_ hb0
  have HSB := hid_ hsb
  have HSET := hid_ hset
  have HXX := hid_ hx0
  have HMM := hid_ hm
  have HN := hid_ hn
  have HZ := hid_ hz
  have HML := hid_ hml
  clear hl hbb hm hb0 hbr hx hx0 hgd hset hsb hyes hn hz hat hby hml
  obtain ⟨_, _, _, _, hP, hw⟩ := hP
  have HP := hid_ hP
  have HW := hid_ hw
  unfold pgV pgC
  clear hP hw
  go_enter Try.func7, Try.ntmps7
  go_upto_region 1 with (fail)
  have bx := Bx.new w 28 (pgC P (.slice A n c) (.slice B m d) (.slice C k e) (.slice D l f))
  have hb := (Bel.refl w).alloc (.cells (pgC P (.slice A n c) (.slice B m d) (.slice C k e) (.slice D l f)).toArray 28)
  unfold pgC at bx hb
  generalize w.alloc _ = W0 at bx hb ⊢
  generalize w.heap.size = g at bx ⊢
  have HB := hid_ hb
  have HP := hid_ (HP.out.bel hb)
  have BX := hid_ bx
  clear bx hb
  go_wp2_with fail
  refine (awake_any _).mono ?_
  rintro e0 w1 ⟨rfl, hb⟩
  have HP := hid_ (HP.out.bel hb)
  have BX := hid_ (BX.out.bel hb)
  have HB := hid_ (HB.out.trans hb)
  clear hb
  have c0 := BX.out.cell 0 rfl
  have c1 := BX.out.cell 1 rfl
  have c2 := BX.out.cell 2 rfl
  have c3 := BX.out.cell 3 rfl
  have c4 := BX.out.cell 4 rfl
  have c5 := BX.out.cell 5 rfl
  have c6 := BX.out.cell 6 rfl
  have c7 := BX.out.cell 7 rfl
  have c8 := BX.out.cell 8 rfl
  have c9 := BX.out.cell 9 rfl
  have c10 := BX.out.cell 10 rfl
  go_wp2_with fail
  refine (few_any P A B C D n c m d k e l f _ HP.out).mono ?_
  rintro e1 w2 ⟨⟨t, rfl, ht⟩, hb⟩
  clear c0 c1 c2 c3 c4 c5 c6 c7 c8 c9 c10
  have HP := hid_ (HP.out.bel hb)
  have BX := hid_ (BX.out.bel hb)
  have HB := hid_ (HB.out.trans hb)
  clear hb
  cases t
  · clear ht
    go_wp2
    go_ret
    exact ⟨rfl, HB.out⟩
  have HT := hid_ (ht rfl)
  clear ht
  have c0 := BX.out.cell 0 rfl
  have c1 := BX.out.cell 1 rfl
  have c2 := BX.out.cell 2 rfl
  have c3 := BX.out.cell 3 rfl
  have c4 := BX.out.cell 4 rfl
  have c5 := BX.out.cell 5 rfl
  have c6 := BX.out.cell 6 rfl
  have c7 := BX.out.cell 7 rfl
  have c8 := BX.out.cell 8 rfl
  have c9 := BX.out.cell 9 rfl
  have c10 := BX.out.cell 10 rfl
  go_wp2_with fail
  refine (encode_yes s P A B C D n c m d k e l f _ HP.out HW.out (Nat.le_trans HT.out.1 (by omega)) (Nat.le_trans HT.out.2.1 (by omega)) (Nat.le_trans HT.out.2.2.1 (by omega)) (Nat.le_trans HT.out.2.2.2 (by omega)) HO.out).mono ?_
  rintro e3 w3 ⟨g9, rfl, hR, hg9, hb⟩
  clear c0 c1 c2 c3 c4 c5 c6 c7 c8 c9 c10
  have HB := hid_ (HB.out.trans hb)
  have HR := hid_ hR
  clear hR hg9 hb HP BX
  have hm := HMM.out
  have hn := HN.out
  have hxx := HXX.out
  have i0 : (0 : Int) ≤ (m0 : Int) := by omega
  have i1 : (m0 : Int) < 1024 := by have := HML.out; omega
  have i2 : m0 < 1024 := HML.out
  have hz : (by_ == 0) = false := by simp [HZ.out]
  obtain ⟨W, hW⟩ : ∃ W, w3 = W := ⟨_, rfl⟩
  rw [hW] at HB HR ⊢
  clear hW
  go_wp2_with (at_builtin; refine wpApp (w0 := W) byteS rfl _ _ rfl (.slice (some ⟨W.heap.size, 0, none⟩) 0 0) [] (encP s P) (some ⟨g9, 0, none⟩) 1024 1024 rfl rfl (Own.lit W W.heap.size [] (Nat.le_refl _) (by simp)) (HR.out.bel ((Bel.refl _).alloc _)) ((Bel.refl W).alloc _) (by simp) ?_; intro v1 w1 hO hb2 _ _; obtain ⟨g, cp, hv, hcc, hc1, hc2, hgg, hrow⟩ := storedP (W := W) (x := x0) HL.out hO HM.out; subst hv)
  have hb : Bel w (w1.setCell ⟨g, m0, none⟩ (.int .u8 x0)) := (HB.out.trans hb2).set_ (p := ⟨g, m0, none⟩) (Nat.le_trans HB.out.size_ hgg) _
  refine (decode_any s (some ⟨g, 0, none⟩) 1024 cp ((encP s P).set m0 x0) _ hrow hcc HSB.out).mono ?_
  have HB := hid_ hb
  clear hb hrow hcc hc1 hc2 hgg hb2 hO
  rintro e8 w8 hD
  rcases hD with ⟨q, v, hq, _⟩ | ⟨hq, rfl, hb⟩
  case inl => rw [HSET.out] at hq; cases hq
  have HB := hid_ (HB.out.trans hb)
  clear hb
  unfold zeroC
  go_upto_region 13 with (fail)
  have hbx := Bx.new w8 28 [.int .i64 0, .slice none 0 0, .slice none 0 0, .slice none 0 0, .slice none 0 0, .int .i64 0, .int .u64 0, .int .i64 0, .int .i64 0, .int .i64 0, .int .i64 0]
  have hb := (Bel.refl w8).alloc (.cells [.int .i64 0, .slice none 0 0, .slice none 0 0, .slice none 0 0, .slice none 0 0, .int .i64 0, .int .u64 0, .int .i64 0, .int .i64 0, .int .i64 0, .int .i64 0].toArray 28)
  generalize w8.alloc _ = Wa at hbx hb ⊢
  generalize w8.heap.size = ga at hbx ⊢
  have HB := hid_ (HB.out.trans hb)
  clear hb
  have HBXa := hid_ hbx
  clear hbx
  have z0 := HBXa.out.cell 0 rfl
  have z1 := HBXa.out.cell 1 rfl
  have z2 := HBXa.out.cell 2 rfl
  have z3 := HBXa.out.cell 3 rfl
  have z4 := HBXa.out.cell 4 rfl
  have z5 := HBXa.out.cell 5 rfl
  have z6 := HBXa.out.cell 6 rfl
  have z7 := HBXa.out.cell 7 rfl
  have z8 := HBXa.out.cell 8 rfl
  have z9 := HBXa.out.cell 9 rfl
  have z10 := HBXa.out.cell 10 rfl
  go_wp2
  go_ret
  exact ⟨rfl, HB.out⟩
set_option maxRecDepth 10000 in
set_option maxHeartbeats 8000000 in
theorem turns_pz (w : World) (s : Int) (P : Pg) (A : Option Addr) (n c : Nat) (B : Option Addr) (m d : Nat) (C : Option Addr) (k e : Nat) (D : Option Addr) (l f : Nat) (hP : pageWf w P A n c B m d C k e D l f) (at_ by_ : Int) (hat : i64R at_) (hby : 0 ≤ by_ ∧ by_ < 256) (hyes : okE s P = true) (hn : ¬ at_ < 0) (hz : by_ = 0) :
    Calls Try.prog 7 #[.int .i64 s, pgV P (.slice A n c) (.slice B m d) (.slice C k e) (.slice D l f), .int .i64 at_, .int .u8 by_] w fun e w' => e = .returned (.bool true) ∧ Bel w w' := by
  have hl := enc_len (s := s) (here_iff hyes).1
  have hbb := enc_byte (s := s) (here_iff hyes).1
  obtain ⟨m0, hm, hml⟩ : ∃ m0 : Nat, (at_).tmod 1024 = (m0 : Int) ∧ m0 < 1024 := by
    exact tmod_nat _ 1024 (by omega) (by omega)
  obtain ⟨b0, hb0⟩ : ∃ b0, (encP s P)[m0]? = some b0 := ⟨_, List.getElem?_eq_getElem (by rw [hl]; exact hml)⟩
  have hbr := hbb b0 (List.mem_of_getElem? hb0)
  have hx := xor_byte hbr hby
  obtain ⟨x0, hx0⟩ : ∃ x0, Go.bits .xor .u8 b0 by_ = x0 := ⟨_, rfl⟩
  rw [hx0] at hx
  have hgd : (encP s P).getD m0 0 = b0 := by rw [List.getD_eq_getElem?_getD, hb0]; rfl
  have hxe : x0 = b0 := by
    have := hx.2.2
    rw [hz] at this
    simpa using this
  have hset : decP s ((encP s P).set m0 x0) = some P := by
    have e : (encP s P).set m0 x0 = encP s P := by
      rw [hxe]
      apply List.ext_getElem?
      intro j
      by_cases hj : m0 = j
      · subst hj
        rw [List.getElem?_set_self (by rw [hl]; exact hml), hb0]
      · rw [List.getElem?_set_ne hj]
    rw [e, dec_enc hyes hP.2.2.2.2.2.2.2.1]
  clear hxe
  have hsb : ∀ y ∈ (encP s P).set m0 x0, 0 ≤ y ∧ y < 256 := fun y hy => by
    rcases List.mem_or_eq_of_mem_set hy with h | h
    · exact hbb y h
    · subst h; exact ⟨hx.1, hx.2.1⟩
  have HO := hid_ hyes
  have HL := hid_ hl
  have HM := hid_ hb0
  have HSB := hid_ hsb
  have HSET := hid_ hset
  have HXX := hid_ hx0
  have HMM := hid_ hm
  have HN := hid_ hn
  have HZ := hid_ hz
  have HML := hid_ hml
  clear hl hbb hm hb0 hbr hx hx0 hgd hset hsb hyes hn hz hat hby hml
  obtain ⟨_, _, _, _, hP, hw⟩ := hP
  have HP := hid_ hP
  have HW := hid_ hw
  unfold pgV pgC
  clear hP hw
  go_enter Try.func7, Try.ntmps7
  go_upto_region 1 with (fail)
  have bx := Bx.new w 28 (pgC P (.slice A n c) (.slice B m d) (.slice C k e) (.slice D l f))
  have hb := (Bel.refl w).alloc (.cells (pgC P (.slice A n c) (.slice B m d) (.slice C k e) (.slice D l f)).toArray 28)
  unfold pgC at bx hb
  generalize w.alloc _ = W0 at bx hb ⊢
  generalize w.heap.size = g at bx ⊢
  have HB := hid_ hb
  have HP := hid_ (HP.out.bel hb)
  have BX := hid_ bx
  clear bx hb
  go_wp2_with fail
  refine (awake_any _).mono ?_
  rintro e0 w1 ⟨rfl, hb⟩
  have HP := hid_ (HP.out.bel hb)
  have BX := hid_ (BX.out.bel hb)
  have HB := hid_ (HB.out.trans hb)
  clear hb
  have c0 := BX.out.cell 0 rfl
  have c1 := BX.out.cell 1 rfl
  have c2 := BX.out.cell 2 rfl
  have c3 := BX.out.cell 3 rfl
  have c4 := BX.out.cell 4 rfl
  have c5 := BX.out.cell 5 rfl
  have c6 := BX.out.cell 6 rfl
  have c7 := BX.out.cell 7 rfl
  have c8 := BX.out.cell 8 rfl
  have c9 := BX.out.cell 9 rfl
  have c10 := BX.out.cell 10 rfl
  go_wp2_with fail
  refine (few_any P A B C D n c m d k e l f _ HP.out).mono ?_
  rintro e1 w2 ⟨⟨t, rfl, ht⟩, hb⟩
  clear c0 c1 c2 c3 c4 c5 c6 c7 c8 c9 c10
  have HP := hid_ (HP.out.bel hb)
  have BX := hid_ (BX.out.bel hb)
  have HB := hid_ (HB.out.trans hb)
  clear hb
  cases t
  · clear ht
    go_wp2
    go_ret
    exact ⟨rfl, HB.out⟩
  have HT := hid_ (ht rfl)
  clear ht
  have c0 := BX.out.cell 0 rfl
  have c1 := BX.out.cell 1 rfl
  have c2 := BX.out.cell 2 rfl
  have c3 := BX.out.cell 3 rfl
  have c4 := BX.out.cell 4 rfl
  have c5 := BX.out.cell 5 rfl
  have c6 := BX.out.cell 6 rfl
  have c7 := BX.out.cell 7 rfl
  have c8 := BX.out.cell 8 rfl
  have c9 := BX.out.cell 9 rfl
  have c10 := BX.out.cell 10 rfl
  go_wp2_with fail
  refine (encode_yes s P A B C D n c m d k e l f _ HP.out HW.out (Nat.le_trans HT.out.1 (by omega)) (Nat.le_trans HT.out.2.1 (by omega)) (Nat.le_trans HT.out.2.2.1 (by omega)) (Nat.le_trans HT.out.2.2.2 (by omega)) HO.out).mono ?_
  rintro e3 w3 ⟨g9, rfl, hR, hg9, hb⟩
  clear c0 c1 c2 c3 c4 c5 c6 c7 c8 c9 c10
  have HB := hid_ (HB.out.trans hb)
  have HR := hid_ hR
  clear hR hg9 hb HP BX
  have hm := HMM.out
  have hn := HN.out
  have hxx := HXX.out
  have i0 : (0 : Int) ≤ (m0 : Int) := by omega
  have i1 : (m0 : Int) < 1024 := by have := HML.out; omega
  have i2 : m0 < 1024 := HML.out
  have hz : by_ = 0 := HZ.out
  subst hz
  obtain ⟨W, hW⟩ : ∃ W, w3 = W := ⟨_, rfl⟩
  rw [hW] at HB HR ⊢
  clear hW
  go_wp2_with (at_builtin; refine wpApp (w0 := W) byteS rfl _ _ rfl (.slice (some ⟨W.heap.size, 0, none⟩) 0 0) [] (encP s P) (some ⟨g9, 0, none⟩) 1024 1024 rfl rfl (Own.lit W W.heap.size [] (Nat.le_refl _) (by simp)) (HR.out.bel ((Bel.refl _).alloc _)) ((Bel.refl W).alloc _) (by simp) ?_; intro v1 w1 hO hb2 _ _; obtain ⟨g, cp, hv, hcc, hc1, hc2, hgg, hrow⟩ := storedP (W := W) (x := x0) HL.out hO HM.out; subst hv)
  have hb : Bel w (w1.setCell ⟨g, m0, none⟩ (.int .u8 x0)) := (HB.out.trans hb2).set_ (p := ⟨g, m0, none⟩) (Nat.le_trans HB.out.size_ hgg) _
  refine (decode_any s (some ⟨g, 0, none⟩) 1024 cp ((encP s P).set m0 x0) _ hrow hcc HSB.out).mono ?_
  have HB := hid_ hb
  clear hb hrow hcc hc1 hc2 hgg hb2 hO
  rintro e8 w8 hD
  rcases hD with ⟨q, v, hq, rfl, hIn, hb⟩ | ⟨hq, _⟩
  case inr => rw [HSET.out] at hq; cases hq
  rw [HSET.out] at hq
  injection hq with hq
  subst hq
  have HB := hid_ (HB.out.trans hb)
  clear hb
  obtain ⟨Q1, x1, y1, Q2, x2, y2, Q3, x3, y3, Q4, x4, y4, rfl, v1, v2, v3, v4, hQ⟩ := hIn
  have hvv : pgV P (.slice Q1 x1 y1) (.slice Q2 x2 y2) (.slice Q3 x3 y3) (.slice Q4 x4 y4) = .agg [.int .i64 P.kind, .slice Q1 x1 y1, .slice Q2 x2 y2, .slice Q3 x3 y3, .slice Q4 x4 y4, .int .i64 P.next, .int .u64 P.epoch, .int .i64 P.root, .int .i64 P.depth, .int .i64 P.count, .int .i64 P.high].toArray := rfl
  rw [hvv]
  clear hvv
  go_upto_region 13 with (fail)
  have hbx := Bx.new w8 28 [.int .i64 P.kind, .slice Q1 x1 y1, .slice Q2 x2 y2, .slice Q3 x3 y3, .slice Q4 x4 y4, .int .i64 P.next, .int .u64 P.epoch, .int .i64 P.root, .int .i64 P.depth, .int .i64 P.count, .int .i64 P.high]
  have hb := (Bel.refl w8).alloc (.cells [.int .i64 P.kind, .slice Q1 x1 y1, .slice Q2 x2 y2, .slice Q3 x3 y3, .slice Q4 x4 y4, .int .i64 P.next, .int .u64 P.epoch, .int .i64 P.root, .int .i64 P.depth, .int .i64 P.count, .int .i64 P.high].toArray 28)
  generalize w8.alloc _ = Wa at hbx hb ⊢
  generalize w8.heap.size = ga at hbx ⊢
  have HB := hid_ (HB.out.trans hb)
  clear hb
  have HBXa := hid_ hbx
  clear hbx
  have z0 := HBXa.out.cell 0 rfl
  have z1 := HBXa.out.cell 1 rfl
  have z2 := HBXa.out.cell 2 rfl
  have z3 := HBXa.out.cell 3 rfl
  have z4 := HBXa.out.cell 4 rfl
  have z5 := HBXa.out.cell 5 rfl
  have z6 := HBXa.out.cell 6 rfl
  have z7 := HBXa.out.cell 7 rfl
  have z8 := HBXa.out.cell 8 rfl
  have z9 := HBXa.out.cell 9 rfl
  have z10 := HBXa.out.cell 10 rfl
  go_wp2
  go_ret
  exact ⟨rfl, HB.out⟩
set_option maxRecDepth 10000 in
set_option maxHeartbeats 8000000 in
theorem turns_px (w : World) (s : Int) (P : Pg) (A : Option Addr) (n c : Nat) (B : Option Addr) (m d : Nat) (C : Option Addr) (k e : Nat) (D : Option Addr) (l f : Nat) (hP : pageWf w P A n c B m d C k e D l f) (at_ by_ : Int) (hat : i64R at_) (hby : 0 ≤ by_ ∧ by_ < 256) (hyes : okE s P = true) (hn : ¬ at_ < 0) (hz : ¬ by_ = 0) :
    Calls Try.prog 7 #[.int .i64 s, pgV P (.slice A n c) (.slice B m d) (.slice C k e) (.slice D l f), .int .i64 at_, .int .u8 by_] w fun e w' => e = .returned (.bool true) ∧ Bel w w' := by
  have hl := enc_len (s := s) (here_iff hyes).1
  have hbb := enc_byte (s := s) (here_iff hyes).1
  obtain ⟨m0, hm, hml⟩ : ∃ m0 : Nat, (at_).tmod 1024 = (m0 : Int) ∧ m0 < 1024 := by
    exact tmod_nat _ 1024 (by omega) (by omega)
  obtain ⟨b0, hb0⟩ : ∃ b0, (encP s P)[m0]? = some b0 := ⟨_, List.getElem?_eq_getElem (by rw [hl]; exact hml)⟩
  have hbr := hbb b0 (List.mem_of_getElem? hb0)
  have hx := xor_byte hbr hby
  obtain ⟨x0, hx0⟩ : ∃ x0, Go.bits .xor .u8 b0 by_ = x0 := ⟨_, rfl⟩
  rw [hx0] at hx
  have hgd : (encP s P).getD m0 0 = b0 := by rw [List.getD_eq_getElem?_getD, hb0]; rfl
  have hset : decP s ((encP s P).set m0 x0) = none := turn_dec hyes hml ⟨hx.1, hx.2.1⟩ (fun e => by
    rw [hgd] at e
    have h3 := hx.2.2
    rw [e] at h3
    simp at h3
    exact hz h3)
  have hsb : ∀ y ∈ (encP s P).set m0 x0, 0 ≤ y ∧ y < 256 := fun y hy => by
    rcases List.mem_or_eq_of_mem_set hy with h | h
    · exact hbb y h
    · subst h; exact ⟨hx.1, hx.2.1⟩
  have HO := hid_ hyes
  have HL := hid_ hl
  have HM := hid_ hb0
  have HSB := hid_ hsb
  have HSET := hid_ hset
  have HXX := hid_ hx0
  have HMM := hid_ hm
  have HN := hid_ hn
  have HZ := hid_ hz
  have HML := hid_ hml
  clear hl hbb hm hb0 hbr hx hx0 hgd hset hsb hyes hn hz hat hby hml
  obtain ⟨_, _, _, _, hP, hw⟩ := hP
  have HP := hid_ hP
  have HW := hid_ hw
  unfold pgV pgC
  clear hP hw
  go_enter Try.func7, Try.ntmps7
  go_upto_region 1 with (fail)
  have bx := Bx.new w 28 (pgC P (.slice A n c) (.slice B m d) (.slice C k e) (.slice D l f))
  have hb := (Bel.refl w).alloc (.cells (pgC P (.slice A n c) (.slice B m d) (.slice C k e) (.slice D l f)).toArray 28)
  unfold pgC at bx hb
  generalize w.alloc _ = W0 at bx hb ⊢
  generalize w.heap.size = g at bx ⊢
  have HB := hid_ hb
  have HP := hid_ (HP.out.bel hb)
  have BX := hid_ bx
  clear bx hb
  go_wp2_with fail
  refine (awake_any _).mono ?_
  rintro e0 w1 ⟨rfl, hb⟩
  have HP := hid_ (HP.out.bel hb)
  have BX := hid_ (BX.out.bel hb)
  have HB := hid_ (HB.out.trans hb)
  clear hb
  have c0 := BX.out.cell 0 rfl
  have c1 := BX.out.cell 1 rfl
  have c2 := BX.out.cell 2 rfl
  have c3 := BX.out.cell 3 rfl
  have c4 := BX.out.cell 4 rfl
  have c5 := BX.out.cell 5 rfl
  have c6 := BX.out.cell 6 rfl
  have c7 := BX.out.cell 7 rfl
  have c8 := BX.out.cell 8 rfl
  have c9 := BX.out.cell 9 rfl
  have c10 := BX.out.cell 10 rfl
  go_wp2_with fail
  refine (few_any P A B C D n c m d k e l f _ HP.out).mono ?_
  rintro e1 w2 ⟨⟨t, rfl, ht⟩, hb⟩
  clear c0 c1 c2 c3 c4 c5 c6 c7 c8 c9 c10
  have HP := hid_ (HP.out.bel hb)
  have BX := hid_ (BX.out.bel hb)
  have HB := hid_ (HB.out.trans hb)
  clear hb
  cases t
  · clear ht
    go_wp2
    go_ret
    exact ⟨rfl, HB.out⟩
  have HT := hid_ (ht rfl)
  clear ht
  have c0 := BX.out.cell 0 rfl
  have c1 := BX.out.cell 1 rfl
  have c2 := BX.out.cell 2 rfl
  have c3 := BX.out.cell 3 rfl
  have c4 := BX.out.cell 4 rfl
  have c5 := BX.out.cell 5 rfl
  have c6 := BX.out.cell 6 rfl
  have c7 := BX.out.cell 7 rfl
  have c8 := BX.out.cell 8 rfl
  have c9 := BX.out.cell 9 rfl
  have c10 := BX.out.cell 10 rfl
  go_wp2_with fail
  refine (encode_yes s P A B C D n c m d k e l f _ HP.out HW.out (Nat.le_trans HT.out.1 (by omega)) (Nat.le_trans HT.out.2.1 (by omega)) (Nat.le_trans HT.out.2.2.1 (by omega)) (Nat.le_trans HT.out.2.2.2 (by omega)) HO.out).mono ?_
  rintro e3 w3 ⟨g9, rfl, hR, hg9, hb⟩
  clear c0 c1 c2 c3 c4 c5 c6 c7 c8 c9 c10
  have HB := hid_ (HB.out.trans hb)
  have HR := hid_ hR
  clear hR hg9 hb HP BX
  have hm := HMM.out
  have hn := HN.out
  have hxx := HXX.out
  have i0 : (0 : Int) ≤ (m0 : Int) := by omega
  have i1 : (m0 : Int) < 1024 := by have := HML.out; omega
  have i2 : m0 < 1024 := HML.out
  have hz : (by_ == 0) = false := by simp [HZ.out]
  obtain ⟨W, hW⟩ : ∃ W, w3 = W := ⟨_, rfl⟩
  rw [hW] at HB HR ⊢
  clear hW
  go_wp2_with (at_builtin; refine wpApp (w0 := W) byteS rfl _ _ rfl (.slice (some ⟨W.heap.size, 0, none⟩) 0 0) [] (encP s P) (some ⟨g9, 0, none⟩) 1024 1024 rfl rfl (Own.lit W W.heap.size [] (Nat.le_refl _) (by simp)) (HR.out.bel ((Bel.refl _).alloc _)) ((Bel.refl W).alloc _) (by simp) ?_; intro v1 w1 hO hb2 _ _; obtain ⟨g, cp, hv, hcc, hc1, hc2, hgg, hrow⟩ := storedP (W := W) (x := x0) HL.out hO HM.out; subst hv)
  have hb : Bel w (w1.setCell ⟨g, m0, none⟩ (.int .u8 x0)) := (HB.out.trans hb2).set_ (p := ⟨g, m0, none⟩) (Nat.le_trans HB.out.size_ hgg) _
  refine (decode_any s (some ⟨g, 0, none⟩) 1024 cp ((encP s P).set m0 x0) _ hrow hcc HSB.out).mono ?_
  have HB := hid_ hb
  clear hb hrow hcc hc1 hc2 hgg hb2 hO
  rintro e8 w8 hD
  rcases hD with ⟨q, v, hq, _⟩ | ⟨hq, rfl, hb⟩
  case inl => rw [HSET.out] at hq; cases hq
  have HB := hid_ (HB.out.trans hb)
  clear hb
  unfold zeroC
  go_upto_region 13 with (fail)
  have hbx := Bx.new w8 28 [.int .i64 0, .slice none 0 0, .slice none 0 0, .slice none 0 0, .slice none 0 0, .int .i64 0, .int .u64 0, .int .i64 0, .int .i64 0, .int .i64 0, .int .i64 0]
  have hb := (Bel.refl w8).alloc (.cells [.int .i64 0, .slice none 0 0, .slice none 0 0, .slice none 0 0, .slice none 0 0, .int .i64 0, .int .u64 0, .int .i64 0, .int .i64 0, .int .i64 0, .int .i64 0].toArray 28)
  generalize w8.alloc _ = Wa at hbx hb ⊢
  generalize w8.heap.size = ga at hbx ⊢
  have HB := hid_ (HB.out.trans hb)
  clear hb
  have HBXa := hid_ hbx
  clear hbx
  have z0 := HBXa.out.cell 0 rfl
  have z1 := HBXa.out.cell 1 rfl
  have z2 := HBXa.out.cell 2 rfl
  have z3 := HBXa.out.cell 3 rfl
  have z4 := HBXa.out.cell 4 rfl
  have z5 := HBXa.out.cell 5 rfl
  have z6 := HBXa.out.cell 6 rfl
  have z7 := HBXa.out.cell 7 rfl
  have z8 := HBXa.out.cell 8 rfl
  have z9 := HBXa.out.cell 9 rfl
  have z10 := HBXa.out.cell 10 rfl
  go_wp2
  go_ret
  exact ⟨rfl, HB.out⟩
theorem walkPageTurns (w : World) (s : Int) (hs : (Lit.int .i64 s).wf = true) (P : Pg) (A : Option Addr) (n c : Nat) (B : Option Addr) (m d : Nat) (C : Option Addr) (k e : Nat) (D : Option Addr) (l f : Nat) (hP : pageWf w P A n c B m d C k e D l f) (at_ : Int) (ht : (Lit.int .i64 at_).wf = true) (by_ : Int) (hb : (Lit.int .u8 by_).wf = true) :
    Calls Try.prog 7 #[.int .i64 s, pgV P (.slice A n c) (.slice B m d) (.slice C k e) (.slice D l f), .int .i64 at_, .int .u8 by_] w fun e w' => e = .returned (.bool true) ∧ Bel w w' := by
  have hat : i64R at_ := wf_i64 ht
  have hby : 0 ≤ by_ ∧ by_ < 256 := bytesRange (l := [by_]) (fun x hx => by rw [List.mem_singleton.1 hx]; exact hb) by_ (List.mem_singleton.2 rfl)
  by_cases ho : okE s P = true
  · by_cases hn : at_ < 0
    · by_cases hz : by_ = 0
      · exact turns_nz w s P A n c B m d C k e D l f hP at_ by_ hat hby ho hn hz
      · exact turns_nx w s P A n c B m d C k e D l f hP at_ by_ hat hby ho hn hz
    · by_cases hz : by_ = 0
      · exact turns_pz w s P A n c B m d C k e D l f hP at_ by_ hat hby ho hn hz
      · exact turns_px w s P A n c B m d C k e D l f hP at_ by_ hat hby ho hn hz
  · exact turns_no w s P A n c B m d C k e D l f hP at_ by_ hat hby (by simpa using ho)
end Go.Proofs.Ytcfabnkkkpcelaa
