/- The document's answer on pages: body: the walks. -/
import Derived.Test.YtcfabnkkkpcelaaR5b
import Derived.Test.YtcfabnkkkpcelaaPgE4
import Derived.Deep.DeepCutAuto
set_option linter.unusedSimpArgs false
set_option linter.unusedVariables false
namespace Go.Proofs.Ytcfabnkkkpcelaa
open Go.RowKit Go.Lib
theorem fo_len (n : Int) : (fo n).length = 4 := rfl
theorem Own.rowOf {α : Type} {T : Ty α} {w : World} {base : Nat} {A : Option Addr} {n c : Nat} {xs : List α} (h : Own T w base (.slice A n c) xs) : Row T w A xs.length xs := by
  obtain ⟨A', c', e, _, hr⟩ := h.reads
  injection e with e1 e2 e3
  subst e1
  exact hr
set_option maxRecDepth 10000 in
set_option maxHeartbeats 8000000 in
theorem body5_1 (P : Pg) (A B C D : Option Addr) (n c m d k e l f : Nat) (w : World) (hP : PgAt w P A n B m C k D l) (hk : P.kind = 1) (hs : n ≤ 6) (hz : ∀ x ∈ P.pairs, x.key.size < 256 ∧ x.val.size < 256) :
    Calls Try.prog 27 #[pgV P (.slice A n c) (.slice B m d) (.slice C k e) (.slice D l f)] w fun e w' => ∃ v, e = .returned v ∧ Own byteT w' w.heap.size v (body1 P) ∧ Bel w w' := by
  have hn1 := hP.pairs.1
  have hn2 := hP.keys.1
  have hn3 := hP.kids.1
  have hn4 := hP.pages.1
  have z1 := hP.pairs.2.1
  have z2 := hP.keys.2.1
  have z3 := hP.kids.2.1
  have z4 := hP.pages.2.1
  have HLN1 := hid_ (And.intro hn1 (And.intro hn2 (And.intro hn3 hn4)))
  have HK := hid_ hk
  clear hk hn1 hn2 hn3 hn4
  have HZ := hid_ hz
  have HS : Hid (n ≤ 6) := hid_ hs
  clear hz hs
  have HP := hid_ hP
  unfold pgV pgC
  clear hP
  go_enter Try.func27, Try.ntmps27
  go_upto_region 2 with (fail)
  have bx := Bx.new w 28 (pgC P (.slice A n c) (.slice B m d) (.slice C k e) (.slice D l f))
  have hb := (Bel.refl w).alloc (.cells (pgC P (.slice A n c) (.slice B m d) (.slice C k e) (.slice D l f)).toArray 28)
  unfold pgC at bx hb
  generalize w.alloc _ = W0 at bx hb ⊢
  generalize w.heap.size = g at bx ⊢
  have HB := hid_ hb
  have HP := hid_ (HP.out.bel hb)
  have c0 := bx.cell 0 rfl
  have c1 := bx.cell 1 rfl
  clear bx hb
  have r1 : (P.kind == 1) = true := by have := HK.out; rw [beqI]; exact decide_eq_true (by omega)
  have HE0 : Hid ((0 : Int) ≤ (n : Int) ∧ (n : Int) < 65536) := hid_ (by have := HS.out; omega)
  have C1 := hid_ c1
  go_wp2_with fail
  refine (two5_any (n : Int) HE0.out _).mono ?_
  rintro e w1 ⟨v1, rfl, hO1, hb1⟩
  go_wp2_with fail
  go_loopw [3, 4] (fun v i wr => ∃ j : Nat, j ≤ n ∧ i = .int .i64 j ∧ Bel W0 wr ∧ Own byteT wr W0.heap.size v (tw n ++ (P.pairs.take j).flatMap pairB)) (fun _ i _ => n - (Go.RowKit.intOf i).toNat)
  case atStart => exact ⟨0, Nat.zero_le _, rfl, hb1, by simpa using hO1⟩
  case round =>
    obtain ⟨j, hj, rfl, hC, hO⟩ := hrel
    replace c1 := hC.cell_ C1.out
    clear hO1 hb1 c0 r1
    by_cases hjn : j < n
    · obtain ⟨ad, y, rfl, ho, e0, e1⟩ := HP.out.pairs.pair hjn
      have d0 := hC.cell_ e0
      have d1 := hC.cell_ e1
      have E01 := hid_ (And.intro e0 e1)
      have i0 : (0 : Int) ≤ (j : Int) := by omega
      have i1 : (j : Int) < (n : Int) := by omega
      have HFS := hid_ (flat_snoc pairB P.pairs j ho)
      have HZY := hid_ (HZ.out y (List.mem_of_getElem? ho))
      obtain ⟨L, hL⟩ : ∃ L, tw (n : Int) ++ (P.pairs.take j).flatMap pairB = L := ⟨_, rfl⟩
      rw [hL] at hO
      have HLN : Hid (L.length ≤ 10000 ∧ y.key.size ≤ 256 ∧ y.val.size ≤ 256) := hid_ (by
        rw [← hL]
        have h1 := flat_le (f := pairB) (c := 514) (P.pairs.take j) (fun x hx => by have := HZ.out x (List.mem_of_mem_take hx); rw [pairB_len]; omega)
        have h2 : (P.pairs.take j).length ≤ 6 := by rw [List.length_take]; have := HS.out; omega
        have h3 := HZY.out
        rw [List.length_append, tw_len]
        omega)
      have HFL : Hid (tw (n : Int) ++ (P.pairs.take (j + 1)).flatMap pairB = L ++ txt y.key ++ txt y.val) := hid_ (by rw [HFS.out, ← hL, pairB]; simp only [List.append_assoc])
      clear ho hL HFS e0 e1
      go_upto_region 8 with (fail)
      have HKP : Hid (∀ W, Bel W0 W → (fun W => W.cell? ⟨g, 1, none⟩ = some (.slice (some ad) n c) ∧ W.cell? (ad.add (j * 2)) = some (.string y.key) ∧ W.cell? ⟨(ad.add (j * 2)).block, (ad.add (j * 2)).off + 1, none⟩ = some (.string y.val)) W) := hid_ (fun W hW => ⟨hW.cell_ C1.out, hW.cell_ E01.out.1, hW.cell_ E01.out.2⟩)
      go_region_held3 (fun W => W.cell? ⟨g, 1, none⟩ = some (.slice (some ad) n c) ∧ W.cell? (ad.add (j * 2)) = some (.string y.key) ∧ W.cell? ⟨(ad.add (j * 2)).block, (ad.add (j * 2)).off + 1, none⟩ = some (.string y.val)) ((refine HKP.out _ ?_; repeat first | with_reducible exact hC | with_reducible exact Bel.refl _ | with_reducible apply Bel.drew | with_reducible apply Bel.alloc))
        (first
        | (go_at_call 54; with_reducible refine' Calls.mono (text5_any y.key HZY.out.1 _) ?_; rintro e wa ⟨va, rfl, ha, hba⟩; obtain ⟨Aa, ca, hva, hca, _⟩ := ha.reads; subst hva; (first | (have na := NeRow.later ha (hO.bel (by repeat first | with_reducible exact Bel.refl _ | with_reducible apply Bel.drew | with_reducible apply Bel.alloc))) | skip); (first | (replace hO := (hO.bel (by repeat first | with_reducible exact Bel.refl _ | with_reducible apply Bel.drew | with_reducible apply Bel.alloc)).bel hba) | skip); (first | (replace hb := (hb.bel (by repeat first | with_reducible exact Bel.refl _ | with_reducible apply Bel.drew | with_reducible apply Bel.alloc)).bel hba) | skip); replace hC := (hC.trans (by repeat first | with_reducible exact Bel.refl _ | with_reducible apply Bel.drew | with_reducible apply Bel.alloc)).trans hba)
        | (go_at_call 54; with_reducible refine' Calls.mono (text5_any y.val HZY.out.2 _) ?_; rintro e wb ⟨vb, rfl, hb, hbb⟩; obtain ⟨Ab, cb, hvb, hcb, _⟩ := hb.reads; subst hvb; (first | (have nb := NeRow.later hb (hO.bel (by repeat first | with_reducible exact Bel.refl _ | with_reducible apply Bel.drew | with_reducible apply Bel.alloc))) | skip); (first | (replace hO := (hO.bel (by repeat first | with_reducible exact Bel.refl _ | with_reducible apply Bel.drew | with_reducible apply Bel.alloc)).bel hbb) | skip); (first | (replace ha := (ha.bel (by repeat first | with_reducible exact Bel.refl _ | with_reducible apply Bel.drew | with_reducible apply Bel.alloc)).bel hbb) | skip); replace hC := (hC.trans (by repeat first | with_reducible exact Bel.refl _ | with_reducible apply Bel.drew | with_reducible apply Bel.alloc)).trans hbb)
        | (refine stepApp (w0 := W0) byteS rfl _ _ rfl u3 (L) (txt y.key) Aa (txt y.key).length ca rfl rfl (hO.bel (by repeat first | with_reducible exact Bel.refl _ | with_reducible apply Bel.drew | with_reducible apply Bel.alloc)) ((ha.bel (by repeat first | with_reducible exact Bel.refl _ | with_reducible apply Bel.drew | with_reducible apply Bel.alloc)).rowOf) (hC.trans (by repeat first | with_reducible exact Bel.refl _ | with_reducible apply Bel.drew | with_reducible apply Bel.alloc)) (by have := HLN.out; have hz1 := HZY.out; simp only [List.length_append, txt_len, tw_len, Nat.mul_one] at this ⊢; omega) ?_; intro vO xO hOn hbO hgO hatO; (first | (have mb := (NeRow.app nb.symm hatO (hb.bel (by repeat first | with_reducible exact Bel.refl _ | with_reducible apply Bel.drew | with_reducible apply Bel.alloc))).symm; replace hb := (hb.bel (by repeat first | with_reducible exact Bel.refl _ | with_reducible apply Bel.drew | with_reducible apply Bel.alloc)).kept_ hgO nb.symm.other; replace nb := mb) | skip); replace hO := hOn; replace hC := hbO; (first | clear ha na | clear ha | skip))
        | (refine stepApp (w0 := W0) byteS rfl _ _ rfl vO (L ++ txt y.key) (txt y.val) Ab (txt y.val).length cb rfl rfl (hO.bel (by repeat first | with_reducible exact Bel.refl _ | with_reducible apply Bel.drew | with_reducible apply Bel.alloc)) ((hb.bel (by repeat first | with_reducible exact Bel.refl _ | with_reducible apply Bel.drew | with_reducible apply Bel.alloc)).rowOf) (hC.trans (by repeat first | with_reducible exact Bel.refl _ | with_reducible apply Bel.drew | with_reducible apply Bel.alloc)) (by have := HLN.out; have hz1 := HZY.out; simp only [List.length_append, txt_len, tw_len, Nat.mul_one] at this ⊢; omega) ?_; intro vO xO hOn hbO hgO hatO; (first | (have ma := (NeRow.app na.symm hatO (ha.bel (by repeat first | with_reducible exact Bel.refl _ | with_reducible apply Bel.drew | with_reducible apply Bel.alloc))).symm; replace ha := (ha.bel (by repeat first | with_reducible exact Bel.refl _ | with_reducible apply Bel.drew | with_reducible apply Bel.alloc)).kept_ hgO na.symm.other; replace na := ma) | skip); replace hO := hOn; replace hC := hbO; (first | clear hb nb | clear hb | skip)))
      all_goals (
        clear HKP
        go_wp2
        go_roundw
        case rel => exact ⟨j + 1, by omega, by go_num, hC, by rw [HFL.out]; exact hO⟩
        case measure => simp [Go.RowKit.intOf]; omega)
    · obtain rfl : j = n := by omega
      have hfull : P.pairs.take j = P.pairs := by rw [← HLN1.out.1, List.take_length]
      rw [hfull] at hO
      have HE : Hid (body1 P = tw j ++ P.pairs.flatMap pairB) := hid_ (by rw [body1, HLN1.out.1])
      go_wp2
      go_ret
      exact ⟨_, rfl, by rw [HE.out]; exact hO.mono_ HB.out.size_, HB.out.trans hC⟩
set_option maxRecDepth 10000 in
set_option maxHeartbeats 8000000 in
theorem body5_2 (P : Pg) (A B C D : Option Addr) (n c m d k e l f : Nat) (w : World) (hP : PgAt w P A n B m C k D l) (hk : P.kind = 2) (hm1 : 1 ≤ m) (hm2 : m ≤ 12) (hkm : k = m + 1) (hz : ∀ x ∈ P.keys, x.size < 256) (hd : ∀ x ∈ P.kids, 0 ≤ x ∧ x < 65536) :
    Calls Try.prog 27 #[pgV P (.slice A n c) (.slice B m d) (.slice C k e) (.slice D l f)] w fun e w' => ∃ v, e = .returned v ∧ Own byteT w' w.heap.size v (body2 P) ∧ Bel w w' := by
  have hn1 := hP.pairs.1
  have hn2 := hP.keys.1
  have hn3 := hP.kids.1
  have hn4 := hP.pages.1
  have z1 := hP.pairs.2.1
  have z2 := hP.keys.2.1
  have z3 := hP.kids.2.1
  have z4 := hP.pages.2.1
  have HLN1 := hid_ (And.intro hn1 (And.intro hn2 (And.intro hn3 hn4)))
  have HK := hid_ hk
  clear hk hn1 hn2 hn3 hn4
  have HZ := hid_ hz
  have HD := hid_ hd
  have HS : Hid (1 ≤ m ∧ m ≤ 12 ∧ k = m + 1) := hid_ ⟨hm1, hm2, hkm⟩
  clear hz hd hm1 hm2 hkm
  have HP := hid_ hP
  unfold pgV pgC
  clear hP
  go_enter Try.func27, Try.ntmps27
  go_upto_region 2 with (fail)
  have bx := Bx.new w 28 (pgC P (.slice A n c) (.slice B m d) (.slice C k e) (.slice D l f))
  have hb := (Bel.refl w).alloc (.cells (pgC P (.slice A n c) (.slice B m d) (.slice C k e) (.slice D l f)).toArray 28)
  unfold pgC at bx hb
  generalize w.alloc _ = W0 at bx hb ⊢
  generalize w.heap.size = g at bx ⊢
  have HB := hid_ hb
  have HP := hid_ (HP.out.bel hb)
  have c0 := bx.cell 0 rfl
  have c2 := bx.cell 2 rfl
  have c3 := bx.cell 3 rfl
  clear bx hb
  have r1 : (P.kind == 1) = false := by have := HK.out; rw [beqI]; exact decide_eq_false (by omega)
  have r2 : (P.kind == 2) = true := by have := HK.out; rw [beqI]; exact decide_eq_true (by omega)
  have HE0 : Hid ((0 : Int) ≤ (m : Int) ∧ (m : Int) < 65536) := hid_ (by have := HS.out; omega)
  have C2 := hid_ c2
  obtain ⟨adC, d0, rfl, hd0, z0⟩ := HP.out.kids.int (show 0 < k by have := HS.out; omega)
  have z0 : W0.cell? adC = some (.int .i64 d0) := z0
  have q0 : (0 : Int) < (k : Int) := by have := HS.out; omega
  have q1 : 0 < k := by have := HS.out; omega
  have C3 := hid_ c3
  have Z0 := hid_ z0
  have HDD := hid_ (HD.out d0 (List.mem_of_getElem? hd0))
  have HD0 : Hid (P.kids.getD 0 0 = d0) := hid_ (by rw [List.getD_eq_getElem?_getD, hd0]; rfl)
  clear hd0
  have hC := Bel.refl W0
  have HLN : Hid (0 ≤ 0) := hid_ (Nat.le_refl _)
  go_upto_region 10 with (fail)
  have HKP : Hid (∀ W, Bel W0 W → (fun W => W.cell? ⟨g, 2, none⟩ = some (.slice B m d) ∧ W.cell? ⟨g, 3, none⟩ = some (.slice (some adC) k e) ∧ W.cell? adC = some (.int .i64 d0)) W) := hid_ (fun W hW => ⟨hW.cell_ C2.out, hW.cell_ C3.out, hW.cell_ Z0.out⟩)
  go_region_held3 (fun W => W.cell? ⟨g, 2, none⟩ = some (.slice B m d) ∧ W.cell? ⟨g, 3, none⟩ = some (.slice (some adC) k e) ∧ W.cell? adC = some (.int .i64 d0)) ((refine HKP.out _ ?_; repeat first | with_reducible exact hC | with_reducible exact Bel.refl _ | with_reducible apply Bel.drew | with_reducible apply Bel.alloc))
    (first
    | (go_at_call 26; with_reducible refine' Calls.mono (two5_any (m : Int) HE0.out _) ?_; rintro e wa ⟨va, rfl, ha, hba⟩; obtain ⟨Aa, ca, hva, hca, _⟩ := ha.reads; subst hva; (first | (have nb := (NeRow.later ha (hb.bel (by repeat first | with_reducible exact Bel.refl _ | with_reducible apply Bel.drew | with_reducible apply Bel.alloc))).symm) | skip); have hO := ha.mono_ (Bel.size_ (hC.trans (by repeat first | with_reducible exact Bel.refl _ | with_reducible apply Bel.drew | with_reducible apply Bel.alloc))); (first | (replace hb := (hb.bel (by repeat first | with_reducible exact Bel.refl _ | with_reducible apply Bel.drew | with_reducible apply Bel.alloc)).bel hba) | skip); replace hC := (hC.trans (by repeat first | with_reducible exact Bel.refl _ | with_reducible apply Bel.drew | with_reducible apply Bel.alloc)).trans hba)
    | (go_at_call 26; with_reducible refine' Calls.mono (two5_any d0 HDD.out _) ?_; rintro e wb ⟨vb, rfl, hb, hbb⟩; obtain ⟨Ab, cb, hvb, hcb, _⟩ := hb.reads; subst hvb; (first | (have nb := NeRow.later hb (hO.bel (by repeat first | with_reducible exact Bel.refl _ | with_reducible apply Bel.drew | with_reducible apply Bel.alloc))) | skip); (first | (replace hO := (hO.bel (by repeat first | with_reducible exact Bel.refl _ | with_reducible apply Bel.drew | with_reducible apply Bel.alloc)).bel hbb) | skip); replace hC := (hC.trans (by repeat first | with_reducible exact Bel.refl _ | with_reducible apply Bel.drew | with_reducible apply Bel.alloc)).trans hbb)
    | (refine stepApp (w0 := W0) byteS rfl _ _ rfl (.slice Aa (tw (m : Int)).length ca) (tw (m : Int)) (tw d0) Ab (tw d0).length cb rfl rfl (hO.bel (by repeat first | with_reducible exact Bel.refl _ | with_reducible apply Bel.drew | with_reducible apply Bel.alloc)) ((hb.bel (by repeat first | with_reducible exact Bel.refl _ | with_reducible apply Bel.drew | with_reducible apply Bel.alloc)).rowOf) (hC.trans (by repeat first | with_reducible exact Bel.refl _ | with_reducible apply Bel.drew | with_reducible apply Bel.alloc)) (by have := HLN.out; simp only [List.length_append, txt_len, tw_len, Nat.mul_one] at this ⊢; omega) ?_; intro vO xO hOn hbO hgO hatO; replace hO := hOn; replace hC := hbO; (first | clear hb nb | clear hb | skip)))
  all_goals (
    clear HKP HLN z0
    go_wp2_with fail
    go_loopw [3, 5] (fun v i wr => ∃ j : Nat, j ≤ m ∧ i = .int .i64 j ∧ Bel W0 wr ∧ Own byteT wr W0.heap.size v (tw m ++ (tw d0 ++ ((P.keys.zip P.kids.tail).take j).flatMap kidB))) (fun _ i _ => m - (Go.RowKit.intOf i).toNat)
    case atStart => exact ⟨0, Nat.zero_le _, rfl, hC, by simpa using hO⟩
    case round =>
      clear hC hO c0 c2 c3 r1 r2
      obtain ⟨j, hj, rfl, hC, hO⟩ := hrel
      have c2 := hC.cell_ C2.out
      have c3 := hC.cell_ C3.out
      by_cases hjn : j < m
      · obtain ⟨ad, y, rfl, ho, e0⟩ := HP.out.keys.str hjn
        obtain ⟨adC', x, e', ho', e1⟩ := HP.out.kids.int (show j + 1 < k by have := HS.out; omega)
        injection e' with e'
        subst e'
        have e1 : W0.cell? ⟨adC.block, adC.off + (j + 1), none⟩ = some (.int .i64 x) := by rw [← addS]; exact e1
        have d1 := hC.cell_ e0
        have d2 := hC.cell_ e1
        have E01 := hid_ (And.intro e0 e1)
        have i0 : (0 : Int) ≤ (j : Int) := by omega
        have i1 : (j : Int) < (m : Int) := by omega
        have hzp : (P.keys.zip P.kids.tail)[j]? = some (y, x) := by
          rw [List.getElem?_zip_eq_some]
          exact ⟨ho, by rw [List.getElem?_tail]; exact ho'⟩
        have HFS := hid_ (flat_snoc kidB (P.keys.zip P.kids.tail) j hzp)
        have HZY := hid_ (HZ.out y (List.mem_of_getElem? ho))
        have HZX := hid_ (HD.out x (List.mem_of_getElem? ho'))
        obtain ⟨L, hL⟩ : ∃ L, tw (m : Int) ++ (tw d0 ++ ((P.keys.zip P.kids.tail).take j).flatMap kidB) = L := ⟨_, rfl⟩
        rw [hL] at hO
        have HLN : Hid (L.length ≤ 10000 ∧ y.size ≤ 256) := hid_ (by
          rw [← hL]
          have h1 := flat_le (f := kidB) (c := 259) ((P.keys.zip P.kids.tail).take j) (fun z hz => by have := HZ.out z.1 (List.of_mem_zip (List.mem_of_mem_take hz)).1; rw [kidB_len]; omega)
          have h2 : ((P.keys.zip P.kids.tail).take j).length ≤ 12 := by rw [List.length_take]; have := HS.out; omega
          have h3 := HZY.out
          rw [List.length_append, List.length_append, tw_len, tw_len]
          omega)
        have HFL : Hid (tw (m : Int) ++ (tw d0 ++ ((P.keys.zip P.kids.tail).take (j + 1)).flatMap kidB) = L ++ txt y ++ tw x) := hid_ (by rw [HFS.out, ← hL, kidB]; simp only [List.append_assoc])
        clear ho ho' hL HFS e0 e1 hzp
        have j1 : (0 : Int) ≤ (j : Int) + 1 := by omega
        have j2 : (j : Int) + 1 < (k : Int) := by have := HS.out; omega
        have j3 : IntKind.i64.wrap ((j : Int) + 1) = (j : Int) + 1 := by rw [IntKind.wrap_i64]; have := HS.out; omega
        have j4 : j + 1 < k := by have := HS.out; omega
        go_upto_region 14 with (fail)
        have HKP : Hid (∀ W, Bel W0 W → (fun W => W.cell? ⟨g, 2, none⟩ = some (.slice (some ad) m d) ∧ W.cell? ⟨g, 3, none⟩ = some (.slice (some adC) k e) ∧ W.cell? (ad.add j) = some (.string y) ∧ W.cell? ⟨adC.block, adC.off + (j + 1), none⟩ = some (.int .i64 x)) W) := hid_ (fun W hW => ⟨hW.cell_ C2.out, hW.cell_ C3.out, hW.cell_ E01.out.1, hW.cell_ E01.out.2⟩)
        go_region_held3 (fun W => W.cell? ⟨g, 2, none⟩ = some (.slice (some ad) m d) ∧ W.cell? ⟨g, 3, none⟩ = some (.slice (some adC) k e) ∧ W.cell? (ad.add j) = some (.string y) ∧ W.cell? ⟨adC.block, adC.off + (j + 1), none⟩ = some (.int .i64 x)) ((refine HKP.out _ ?_; repeat first | with_reducible exact hC | with_reducible exact Bel.refl _ | with_reducible apply Bel.drew | with_reducible apply Bel.alloc))
          (first
          | (go_at_call 54; with_reducible refine' Calls.mono (text5_any y HZY.out _) ?_; rintro e wp ⟨vp, rfl, hp, hbp⟩; obtain ⟨Ap, cp, hvp, hcp, _⟩ := hp.reads; subst hvp; (first | (have np := NeRow.later hp (hO.bel (by repeat first | with_reducible exact Bel.refl _ | with_reducible apply Bel.drew | with_reducible apply Bel.alloc))) | skip); (first | (replace hO := (hO.bel (by repeat first | with_reducible exact Bel.refl _ | with_reducible apply Bel.drew | with_reducible apply Bel.alloc)).bel hbp) | skip); (first | (replace hq := (hq.bel (by repeat first | with_reducible exact Bel.refl _ | with_reducible apply Bel.drew | with_reducible apply Bel.alloc)).bel hbp) | skip); replace hC := (hC.trans (by repeat first | with_reducible exact Bel.refl _ | with_reducible apply Bel.drew | with_reducible apply Bel.alloc)).trans hbp)
          | (go_at_call 26; with_reducible refine' Calls.mono (two5_any x HZX.out _) ?_; rintro e wq ⟨vq, rfl, hq, hbq⟩; obtain ⟨Aq, cq, hvq, hcq, _⟩ := hq.reads; subst hvq; (first | (have nq := NeRow.later hq (hO.bel (by repeat first | with_reducible exact Bel.refl _ | with_reducible apply Bel.drew | with_reducible apply Bel.alloc))) | skip); (first | (replace hO := (hO.bel (by repeat first | with_reducible exact Bel.refl _ | with_reducible apply Bel.drew | with_reducible apply Bel.alloc)).bel hbq) | skip); (first | (replace hp := (hp.bel (by repeat first | with_reducible exact Bel.refl _ | with_reducible apply Bel.drew | with_reducible apply Bel.alloc)).bel hbq) | skip); replace hC := (hC.trans (by repeat first | with_reducible exact Bel.refl _ | with_reducible apply Bel.drew | with_reducible apply Bel.alloc)).trans hbq)
          | (refine stepApp (w0 := W0) byteS rfl _ _ rfl u3 (L) (txt y) Ap (txt y).length cp rfl rfl (hO.bel (by repeat first | with_reducible exact Bel.refl _ | with_reducible apply Bel.drew | with_reducible apply Bel.alloc)) ((hp.bel (by repeat first | with_reducible exact Bel.refl _ | with_reducible apply Bel.drew | with_reducible apply Bel.alloc)).rowOf) (hC.trans (by repeat first | with_reducible exact Bel.refl _ | with_reducible apply Bel.drew | with_reducible apply Bel.alloc)) (by have := HLN.out; simp only [List.length_append, txt_len, tw_len, Nat.mul_one] at this ⊢; omega) ?_; intro vO xO hOn hbO hgO hatO; (first | (have mq := (NeRow.app nq.symm hatO (hq.bel (by repeat first | with_reducible exact Bel.refl _ | with_reducible apply Bel.drew | with_reducible apply Bel.alloc))).symm; replace hq := (hq.bel (by repeat first | with_reducible exact Bel.refl _ | with_reducible apply Bel.drew | with_reducible apply Bel.alloc)).kept_ hgO nq.symm.other; replace nq := mq) | skip); replace hO := hOn; replace hC := hbO; (first | clear hp np | clear hp | skip))
          | (refine stepApp (w0 := W0) byteS rfl _ _ rfl vO (L ++ txt y) (tw x) Aq (tw x).length cq rfl rfl (hO.bel (by repeat first | with_reducible exact Bel.refl _ | with_reducible apply Bel.drew | with_reducible apply Bel.alloc)) ((hq.bel (by repeat first | with_reducible exact Bel.refl _ | with_reducible apply Bel.drew | with_reducible apply Bel.alloc)).rowOf) (hC.trans (by repeat first | with_reducible exact Bel.refl _ | with_reducible apply Bel.drew | with_reducible apply Bel.alloc)) (by have := HLN.out; simp only [List.length_append, txt_len, tw_len, Nat.mul_one] at this ⊢; omega) ?_; intro vO xO hOn hbO hgO hatO; (first | (have mp := (NeRow.app np.symm hatO (hp.bel (by repeat first | with_reducible exact Bel.refl _ | with_reducible apply Bel.drew | with_reducible apply Bel.alloc))).symm; replace hp := (hp.bel (by repeat first | with_reducible exact Bel.refl _ | with_reducible apply Bel.drew | with_reducible apply Bel.alloc)).kept_ hgO np.symm.other; replace np := mp) | skip); replace hO := hOn; replace hC := hbO; (first | clear hq nq | clear hq | skip)))
        all_goals (
          clear HKP
          go_wp2
          go_roundw
          case rel => exact ⟨j + 1, by omega, by go_num, hC, by rw [HFL.out]; exact hO⟩
          case measure => simp [Go.RowKit.intOf]; omega)
      · obtain rfl : j = m := by omega
        have hfull : (P.keys.zip P.kids.tail).take j = P.keys.zip P.kids.tail := List.take_of_length_le (by rw [List.length_zip, HLN1.out.2.1]; omega)
        rw [hfull] at hO
        have HE : Hid (body2 P = tw j ++ (tw d0 ++ (P.keys.zip P.kids.tail).flatMap kidB)) := hid_ (by rw [body2, HLN1.out.2.1, HD0.out])
        go_wp2
        go_ret
        exact ⟨_, rfl, by rw [HE.out]; exact hO.mono_ HB.out.size_, HB.out.trans hC⟩)
set_option maxRecDepth 10000 in
set_option maxHeartbeats 8000000 in
theorem body5_3 (P : Pg) (A B C D : Option Addr) (n c m d k e l f : Nat) (w : World) (hP : PgAt w P A n B m C k D l) (hk : P.kind = 3) (hs : l ≤ 200) (hd : ∀ x ∈ P.pages, 0 ≤ x ∧ x < 65536) (hx : 0 ≤ P.next ∧ P.next < 65536) :
    Calls Try.prog 27 #[pgV P (.slice A n c) (.slice B m d) (.slice C k e) (.slice D l f)] w fun e w' => ∃ v, e = .returned v ∧ Own byteT w' w.heap.size v (body3 P) ∧ Bel w w' := by
  have hn1 := hP.pairs.1
  have hn2 := hP.keys.1
  have hn3 := hP.kids.1
  have hn4 := hP.pages.1
  have z1 := hP.pairs.2.1
  have z2 := hP.keys.2.1
  have z3 := hP.kids.2.1
  have z4 := hP.pages.2.1
  have HLN1 := hid_ (And.intro hn1 (And.intro hn2 (And.intro hn3 hn4)))
  have HK := hid_ hk
  clear hk hn1 hn2 hn3 hn4
  have HD := hid_ hd
  have HX := hid_ hx
  have HS : Hid (l ≤ 200) := hid_ hs
  clear hs hd hx
  have HP := hid_ hP
  unfold pgV pgC
  clear hP
  go_enter Try.func27, Try.ntmps27
  go_upto_region 2 with (fail)
  have bx := Bx.new w 28 (pgC P (.slice A n c) (.slice B m d) (.slice C k e) (.slice D l f))
  have hb := (Bel.refl w).alloc (.cells (pgC P (.slice A n c) (.slice B m d) (.slice C k e) (.slice D l f)).toArray 28)
  unfold pgC at bx hb
  generalize w.alloc _ = W0 at bx hb ⊢
  generalize w.heap.size = g at bx ⊢
  have HB := hid_ hb
  have HP := hid_ (HP.out.bel hb)
  have c0 := bx.cell 0 rfl
  have c4 := bx.cell 4 rfl
  have c5 := bx.cell 5 rfl
  clear bx hb
  have r1 : (P.kind == 1) = false := by have := HK.out; rw [beqI]; exact decide_eq_false (by omega)
  have r2 : (P.kind == 2) = false := by have := HK.out; rw [beqI]; exact decide_eq_false (by omega)
  have r3 : (P.kind == 3) = true := by have := HK.out; rw [beqI]; exact decide_eq_true (by omega)
  have HE0 : Hid ((0 : Int) ≤ (l : Int) ∧ (l : Int) < 65536) := hid_ (by have := HS.out; omega)
  have C4 := hid_ c4
  have C5 := hid_ c5
  go_wp2_with fail
  refine (two5_any (l : Int) HE0.out _).mono ?_
  rintro e w1 ⟨v1, rfl, hO1, hb1⟩
  go_wp2_with fail
  clear c5
  go_loopw [3, 6] (fun v i wr => ∃ j : Nat, j ≤ l ∧ i = .int .i64 j ∧ Bel W0 wr ∧ Own byteT wr W0.heap.size v (tw l ++ (P.pages.take j).flatMap tw)) (fun _ i _ => l - (Go.RowKit.intOf i).toNat)
  case atStart => exact ⟨0, Nat.zero_le _, rfl, hb1, by simpa using hO1⟩
  case round =>
    obtain ⟨j, hj, rfl, hC, hO⟩ := hrel
    replace c4 := hC.cell_ C4.out
    clear hO1 hb1 c0 r1 r2 r3
    have HLJ : Hid ((tw (l : Int) ++ (P.pages.take j).flatMap tw).length ≤ 1000) := hid_ (by rw [List.length_append, tw_le, List.length_take, tw_len]; have := HS.out; omega)
    by_cases hjn : j < l
    · obtain ⟨ad, y, rfl, ho, e0⟩ := HP.out.pages.int hjn
      have d0 := hC.cell_ e0
      have i0 : (0 : Int) ≤ (j : Int) := by omega
      have i1 : (j : Int) < (l : Int) := by omega
      have HFS := hid_ (flat_snoc tw P.pages j ho)
      have HZY := hid_ (HD.out y (List.mem_of_getElem? ho))
      obtain ⟨L, hL⟩ : ∃ L, tw (l : Int) ++ (P.pages.take j).flatMap tw = L := ⟨_, rfl⟩
      rw [hL] at hO HLJ
      have HFL : Hid (tw (l : Int) ++ (P.pages.take (j + 1)).flatMap tw = L ++ tw y) := hid_ (by rw [HFS.out, ← hL, List.append_assoc])
      clear ho hL HFS e0
      go_wp2_with fail
      refine (two5_any y HZY.out _).mono ?_
      rintro e wq ⟨vq, rfl, hq, hbq⟩
      obtain ⟨Aq, cq, rfl, hcq, hRq⟩ := hq.readsN (tw_len y)
      go_wp2_with (at_builtin; refine wpApp (w0 := W0) byteS rfl _ _ rfl _ L (tw y) Aq 2 cq rfl rfl (hO.bel hbq) hRq (hC.trans hbq) (by have := HLJ.out; omega) ?_; intro vO xO hOn hbO hgO hatO)
      go_roundw
      case rel => exact ⟨j + 1, by omega, by go_num, hbO, by rw [HFL.out]; exact hOn⟩
      case measure => simp [Go.RowKit.intOf]; omega
    · obtain rfl : j = l := by omega
      have hfull : P.pages.take j = P.pages := by rw [← HLN1.out.2.2.2, List.take_length]
      rw [hfull] at hO HLJ
      obtain ⟨L, hL⟩ : ∃ L, tw (j : Int) ++ P.pages.flatMap tw = L := ⟨_, rfl⟩
      rw [hL] at hO HLJ
      have HE : Hid (body3 P = L ++ tw P.next) := hid_ (by rw [body3, HLN1.out.2.2.2, ← hL, List.append_assoc])
      clear hL
      have c5 := hC.cell_ C5.out
      go_wp2_with fail
      refine (two5_any P.next HX.out _).mono ?_
      rintro e wq ⟨vq, rfl, hq, hbq⟩
      obtain ⟨Aq, cq, rfl, hcq, hRq⟩ := hq.readsN (tw_len P.next)
      go_wp2_with (at_builtin; refine wpApp (w0 := W0) byteS rfl _ _ rfl _ L (tw P.next) Aq 2 cq rfl rfl (hO.bel hbq) hRq (hC.trans hbq) (by have := HLJ.out; omega) ?_; intro vO xO hOn hbO hgO hatO)
      go_ret
      exact ⟨_, rfl, by rw [HE.out]; exact hOn.mono_ HB.out.size_, HB.out.trans hbO⟩
set_option maxRecDepth 10000 in
set_option maxHeartbeats 8000000 in
theorem body5_4 (P : Pg) (A B C D : Option Addr) (n c m d k e l f : Nat) (w : World) (hP : PgAt w P A n B m C k D l) (hk : P.kind = 4) (h1 : 0 ≤ P.root ∧ P.root < 65536) (h2 : 0 ≤ P.depth ∧ P.depth < 65536) (h3 : 0 ≤ P.count ∧ P.count < 4294967296) (h4 : 0 ≤ P.high ∧ P.high < 65536) (h5 : 0 ≤ P.next ∧ P.next < 65536) :
    Calls Try.prog 27 #[pgV P (.slice A n c) (.slice B m d) (.slice C k e) (.slice D l f)] w fun e w' => ∃ v, e = .returned v ∧ Own byteT w' w.heap.size v (body4 P) ∧ Bel w w' := by
  have hn1 := hP.pairs.1
  have hn2 := hP.keys.1
  have hn3 := hP.kids.1
  have hn4 := hP.pages.1
  have z1 := hP.pairs.2.1
  have z2 := hP.keys.2.1
  have z3 := hP.kids.2.1
  have z4 := hP.pages.2.1
  have HLN1 := hid_ (And.intro hn1 (And.intro hn2 (And.intro hn3 hn4)))
  have HK := hid_ hk
  clear hk hn1 hn2 hn3 hn4
  have HR := hid_ (And.intro h1 (And.intro h2 (And.intro h3 (And.intro h4 h5))))
  have e1 : IntKind.u64.wrap P.count = P.count := by rw [IntKind.wrap_u64]; omega
  clear h1 h2 h3 h4 h5
  have HP := hid_ hP
  unfold pgV pgC
  clear hP
  go_enter Try.func27, Try.ntmps27
  go_upto_region 2 with (fail)
  have bx := Bx.new w 28 (pgC P (.slice A n c) (.slice B m d) (.slice C k e) (.slice D l f))
  have hb := (Bel.refl w).alloc (.cells (pgC P (.slice A n c) (.slice B m d) (.slice C k e) (.slice D l f)).toArray 28)
  unfold pgC at bx hb
  generalize w.alloc _ = W0 at bx hb ⊢
  generalize w.heap.size = g at bx ⊢
  have HB := hid_ hb
  have HP := hid_ (HP.out.bel hb)
  have c0 := bx.cell 0 rfl
  have c5 := bx.cell 5 rfl
  have c7 := bx.cell 7 rfl
  have c8 := bx.cell 8 rfl
  have c9 := bx.cell 9 rfl
  have c10 := bx.cell 10 rfl
  clear bx hb
  have r1 : (P.kind == 1) = false := by have := HK.out; rw [beqI]; exact decide_eq_false (by omega)
  have r2 : (P.kind == 2) = false := by have := HK.out; rw [beqI]; exact decide_eq_false (by omega)
  have r3 : (P.kind == 3) = false := by have := HK.out; rw [beqI]; exact decide_eq_false (by omega)
  have r4 : (P.kind == 4) = true := by have := HK.out; rw [beqI]; exact decide_eq_true (by omega)
  have HCS := hid_ (And.intro c5 (And.intro c7 (And.intro c8 (And.intro c9 c10))))
  have HCO : Hid (0 ≤ P.count ∧ P.count < 18446744073709551616) := hid_ (by have := HR.out; omega)
  have hC := Bel.refl W0
  have HLN : Hid (0 ≤ 0) := hid_ (Nat.le_refl _)
  go_upto_region 23 with (fail)
  have HKP : Hid (∀ W, Bel W0 W → (fun W => W.cell? ⟨g, 7, none⟩ = some (.int .i64 P.root) ∧ W.cell? ⟨g, 8, none⟩ = some (.int .i64 P.depth) ∧ W.cell? ⟨g, 9, none⟩ = some (.int .i64 P.count)) W) := hid_ (fun W hW => ⟨hW.cell_ HCS.out.2.1, hW.cell_ HCS.out.2.2.1, hW.cell_ HCS.out.2.2.2.1⟩)
  go_region_held3 (fun W => W.cell? ⟨g, 7, none⟩ = some (.int .i64 P.root) ∧ W.cell? ⟨g, 8, none⟩ = some (.int .i64 P.depth) ∧ W.cell? ⟨g, 9, none⟩ = some (.int .i64 P.count)) ((refine HKP.out _ ?_; repeat first | with_reducible exact hC | with_reducible exact Bel.refl _ | with_reducible apply Bel.drew | with_reducible apply Bel.alloc))
    (first
    | (go_at_call 26; with_reducible refine' Calls.mono (two5_any P.root HR.out.1 _) ?_; rintro e wa ⟨va, rfl, ha, hba⟩; obtain ⟨Aa, ca, hva, hca, _⟩ := ha.reads; subst hva; (first | (have nb := (NeRow.later ha (hb.bel (by repeat first | with_reducible exact Bel.refl _ | with_reducible apply Bel.drew | with_reducible apply Bel.alloc))).symm) | skip); (first | (have nn := (NeRow.later ha (hn.bel (by repeat first | with_reducible exact Bel.refl _ | with_reducible apply Bel.drew | with_reducible apply Bel.alloc))).symm) | skip); have hO := ha.mono_ (Bel.size_ (hC.trans (by repeat first | with_reducible exact Bel.refl _ | with_reducible apply Bel.drew | with_reducible apply Bel.alloc))); (first | (replace hb := (hb.bel (by repeat first | with_reducible exact Bel.refl _ | with_reducible apply Bel.drew | with_reducible apply Bel.alloc)).bel hba) | skip); (first | (replace hn := (hn.bel (by repeat first | with_reducible exact Bel.refl _ | with_reducible apply Bel.drew | with_reducible apply Bel.alloc)).bel hba) | skip); replace hC := (hC.trans (by repeat first | with_reducible exact Bel.refl _ | with_reducible apply Bel.drew | with_reducible apply Bel.alloc)).trans hba)
    | (go_at_call 26; with_reducible refine' Calls.mono (two5_any P.depth HR.out.2.1 _) ?_; rintro e wb ⟨vb, rfl, hb, hbb⟩; obtain ⟨Ab, cb, hvb, hcb, _⟩ := hb.reads; subst hvb; (first | (have nb := NeRow.later hb (hO.bel (by repeat first | with_reducible exact Bel.refl _ | with_reducible apply Bel.drew | with_reducible apply Bel.alloc))) | skip); (first | (replace hO := (hO.bel (by repeat first | with_reducible exact Bel.refl _ | with_reducible apply Bel.drew | with_reducible apply Bel.alloc)).bel hbb) | skip); (first | (replace hn := (hn.bel (by repeat first | with_reducible exact Bel.refl _ | with_reducible apply Bel.drew | with_reducible apply Bel.alloc)).bel hbb) | skip); replace hC := (hC.trans (by repeat first | with_reducible exact Bel.refl _ | with_reducible apply Bel.drew | with_reducible apply Bel.alloc)).trans hbb)
    | (go_at_call 29; with_reducible refine' Calls.mono (number4_any P.count HCO.out _) ?_; rintro e wn ⟨vn, rfl, hn, hbn⟩; obtain ⟨An, cn, hvn, hcn, _⟩ := hn.reads; subst hvn; (first | (have nn := NeRow.later hn (hO.bel (by repeat first | with_reducible exact Bel.refl _ | with_reducible apply Bel.drew | with_reducible apply Bel.alloc))) | skip); (first | (replace hO := (hO.bel (by repeat first | with_reducible exact Bel.refl _ | with_reducible apply Bel.drew | with_reducible apply Bel.alloc)).bel hbn) | skip); (first | (replace hb := (hb.bel (by repeat first | with_reducible exact Bel.refl _ | with_reducible apply Bel.drew | with_reducible apply Bel.alloc)).bel hbn) | skip); replace hC := (hC.trans (by repeat first | with_reducible exact Bel.refl _ | with_reducible apply Bel.drew | with_reducible apply Bel.alloc)).trans hbn)
    | (refine stepApp (w0 := W0) byteS rfl _ _ rfl (.slice Aa (tw P.root).length ca) (tw P.root) (tw P.depth) Ab (tw P.depth).length cb rfl rfl (hO.bel (by repeat first | with_reducible exact Bel.refl _ | with_reducible apply Bel.drew | with_reducible apply Bel.alloc)) ((hb.bel (by repeat first | with_reducible exact Bel.refl _ | with_reducible apply Bel.drew | with_reducible apply Bel.alloc)).rowOf) (hC.trans (by repeat first | with_reducible exact Bel.refl _ | with_reducible apply Bel.drew | with_reducible apply Bel.alloc)) (by have := HLN.out; simp only [List.length_append, txt_len, tw_len, fo_len, Nat.mul_one] at this ⊢; omega) ?_; intro vO xO hOn hbO hgO hatO; (first | (have mn := (NeRow.app nn.symm hatO (hn.bel (by repeat first | with_reducible exact Bel.refl _ | with_reducible apply Bel.drew | with_reducible apply Bel.alloc))).symm; replace hn := (hn.bel (by repeat first | with_reducible exact Bel.refl _ | with_reducible apply Bel.drew | with_reducible apply Bel.alloc)).kept_ hgO nn.symm.other; replace nn := mn) | skip); replace hO := hOn; replace hC := hbO; (first | clear hb nb | clear hb | skip))
    | (refine stepApp (w0 := W0) byteS rfl _ _ rfl vO (tw P.root ++ tw P.depth) (fo P.count) An (fo P.count).length cn rfl rfl (hO.bel (by repeat first | with_reducible exact Bel.refl _ | with_reducible apply Bel.drew | with_reducible apply Bel.alloc)) ((hn.bel (by repeat first | with_reducible exact Bel.refl _ | with_reducible apply Bel.drew | with_reducible apply Bel.alloc)).rowOf) (hC.trans (by repeat first | with_reducible exact Bel.refl _ | with_reducible apply Bel.drew | with_reducible apply Bel.alloc)) (by have := HLN.out; simp only [List.length_append, txt_len, tw_len, fo_len, Nat.mul_one] at this ⊢; omega) ?_; intro vO xO hOn hbO hgO hatO; (first | (have mb := (NeRow.app nb.symm hatO (hb.bel (by repeat first | with_reducible exact Bel.refl _ | with_reducible apply Bel.drew | with_reducible apply Bel.alloc))).symm; replace hb := (hb.bel (by repeat first | with_reducible exact Bel.refl _ | with_reducible apply Bel.drew | with_reducible apply Bel.alloc)).kept_ hgO nb.symm.other; replace nb := mb) | skip); replace hO := hOn; replace hC := hbO; (first | clear hn nn | clear hn | skip)))
  all_goals (
    rename_i hHeld
    clear HKP hHeld c0 c5 c7 c8 c9 c10 r1 r2 r3 r4 e1
    obtain ⟨L, hL⟩ : ∃ L, tw P.root ++ tw P.depth ++ fo P.count = L := ⟨_, rfl⟩
    rw [hL] at hO
    replace HLN : Hid (L.length ≤ 100) := hid_ (by rw [← hL]; simp [tw, fo])
    have HE : Hid (body4 P = L ++ tw P.high ++ tw P.next) := hid_ (by
      have e1 : tw (P.count % 65536) = tw P.count := by simp only [tw]; congr 1; omega; congr 1; omega
      rw [body4, e1, ← hL, fo]
      simp only [List.append_assoc])
    clear hL
    have c5 := hC.cell_ HCS.out.1
    have c10 := hC.cell_ HCS.out.2.2.2.2
    obtain ⟨vS, hvS⟩ : ∃ v, vO = v := ⟨_, rfl⟩
    rw [hvS] at hO ⊢
    clear hvS
    go_upto_region 24 with (fail)
    have HKP : Hid (∀ W, Bel W0 W → (fun W => W.cell? ⟨g, 10, none⟩ = some (.int .i64 P.high) ∧ W.cell? ⟨g, 5, none⟩ = some (.int .i64 P.next)) W) := hid_ (fun W hW => ⟨hW.cell_ HCS.out.2.2.2.2, hW.cell_ HCS.out.1⟩)
    go_region_held3 (fun W => W.cell? ⟨g, 10, none⟩ = some (.int .i64 P.high) ∧ W.cell? ⟨g, 5, none⟩ = some (.int .i64 P.next)) ((refine HKP.out _ ?_; repeat first | with_reducible exact hC | with_reducible exact Bel.refl _ | with_reducible apply Bel.drew | with_reducible apply Bel.alloc))
      (first
      | (go_at_call 26; with_reducible refine' Calls.mono (two5_any P.high HR.out.2.2.2.1 _) ?_; rintro e wp ⟨vp, rfl, hp, hbp⟩; obtain ⟨Ap, cp, hvp, hcp, _⟩ := hp.reads; subst hvp; (first | (have np := NeRow.later hp (hO.bel (by repeat first | with_reducible exact Bel.refl _ | with_reducible apply Bel.drew | with_reducible apply Bel.alloc))) | skip); (first | (replace hO := (hO.bel (by repeat first | with_reducible exact Bel.refl _ | with_reducible apply Bel.drew | with_reducible apply Bel.alloc)).bel hbp) | skip); (first | (replace hq := (hq.bel (by repeat first | with_reducible exact Bel.refl _ | with_reducible apply Bel.drew | with_reducible apply Bel.alloc)).bel hbp) | skip); replace hC := (hC.trans (by repeat first | with_reducible exact Bel.refl _ | with_reducible apply Bel.drew | with_reducible apply Bel.alloc)).trans hbp)
      | (go_at_call 26; with_reducible refine' Calls.mono (two5_any P.next HR.out.2.2.2.2 _) ?_; rintro e wq ⟨vq, rfl, hq, hbq⟩; obtain ⟨Aq, cq, hvq, hcq, _⟩ := hq.reads; subst hvq; (first | (have nq := NeRow.later hq (hO.bel (by repeat first | with_reducible exact Bel.refl _ | with_reducible apply Bel.drew | with_reducible apply Bel.alloc))) | skip); (first | (replace hO := (hO.bel (by repeat first | with_reducible exact Bel.refl _ | with_reducible apply Bel.drew | with_reducible apply Bel.alloc)).bel hbq) | skip); (first | (replace hp := (hp.bel (by repeat first | with_reducible exact Bel.refl _ | with_reducible apply Bel.drew | with_reducible apply Bel.alloc)).bel hbq) | skip); replace hC := (hC.trans (by repeat first | with_reducible exact Bel.refl _ | with_reducible apply Bel.drew | with_reducible apply Bel.alloc)).trans hbq)
      | (refine stepApp (w0 := W0) byteS rfl _ _ rfl vS (L) (tw P.high) Ap (tw P.high).length cp rfl rfl (hO.bel (by repeat first | with_reducible exact Bel.refl _ | with_reducible apply Bel.drew | with_reducible apply Bel.alloc)) ((hp.bel (by repeat first | with_reducible exact Bel.refl _ | with_reducible apply Bel.drew | with_reducible apply Bel.alloc)).rowOf) (hC.trans (by repeat first | with_reducible exact Bel.refl _ | with_reducible apply Bel.drew | with_reducible apply Bel.alloc)) (by have := HLN.out; simp only [List.length_append, txt_len, tw_len, Nat.mul_one] at this ⊢; omega) ?_; intro vO xO hOn hbO hgO hatO; (first | (have mq := (NeRow.app nq.symm hatO (hq.bel (by repeat first | with_reducible exact Bel.refl _ | with_reducible apply Bel.drew | with_reducible apply Bel.alloc))).symm; replace hq := (hq.bel (by repeat first | with_reducible exact Bel.refl _ | with_reducible apply Bel.drew | with_reducible apply Bel.alloc)).kept_ hgO nq.symm.other; replace nq := mq) | skip); replace hO := hOn; replace hC := hbO; (first | clear hp np | clear hp | skip))
      | (refine stepApp (w0 := W0) byteS rfl _ _ rfl vO (L ++ tw P.high) (tw P.next) Aq (tw P.next).length cq rfl rfl (hO.bel (by repeat first | with_reducible exact Bel.refl _ | with_reducible apply Bel.drew | with_reducible apply Bel.alloc)) ((hq.bel (by repeat first | with_reducible exact Bel.refl _ | with_reducible apply Bel.drew | with_reducible apply Bel.alloc)).rowOf) (hC.trans (by repeat first | with_reducible exact Bel.refl _ | with_reducible apply Bel.drew | with_reducible apply Bel.alloc)) (by have := HLN.out; simp only [List.length_append, txt_len, tw_len, Nat.mul_one] at this ⊢; omega) ?_; intro vO xO hOn hbO hgO hatO; (first | (have mp := (NeRow.app np.symm hatO (hp.bel (by repeat first | with_reducible exact Bel.refl _ | with_reducible apply Bel.drew | with_reducible apply Bel.alloc))).symm; replace hp := (hp.bel (by repeat first | with_reducible exact Bel.refl _ | with_reducible apply Bel.drew | with_reducible apply Bel.alloc)).kept_ hgO np.symm.other; replace np := mp) | skip); replace hO := hOn; replace hC := hbO; (first | clear hq nq | clear hq | skip)))
    all_goals (
      go_wp2
      go_ret
      exact ⟨_, rfl, by rw [HE.out]; exact hO.mono_ HB.out.size_, HB.out.trans hC⟩))
theorem body5_any (P : Pg) (A B C D : Option Addr) (n c m d k e l f : Nat) (w : World) (hP : PgAt w P A n B m C k D l) (ho : okP P = true) :
    Calls Try.prog 27 #[pgV P (.slice A n c) (.slice B m d) (.slice C k e) (.slice D l f)] w fun e w' => ∃ v, e = .returned v ∧ Own byteT w' w.heap.size v (bodyP P) ∧ Bel w w' := by
  have hn1 := hP.pairs.1
  have hn2 := hP.keys.1
  have hn3 := hP.kids.1
  have hn4 := hP.pages.1
  rcases okP_cases ho with ⟨e0, h⟩ | ⟨e0, h⟩ | ⟨e0, h⟩ | ⟨e0, h⟩
  · obtain ⟨⟨_, h1, h2⟩, _⟩ := ok1_facts h
    rw [body_1 e0]
    exact body5_1 P A B C D n c m d k e l f w hP e0 (by omega) (fun x hx => by have := h2 x hx; omega)
  · obtain ⟨⟨h0, h1, h2, h3, h4⟩, _⟩ := ok2_facts h
    rw [body_2 e0]
    exact body5_2 P A B C D n c m d k e l f w hP e0 (by omega) (by omega) (by omega) (fun x hx => by have := h3 x hx; omega) (fun x hx => by have := h4 x hx; omega)
  · obtain ⟨⟨h1, h2, h3, h4⟩, _⟩ := ok3_facts h
    rw [body_3 e0]
    exact body5_3 P A B C D n c m d k e l f w hP e0 (by omega) (fun x hx => by have := h2 x hx; omega) ⟨h3, by omega⟩
  · obtain ⟨⟨a1, a2, a3, a4, a5, a6, a7, a8, a9, a10⟩, _⟩ := ok4_facts h
    rw [body_4 e0]
    exact body5_4 P A B C D n c m d k e l f w hP e0 ⟨a1, by omega⟩ ⟨a3, by omega⟩ ⟨a5, by omega⟩ ⟨by omega, by omega⟩ ⟨a9, by omega⟩
end Go.Proofs.Ytcfabnkkkpcelaa
