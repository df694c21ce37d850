/- PageTears, walked: up to the cut. -/
import Derived.Test.YtcfabnkkkpcelaaPgL4
import Derived.Test.YtcfabnkkkpcelaaLit
import Derived.Test.YtcfabnkkkpcelaaOpPage
set_option linter.unusedSimpArgs false
set_option linter.unusedVariables false
namespace Go.Proofs.Ytcfabnkkkpcelaa
open Go.RowKit
def tornL (a b : List Int) (cut : Nat) : List Int := b.take cut ++ a.drop cut
theorem torn_take {a b : List Int} {cut i : Nat} (h : i ≤ cut) (hl : cut ≤ b.length) : (tornL a b cut).take i = b.take i := by
  rw [tornL, List.take_append_of_le_length (by rw [List.length_take]; omega), List.take_take, Nat.min_eq_left h]
theorem torn_drop {a b : List Int} {cut i : Nat} (h : cut ≤ i) (hl : cut ≤ b.length) : (tornL a b cut).drop i = a.drop i := by
  rw [tornL, List.drop_append, List.drop_eq_nil_of_le (by rw [List.length_take]; omega), List.nil_append, List.length_take, Nat.min_eq_left hl, List.drop_drop]
  congr 1
  omega
theorem torn_len {a b : List Int} {cut : Nat} (ha : a.length = 1024) (hb : b.length = 1024) (h : cut ≤ 1024) : (tornL a b cut).length = 1024 := by
  rw [tornL, List.length_append, List.length_take, List.length_drop]
  omega
/-- An epoch at both ends. -/
def Fr (x : Int) (l : List Int) : Prop := l.length = 1024 ∧ l.take 8 = ei x ∧ l.drop 1016 = ei x
theorem encS_fr {s : Int} {P : Pg} (h : P.kind = 4) : Fr P.epoch (encS s P) := by
  refine ⟨encS_len h, rfl, ?_⟩
  have h15 := text4_len s h
  have e : encS s P = ((ei P.epoch ++ padB 504 (textP s P)) ++ padB 504 (textP s P)) ++ ei P.epoch := by rw [encS]; simp only [List.append_assoc]
  rw [e]
  exact List.drop_left' (by rw [List.length_append, List.length_append, pad_len (by omega), ei_len])
theorem zeros_fr : Fr 0 (List.replicate 1024 0) := ⟨by rw [List.length_replicate], by decide +kernel, by decide +kernel⟩
theorem split_at {l m : List Int} (i : Nat) (h1 : l.take i = m.take i) (h2 : l.drop i = m.drop i) : l = m := by
  rw [← List.take_append_drop i l, h1, h2, List.take_append_drop]
theorem tear {a b : List Int} {ea eb x : Int} {cut : Nat} (ha : Fr ea a) (hb : Fr eb b) (hra : 0 ≤ ea ∧ ea < 18446744073709551616) (hrb : 0 ≤ eb ∧ eb < 18446744073709551616) (hne : ea ≠ eb) (hc : cut ≤ 1024) (ht : Fr x (tornL a b cut)) : tornL a b cut = a ∨ tornL a b cut = b := by
  by_cases h1 : cut ≤ 8
  · left
    have e1 := torn_drop (a := a) (b := b) (cut := cut) (i := 1016) (by omega) (by rw [hb.1]; omega)
    rw [ht.2.2, ha.2.2] at e1
    refine split_at 8 ?_ (torn_drop (by omega) (by rw [hb.1]; omega))
    rw [ht.2.1, ha.2.1, e1]
  by_cases h2 : 1016 ≤ cut
  · right
    have e1 := torn_take (a := a) (b := b) (cut := cut) (i := 8) (by omega) (by rw [hb.1]; omega)
    rw [ht.2.1, hb.2.1] at e1
    refine split_at 1016 (torn_take (by omega) (by rw [hb.1]; omega)) ?_
    rw [ht.2.2, hb.2.2, e1]
  · have e1 := torn_drop (a := a) (b := b) (cut := cut) (i := 1016) (by omega) (by rw [hb.1]; omega)
    have e2 := torn_take (a := a) (b := b) (cut := cut) (i := 8) (by omega) (by rw [hb.1]; omega)
    rw [ht.2.2, ha.2.2] at e1
    rw [ht.2.1, hb.2.1] at e2
    exact absurd (ei_inj hra hrb (e1.symm.trans e2)) hne
/-- What a torn superblock decodes as. -/
theorem tear_dec {s : Int} {P q : Pg} {a : List Int} {ea : Int} {cut : Nat} (hP : okE s P = true) (hk : P.kind = 4) (hw : epW P) (ha : Fr ea a) (hra : 0 ≤ ea ∧ ea < 18446744073709551616) (hne : ea ≠ P.epoch) (hc : cut ≤ 1024) (h : decP s (tornL a (encP s P) cut) = some q) :
    tornL a (encP s P) cut = a ∨ (tornL a (encP s P) cut = encP s P ∧ q = P) := by
  obtain ⟨o1, o2, o3⟩ := okE_of h
  have hs : isS s = true := by
    rcases (here_iff hP).2 with h | h
    · exact h.2
    · exact absurd hk h.1
  have hqk : q.kind = 4 := by
    rcases (here_iff o1).2 with h | h
    · exact h.1
    · rw [isS_no h.2.1] at hs; cases hs
  have ht : Fr q.epoch (tornL a (encP s P) cut) := by
    rw [← o2, enc_4 hqk]
    exact encS_fr hqk
  have hb : Fr P.epoch (encP s P) := by
    rw [enc_4 hk]
    exact encS_fr hk
  rcases tear ha hb hra hw hne hc ht with e | e
  · exact .inl e
  · rw [e, dec_enc hP hw] at h
    injection h with h
    exact .inr ⟨e, h.symm⟩
/-- Of an old superblock. -/
theorem tear_old {s : Int} {P O q : Pg} {cut : Nat} (hP : okE s P = true) (hk : P.kind = 4) (hw : epW P) (hO : okE s O = true) (hok : O.kind = 4) (how : epW O) (hne : O.epoch ≠ P.epoch) (hc : cut ≤ 1024) (h : decP s (tornL (encP s O) (encP s P) cut) = some q) :
    (tornL (encP s O) (encP s P) cut = encP s O ∧ q = O) ∨ (tornL (encP s O) (encP s P) cut = encP s P ∧ q = P) := by
  have hf : Fr O.epoch (encP s O) := by
    rw [enc_4 hok]
    exact encS_fr hok
  rcases tear_dec hP hk hw hf how hne hc h with e | e
  · rw [e, dec_enc hO how] at h
    injection h with h
    exact .inl ⟨e, h.symm⟩
  · exact .inr e
/-- Of bytes 0. -/
theorem tear_zero {s : Int} {P q : Pg} {cut : Nat} (hP : okE s P = true) (hk : P.kind = 4) (hw : epW P) (hne : P.epoch ≠ 0) (hc : cut ≤ 1024) (h : decP s (tornL (List.replicate 1024 0) (encP s P) cut) = some q) :
    tornL (List.replicate 1024 0) (encP s P) cut = encP s P ∧ q = P := by
  rcases tear_dec hP hk hw zeros_fr ⟨by omega, by omega⟩ (fun e => hne e.symm) hc h with e | e
  · obtain ⟨o1, o2, _⟩ := okE_of h
    have hs : isS s = true := by
      rcases (here_iff hP).2 with h | h
      · exact h.2
      · exact absurd hk h.1
    have hqk : q.kind = 4 := by
      rcases (here_iff o1).2 with h | h
      · exact h.1
      · rw [isS_no h.2.1] at hs; cases hs
    rw [e, enc_4 hqk] at o2
    have h4 := super_512 (s := s) hqk
    rw [o2, List.getD_eq_getElem?_getD, List.getElem?_replicate] at h4
    simp at h4
  · exact e
/-- None only where the cut is within. -/
theorem tear_cut {s : Int} {P : Pg} {a : List Int} {cut : Nat} (hP : okE s P = true) (hw : epW P) (ha : a.length = 1024) (hc : cut ≤ 1024) (h : decP s (tornL a (encP s P) cut) = none) : cut < 1024 := by
  refine Classical.byContradiction fun hn => ?_
  have e : cut = 1024 := by omega
  subst e
  have hl := enc_len (s := s) (here_iff hP).1
  rw [tornL, List.take_of_length_le (by omega), List.drop_eq_nil_of_le (by omega), List.append_nil, dec_enc hP hw] at h
  cases h
end Go.Proofs.Ytcfabnkkkpcelaa
set_option linter.unusedSimpArgs false
set_option linter.unusedVariables false
namespace Go.Proofs.Ytcfabnkkkpcelaa
open Go.RowKit Go.Lib
theorem tmod_nat (a : Int) (n : Nat) (h : 0 ≤ a) (hn : 0 < n) : ∃ m : Nat, a.tmod (n : Int) = (m : Int) ∧ m < n := by
  rw [Int.tmod_eq_emod_of_nonneg h]
  have h1 := Int.emod_nonneg a (show (n : Int) ≠ 0 by omega)
  have h2 := Int.emod_lt_of_pos a (show (0 : Int) < (n : Int) by omega)
  exact ⟨(a % (n : Int)).toNat, by omega, by omega⟩
theorem wrap_back {a : Int} (h0 : -9223372036854775808 ≤ a) (h : a < 0) : wrap64 (-wrap64 (a + 1)) = -(a + 1) := by unfold wrap64; omega
set_option maxRecDepth 10000 in
set_option maxHeartbeats 8000000 in
theorem tears_noy (w : World) (s : Int) (O : Pg) (A : Option Addr) (n c : Nat) (B : Option Addr) (m d : Nat) (C : Option Addr) (k e : Nat) (D : Option Addr) (l f : Nat) (hO : pageWf w O A n c B m d C k e D l f) (hs1 : n ≤ 4398046511104 ∧ m ≤ 17592186044416 ∧ k ≤ 17592186044416 ∧ l ≤ 17592186044416) (P : Pg) (Aa : Option Addr) (na ca : Nat) (Ba : Option Addr) (ma da : Nat) (Ca : Option Addr) (ka ea : Nat) (Da : Option Addr) (la fa : Nat) (hP : pageWf w P Aa na ca Ba ma da Ca ka ea Da la fa) (hs2 : na ≤ 4398046511104 ∧ ma ≤ 17592186044416 ∧ ka ≤ 17592186044416 ∧ la ≤ 17592186044416) (ct : Int) (hct : i64R ct) (ho : okE s O = true) (hp : okE s P = false)  :
    Calls Try.prog 8 #[.int .i64 s, pgV O (.slice A n c) (.slice B m d) (.slice C k e) (.slice D l f), pgV P (.slice Aa na ca) (.slice Ba ma da) (.slice Ca ka ea) (.slice Da la fa), .int .i64 ct] w fun e w' => e = .returned (.bool true) ∧ Bel w w' := by
  have HOO := hid_ ho
  have HPO := hid_ hp
  clear ho hp
  clear hct
  obtain ⟨_, _, _, _, hO, hwo⟩ := hO
  obtain ⟨_, _, _, _, hP, hwp⟩ := hP
  have HO := hid_ hO
  have HP := hid_ hP
  have HWO := hid_ hwo
  have HWP := hid_ hwp
  have HS1 := hid_ hs1
  have HS2 := hid_ hs2
  clear hO hP hwo hwp hs1 hs2
  unfold pgV pgC
  go_enter Try.func8, Try.ntmps8
  go_upto_region 1 with (fail)
  have bx := (Bx.new w 28 (pgC O (.slice A n c) (.slice B m d) (.slice C k e) (.slice D l f))).alloc (.cells (pgC P (.slice Aa na ca) (.slice Ba ma da) (.slice Ca ka ea) (.slice Da la fa)).toArray 28)
  have bz := Bx.new (w.alloc (.cells (pgC O (.slice A n c) (.slice B m d) (.slice C k e) (.slice D l f)).toArray 28)) 28 (pgC P (.slice Aa na ca) (.slice Ba ma da) (.slice Ca ka ea) (.slice Da la fa))
  have hs := sizeAl w (.cells (pgC O (.slice A n c) (.slice B m d) (.slice C k e) (.slice D l f)).toArray 28)
  have hb := ((Bel.refl w).alloc (.cells (pgC O (.slice A n c) (.slice B m d) (.slice C k e) (.slice D l f)).toArray 28)).alloc (.cells (pgC P (.slice Aa na ca) (.slice Ba ma da) (.slice Ca ka ea) (.slice Da la fa)).toArray 28)
  rw [hs] at bz
  clear hs
  unfold pgC at bx bz hb
  generalize (w.alloc _).alloc _ = W0 at bx bz hb ⊢
  generalize w.heap.size = go at bx bz ⊢
  generalize hz : go + 1 = gp at bz ⊢
  clear hz
  have BO := hid_ bx
  have BP := hid_ bz
  have HB := hid_ hb
  have HO := hid_ (HO.out.bel hb)
  have HP := hid_ (HP.out.bel hb)
  clear bx bz hb
  go_wp2_with fail
  refine (awake_any _).mono ?_
  rintro e0 w1 ⟨rfl, hb⟩
  have HO := hid_ (HO.out.bel hb)
  have HP := hid_ (HP.out.bel hb)
  have BO := hid_ (BO.out.bel hb)
  have BP := hid_ (BP.out.bel hb)
  have HB := hid_ (HB.out.trans hb)
  clear hb
  have c0 := BO.out.cell 0 rfl
  have c1 := BO.out.cell 1 rfl
  have c2 := BO.out.cell 2 rfl
  have c3 := BO.out.cell 3 rfl
  have c4 := BO.out.cell 4 rfl
  have c5 := BO.out.cell 5 rfl
  have c6 := BO.out.cell 6 rfl
  have c7 := BO.out.cell 7 rfl
  have c8 := BO.out.cell 8 rfl
  have c9 := BO.out.cell 9 rfl
  have c10 := BO.out.cell 10 rfl
  go_wp2_with fail
  refine (encode_yes s O A B C D n c m d k e l f _ HO.out HWO.out HS1.out.1 HS1.out.2.1 HS1.out.2.2.1 HS1.out.2.2.2 HOO.out).mono ?_
  rintro e1 w2 ⟨g8, rfl, hR8, hg8, hb⟩
  clear c0 c1 c2 c3 c4 c5 c6 c7 c8 c9 c10
  have HRA := hid_ hR8
  clear hR8 hg8
  have HO := hid_ (HO.out.bel hb)
  have HP := hid_ (HP.out.bel hb)
  have BO := hid_ (BO.out.bel hb)
  have BP := hid_ (BP.out.bel hb)
  have HB := hid_ (HB.out.trans hb)
  clear hb
  have z0 := BP.out.cell 0 rfl
  have z1 := BP.out.cell 1 rfl
  have z2 := BP.out.cell 2 rfl
  have z3 := BP.out.cell 3 rfl
  have z4 := BP.out.cell 4 rfl
  have z5 := BP.out.cell 5 rfl
  have z6 := BP.out.cell 6 rfl
  have z7 := BP.out.cell 7 rfl
  have z8 := BP.out.cell 8 rfl
  have z9 := BP.out.cell 9 rfl
  have z10 := BP.out.cell 10 rfl
  go_wp2_with fail
  refine (encode_no s P Aa Ba Ca Da na ca ma da ka ea la fa _ HP.out HWP.out HS2.out.1 HS2.out.2.1 HS2.out.2.2.1 HS2.out.2.2.2 HPO.out).mono ?_
  rintro e2 w3 ⟨rfl, hb⟩
  clear z0 z1 z2 z3 z4 z5 z6 z7 z8 z9 z10
  have HRA := hid_ (HRA.out.bel hb)
  have HO := hid_ (HO.out.bel hb)
  have HP := hid_ (HP.out.bel hb)
  have BO := hid_ (BO.out.bel hb)
  have BP := hid_ (BP.out.bel hb)
  have HB := hid_ (HB.out.trans hb)
  clear hb
  have z0 := BP.out.cell 0 rfl
  have z1 := BP.out.cell 1 rfl
  have z2 := BP.out.cell 2 rfl
  have z3 := BP.out.cell 3 rfl
  have z4 := BP.out.cell 4 rfl
  have z5 := BP.out.cell 5 rfl
  have z6 := BP.out.cell 6 rfl
  have z7 := BP.out.cell 7 rfl
  have z8 := BP.out.cell 8 rfl
  have z9 := BP.out.cell 9 rfl
  have z10 := BP.out.cell 10 rfl
  go_wp2
  go_ret
  exact ⟨rfl, HB.out⟩
set_option maxRecDepth 10000 in
set_option maxHeartbeats 8000000 in
theorem tears_kdy (w : World) (s : Int) (O : Pg) (A : Option Addr) (n c : Nat) (B : Option Addr) (m d : Nat) (C : Option Addr) (k e : Nat) (D : Option Addr) (l f : Nat) (hO : pageWf w O A n c B m d C k e D l f) (hs1 : n ≤ 4398046511104 ∧ m ≤ 17592186044416 ∧ k ≤ 17592186044416 ∧ l ≤ 17592186044416) (P : Pg) (Aa : Option Addr) (na ca : Nat) (Ba : Option Addr) (ma da : Nat) (Ca : Option Addr) (ka ea : Nat) (Da : Option Addr) (la fa : Nat) (hP : pageWf w P Aa na ca Ba ma da Ca ka ea Da la fa) (hs2 : na ≤ 4398046511104 ∧ ma ≤ 17592186044416 ∧ ka ≤ 17592186044416 ∧ la ≤ 17592186044416) (ct : Int) (hct : i64R ct) (ho : okE s O = true) (hp : okE s P = true) (hk : ¬ P.kind = 4) :
    Calls Try.prog 8 #[.int .i64 s, pgV O (.slice A n c) (.slice B m d) (.slice C k e) (.slice D l f), pgV P (.slice Aa na ca) (.slice Ba ma da) (.slice Ca ka ea) (.slice Da la fa), .int .i64 ct] w fun e w' => e = .returned (.bool true) ∧ Bel w w' := by
  have HOO := hid_ ho
  have HPO := hid_ hp
  clear ho hp
  clear hct
  have HK := hid_ hk
  clear hk
  obtain ⟨_, _, _, _, hO, hwo⟩ := hO
  obtain ⟨_, _, _, _, hP, hwp⟩ := hP
  have HO := hid_ hO
  have HP := hid_ hP
  have HWO := hid_ hwo
  have HWP := hid_ hwp
  have HS1 := hid_ hs1
  have HS2 := hid_ hs2
  clear hO hP hwo hwp hs1 hs2
  unfold pgV pgC
  go_enter Try.func8, Try.ntmps8
  go_upto_region 1 with (fail)
  have bx := (Bx.new w 28 (pgC O (.slice A n c) (.slice B m d) (.slice C k e) (.slice D l f))).alloc (.cells (pgC P (.slice Aa na ca) (.slice Ba ma da) (.slice Ca ka ea) (.slice Da la fa)).toArray 28)
  have bz := Bx.new (w.alloc (.cells (pgC O (.slice A n c) (.slice B m d) (.slice C k e) (.slice D l f)).toArray 28)) 28 (pgC P (.slice Aa na ca) (.slice Ba ma da) (.slice Ca ka ea) (.slice Da la fa))
  have hs := sizeAl w (.cells (pgC O (.slice A n c) (.slice B m d) (.slice C k e) (.slice D l f)).toArray 28)
  have hb := ((Bel.refl w).alloc (.cells (pgC O (.slice A n c) (.slice B m d) (.slice C k e) (.slice D l f)).toArray 28)).alloc (.cells (pgC P (.slice Aa na ca) (.slice Ba ma da) (.slice Ca ka ea) (.slice Da la fa)).toArray 28)
  rw [hs] at bz
  clear hs
  unfold pgC at bx bz hb
  generalize (w.alloc _).alloc _ = W0 at bx bz hb ⊢
  generalize w.heap.size = go at bx bz ⊢
  generalize hz : go + 1 = gp at bz ⊢
  clear hz
  have BO := hid_ bx
  have BP := hid_ bz
  have HB := hid_ hb
  have HO := hid_ (HO.out.bel hb)
  have HP := hid_ (HP.out.bel hb)
  clear bx bz hb
  go_wp2_with fail
  refine (awake_any _).mono ?_
  rintro e0 w1 ⟨rfl, hb⟩
  have HO := hid_ (HO.out.bel hb)
  have HP := hid_ (HP.out.bel hb)
  have BO := hid_ (BO.out.bel hb)
  have BP := hid_ (BP.out.bel hb)
  have HB := hid_ (HB.out.trans hb)
  clear hb
  have c0 := BO.out.cell 0 rfl
  have c1 := BO.out.cell 1 rfl
  have c2 := BO.out.cell 2 rfl
  have c3 := BO.out.cell 3 rfl
  have c4 := BO.out.cell 4 rfl
  have c5 := BO.out.cell 5 rfl
  have c6 := BO.out.cell 6 rfl
  have c7 := BO.out.cell 7 rfl
  have c8 := BO.out.cell 8 rfl
  have c9 := BO.out.cell 9 rfl
  have c10 := BO.out.cell 10 rfl
  go_wp2_with fail
  refine (encode_yes s O A B C D n c m d k e l f _ HO.out HWO.out HS1.out.1 HS1.out.2.1 HS1.out.2.2.1 HS1.out.2.2.2 HOO.out).mono ?_
  rintro e1 w2 ⟨g8, rfl, hR8, hg8, hb⟩
  clear c0 c1 c2 c3 c4 c5 c6 c7 c8 c9 c10
  have HRA := hid_ hR8
  clear hR8 hg8
  have HO := hid_ (HO.out.bel hb)
  have HP := hid_ (HP.out.bel hb)
  have BO := hid_ (BO.out.bel hb)
  have BP := hid_ (BP.out.bel hb)
  have HB := hid_ (HB.out.trans hb)
  clear hb
  have z0 := BP.out.cell 0 rfl
  have z1 := BP.out.cell 1 rfl
  have z2 := BP.out.cell 2 rfl
  have z3 := BP.out.cell 3 rfl
  have z4 := BP.out.cell 4 rfl
  have z5 := BP.out.cell 5 rfl
  have z6 := BP.out.cell 6 rfl
  have z7 := BP.out.cell 7 rfl
  have z8 := BP.out.cell 8 rfl
  have z9 := BP.out.cell 9 rfl
  have z10 := BP.out.cell 10 rfl
  go_wp2_with fail
  refine (encode_yes s P Aa Ba Ca Da na ca ma da ka ea la fa _ HP.out HWP.out HS2.out.1 HS2.out.2.1 HS2.out.2.2.1 HS2.out.2.2.2 HPO.out).mono ?_
  rintro e2 w3 ⟨g9, rfl, hR9, hg9, hb⟩
  clear z0 z1 z2 z3 z4 z5 z6 z7 z8 z9 z10
  have HRB := hid_ hR9
  clear hR9 hg9
  have HRA := hid_ (HRA.out.bel hb)
  have HO := hid_ (HO.out.bel hb)
  have HP := hid_ (HP.out.bel hb)
  have BO := hid_ (BO.out.bel hb)
  have BP := hid_ (BP.out.bel hb)
  have HB := hid_ (HB.out.trans hb)
  clear hb
  have z0 := BP.out.cell 0 rfl
  have z1 := BP.out.cell 1 rfl
  have z2 := BP.out.cell 2 rfl
  have z3 := BP.out.cell 3 rfl
  have z4 := BP.out.cell 4 rfl
  have z5 := BP.out.cell 5 rfl
  have z6 := BP.out.cell 6 rfl
  have z7 := BP.out.cell 7 rfl
  have z8 := BP.out.cell 8 rfl
  have z9 := BP.out.cell 9 rfl
  have z10 := BP.out.cell 10 rfl
  have r1 : (P.kind != 4) = true := by simp [HK.out]
  go_wp2
  go_ret
  exact ⟨rfl, HB.out⟩
set_option maxRecDepth 10000 in
set_option maxHeartbeats 8000000 in
theorem tears_non (w : World) (s : Int) (O : Pg) (A : Option Addr) (n c : Nat) (B : Option Addr) (m d : Nat) (C : Option Addr) (k e : Nat) (D : Option Addr) (l f : Nat) (hO : pageWf w O A n c B m d C k e D l f) (hs1 : n ≤ 4398046511104 ∧ m ≤ 17592186044416 ∧ k ≤ 17592186044416 ∧ l ≤ 17592186044416) (P : Pg) (Aa : Option Addr) (na ca : Nat) (Ba : Option Addr) (ma da : Nat) (Ca : Option Addr) (ka ea : Nat) (Da : Option Addr) (la fa : Nat) (hP : pageWf w P Aa na ca Ba ma da Ca ka ea Da la fa) (hs2 : na ≤ 4398046511104 ∧ ma ≤ 17592186044416 ∧ ka ≤ 17592186044416 ∧ la ≤ 17592186044416) (ct : Int) (hct : i64R ct) (ho : okE s O = false) (hp : okE s P = false)  :
    Calls Try.prog 8 #[.int .i64 s, pgV O (.slice A n c) (.slice B m d) (.slice C k e) (.slice D l f), pgV P (.slice Aa na ca) (.slice Ba ma da) (.slice Ca ka ea) (.slice Da la fa), .int .i64 ct] w fun e w' => e = .returned (.bool true) ∧ Bel w w' := by
  have HOO := hid_ ho
  have HPO := hid_ hp
  clear ho hp
  clear hct
  obtain ⟨_, _, _, _, hO, hwo⟩ := hO
  obtain ⟨_, _, _, _, hP, hwp⟩ := hP
  have HO := hid_ hO
  have HP := hid_ hP
  have HWO := hid_ hwo
  have HWP := hid_ hwp
  have HS1 := hid_ hs1
  have HS2 := hid_ hs2
  clear hO hP hwo hwp hs1 hs2
  unfold pgV pgC
  go_enter Try.func8, Try.ntmps8
  go_upto_region 1 with (fail)
  have bx := (Bx.new w 28 (pgC O (.slice A n c) (.slice B m d) (.slice C k e) (.slice D l f))).alloc (.cells (pgC P (.slice Aa na ca) (.slice Ba ma da) (.slice Ca ka ea) (.slice Da la fa)).toArray 28)
  have bz := Bx.new (w.alloc (.cells (pgC O (.slice A n c) (.slice B m d) (.slice C k e) (.slice D l f)).toArray 28)) 28 (pgC P (.slice Aa na ca) (.slice Ba ma da) (.slice Ca ka ea) (.slice Da la fa))
  have hs := sizeAl w (.cells (pgC O (.slice A n c) (.slice B m d) (.slice C k e) (.slice D l f)).toArray 28)
  have hb := ((Bel.refl w).alloc (.cells (pgC O (.slice A n c) (.slice B m d) (.slice C k e) (.slice D l f)).toArray 28)).alloc (.cells (pgC P (.slice Aa na ca) (.slice Ba ma da) (.slice Ca ka ea) (.slice Da la fa)).toArray 28)
  rw [hs] at bz
  clear hs
  unfold pgC at bx bz hb
  generalize (w.alloc _).alloc _ = W0 at bx bz hb ⊢
  generalize w.heap.size = go at bx bz ⊢
  generalize hz : go + 1 = gp at bz ⊢
  clear hz
  have BO := hid_ bx
  have BP := hid_ bz
  have HB := hid_ hb
  have HO := hid_ (HO.out.bel hb)
  have HP := hid_ (HP.out.bel hb)
  clear bx bz hb
  go_wp2_with fail
  refine (awake_any _).mono ?_
  rintro e0 w1 ⟨rfl, hb⟩
  have HO := hid_ (HO.out.bel hb)
  have HP := hid_ (HP.out.bel hb)
  have BO := hid_ (BO.out.bel hb)
  have BP := hid_ (BP.out.bel hb)
  have HB := hid_ (HB.out.trans hb)
  clear hb
  have c0 := BO.out.cell 0 rfl
  have c1 := BO.out.cell 1 rfl
  have c2 := BO.out.cell 2 rfl
  have c3 := BO.out.cell 3 rfl
  have c4 := BO.out.cell 4 rfl
  have c5 := BO.out.cell 5 rfl
  have c6 := BO.out.cell 6 rfl
  have c7 := BO.out.cell 7 rfl
  have c8 := BO.out.cell 8 rfl
  have c9 := BO.out.cell 9 rfl
  have c10 := BO.out.cell 10 rfl
  go_wp2_with fail
  refine (encode_no s O A B C D n c m d k e l f _ HO.out HWO.out HS1.out.1 HS1.out.2.1 HS1.out.2.2.1 HS1.out.2.2.2 HOO.out).mono ?_
  rintro e1 w2 ⟨rfl, hb⟩
  clear c0 c1 c2 c3 c4 c5 c6 c7 c8 c9 c10
  have HO := hid_ (HO.out.bel hb)
  have HP := hid_ (HP.out.bel hb)
  have BO := hid_ (BO.out.bel hb)
  have BP := hid_ (BP.out.bel hb)
  have HB := hid_ (HB.out.trans hb)
  clear hb
  have z0 := BP.out.cell 0 rfl
  have z1 := BP.out.cell 1 rfl
  have z2 := BP.out.cell 2 rfl
  have z3 := BP.out.cell 3 rfl
  have z4 := BP.out.cell 4 rfl
  have z5 := BP.out.cell 5 rfl
  have z6 := BP.out.cell 6 rfl
  have z7 := BP.out.cell 7 rfl
  have z8 := BP.out.cell 8 rfl
  have z9 := BP.out.cell 9 rfl
  have z10 := BP.out.cell 10 rfl
  go_wp2_with fail
  refine (encode_no s P Aa Ba Ca Da na ca ma da ka ea la fa _ HP.out HWP.out HS2.out.1 HS2.out.2.1 HS2.out.2.2.1 HS2.out.2.2.2 HPO.out).mono ?_
  rintro e2 w3 ⟨rfl, hb⟩
  clear z0 z1 z2 z3 z4 z5 z6 z7 z8 z9 z10
  have HO := hid_ (HO.out.bel hb)
  have HP := hid_ (HP.out.bel hb)
  have BO := hid_ (BO.out.bel hb)
  have BP := hid_ (BP.out.bel hb)
  have HB := hid_ (HB.out.trans hb)
  clear hb
  have z0 := BP.out.cell 0 rfl
  have z1 := BP.out.cell 1 rfl
  have z2 := BP.out.cell 2 rfl
  have z3 := BP.out.cell 3 rfl
  have z4 := BP.out.cell 4 rfl
  have z5 := BP.out.cell 5 rfl
  have z6 := BP.out.cell 6 rfl
  have z7 := BP.out.cell 7 rfl
  have z8 := BP.out.cell 8 rfl
  have z9 := BP.out.cell 9 rfl
  have z10 := BP.out.cell 10 rfl
  go_wp2
  go_ret
  exact ⟨rfl, HB.out⟩
set_option maxRecDepth 10000 in
set_option maxHeartbeats 8000000 in
theorem tears_kdn (w : World) (s : Int) (O : Pg) (A : Option Addr) (n c : Nat) (B : Option Addr) (m d : Nat) (C : Option Addr) (k e : Nat) (D : Option Addr) (l f : Nat) (hO : pageWf w O A n c B m d C k e D l f) (hs1 : n ≤ 4398046511104 ∧ m ≤ 17592186044416 ∧ k ≤ 17592186044416 ∧ l ≤ 17592186044416) (P : Pg) (Aa : Option Addr) (na ca : Nat) (Ba : Option Addr) (ma da : Nat) (Ca : Option Addr) (ka ea : Nat) (Da : Option Addr) (la fa : Nat) (hP : pageWf w P Aa na ca Ba ma da Ca ka ea Da la fa) (hs2 : na ≤ 4398046511104 ∧ ma ≤ 17592186044416 ∧ ka ≤ 17592186044416 ∧ la ≤ 17592186044416) (ct : Int) (hct : i64R ct) (ho : okE s O = false) (hp : okE s P = true) (hk : ¬ P.kind = 4) :
    Calls Try.prog 8 #[.int .i64 s, pgV O (.slice A n c) (.slice B m d) (.slice C k e) (.slice D l f), pgV P (.slice Aa na ca) (.slice Ba ma da) (.slice Ca ka ea) (.slice Da la fa), .int .i64 ct] w fun e w' => e = .returned (.bool true) ∧ Bel w w' := by
  have HOO := hid_ ho
  have HPO := hid_ hp
  clear ho hp
  clear hct
  have HK := hid_ hk
  clear hk
  obtain ⟨_, _, _, _, hO, hwo⟩ := hO
  obtain ⟨_, _, _, _, hP, hwp⟩ := hP
  have HO := hid_ hO
  have HP := hid_ hP
  have HWO := hid_ hwo
  have HWP := hid_ hwp
  have HS1 := hid_ hs1
  have HS2 := hid_ hs2
  clear hO hP hwo hwp hs1 hs2
  unfold pgV pgC
  go_enter Try.func8, Try.ntmps8
  go_upto_region 1 with (fail)
  have bx := (Bx.new w 28 (pgC O (.slice A n c) (.slice B m d) (.slice C k e) (.slice D l f))).alloc (.cells (pgC P (.slice Aa na ca) (.slice Ba ma da) (.slice Ca ka ea) (.slice Da la fa)).toArray 28)
  have bz := Bx.new (w.alloc (.cells (pgC O (.slice A n c) (.slice B m d) (.slice C k e) (.slice D l f)).toArray 28)) 28 (pgC P (.slice Aa na ca) (.slice Ba ma da) (.slice Ca ka ea) (.slice Da la fa))
  have hs := sizeAl w (.cells (pgC O (.slice A n c) (.slice B m d) (.slice C k e) (.slice D l f)).toArray 28)
  have hb := ((Bel.refl w).alloc (.cells (pgC O (.slice A n c) (.slice B m d) (.slice C k e) (.slice D l f)).toArray 28)).alloc (.cells (pgC P (.slice Aa na ca) (.slice Ba ma da) (.slice Ca ka ea) (.slice Da la fa)).toArray 28)
  rw [hs] at bz
  clear hs
  unfold pgC at bx bz hb
  generalize (w.alloc _).alloc _ = W0 at bx bz hb ⊢
  generalize w.heap.size = go at bx bz ⊢
  generalize hz : go + 1 = gp at bz ⊢
  clear hz
  have BO := hid_ bx
  have BP := hid_ bz
  have HB := hid_ hb
  have HO := hid_ (HO.out.bel hb)
  have HP := hid_ (HP.out.bel hb)
  clear bx bz hb
  go_wp2_with fail
  refine (awake_any _).mono ?_
  rintro e0 w1 ⟨rfl, hb⟩
  have HO := hid_ (HO.out.bel hb)
  have HP := hid_ (HP.out.bel hb)
  have BO := hid_ (BO.out.bel hb)
  have BP := hid_ (BP.out.bel hb)
  have HB := hid_ (HB.out.trans hb)
  clear hb
  have c0 := BO.out.cell 0 rfl
  have c1 := BO.out.cell 1 rfl
  have c2 := BO.out.cell 2 rfl
  have c3 := BO.out.cell 3 rfl
  have c4 := BO.out.cell 4 rfl
  have c5 := BO.out.cell 5 rfl
  have c6 := BO.out.cell 6 rfl
  have c7 := BO.out.cell 7 rfl
  have c8 := BO.out.cell 8 rfl
  have c9 := BO.out.cell 9 rfl
  have c10 := BO.out.cell 10 rfl
  go_wp2_with fail
  refine (encode_no s O A B C D n c m d k e l f _ HO.out HWO.out HS1.out.1 HS1.out.2.1 HS1.out.2.2.1 HS1.out.2.2.2 HOO.out).mono ?_
  rintro e1 w2 ⟨rfl, hb⟩
  clear c0 c1 c2 c3 c4 c5 c6 c7 c8 c9 c10
  have HO := hid_ (HO.out.bel hb)
  have HP := hid_ (HP.out.bel hb)
  have BO := hid_ (BO.out.bel hb)
  have BP := hid_ (BP.out.bel hb)
  have HB := hid_ (HB.out.trans hb)
  clear hb
  have z0 := BP.out.cell 0 rfl
  have z1 := BP.out.cell 1 rfl
  have z2 := BP.out.cell 2 rfl
  have z3 := BP.out.cell 3 rfl
  have z4 := BP.out.cell 4 rfl
  have z5 := BP.out.cell 5 rfl
  have z6 := BP.out.cell 6 rfl
  have z7 := BP.out.cell 7 rfl
  have z8 := BP.out.cell 8 rfl
  have z9 := BP.out.cell 9 rfl
  have z10 := BP.out.cell 10 rfl
  go_wp2_with fail
  refine (encode_yes s P Aa Ba Ca Da na ca ma da ka ea la fa _ HP.out HWP.out HS2.out.1 HS2.out.2.1 HS2.out.2.2.1 HS2.out.2.2.2 HPO.out).mono ?_
  rintro e2 w3 ⟨g9, rfl, hR9, hg9, hb⟩
  clear z0 z1 z2 z3 z4 z5 z6 z7 z8 z9 z10
  have HRB := hid_ hR9
  clear hR9 hg9
  have HO := hid_ (HO.out.bel hb)
  have HP := hid_ (HP.out.bel hb)
  have BO := hid_ (BO.out.bel hb)
  have BP := hid_ (BP.out.bel hb)
  have HB := hid_ (HB.out.trans hb)
  clear hb
  have z0 := BP.out.cell 0 rfl
  have z1 := BP.out.cell 1 rfl
  have z2 := BP.out.cell 2 rfl
  have z3 := BP.out.cell 3 rfl
  have z4 := BP.out.cell 4 rfl
  have z5 := BP.out.cell 5 rfl
  have z6 := BP.out.cell 6 rfl
  have z7 := BP.out.cell 7 rfl
  have z8 := BP.out.cell 8 rfl
  have z9 := BP.out.cell 9 rfl
  have z10 := BP.out.cell 10 rfl
  have r1 : (P.kind != 4) = true := by simp [HK.out]
  go_wp2
  go_ret
  exact ⟨rfl, HB.out⟩
theorem strEq {xs ys : List Int} (hx : ∀ x ∈ xs, 0 ≤ x ∧ x < 256) (hy : ∀ x ∈ ys, 0 ≤ x ∧ x < 256) : ((strOfNums xs).toList == (strOfNums ys).toList) = decide (xs = ys) := by
  rw [toList_eq]
  by_cases e : xs = ys
  · subst e; simp
  · rw [decide_eq_false e, decide_eq_false (fun h => e (str_inj hx hy h))]
theorem enc_ne {s : Int} {O P : Pg} (hO : okE s O = true) (how : epW O) (hP : okE s P = true) (hw : epW P) (hne : O.epoch ≠ P.epoch) : encP s O ≠ encP s P := by
  intro h
  have h1 := dec_enc hO how
  rw [h, dec_enc hP hw] at h1
  injection h1 with h1
  exact hne (by rw [h1])
theorem zero_ne {s : Int} {P : Pg} (hk : P.kind = 4) : List.replicate 1024 (0 : Int) ≠ encP s P := by
  intro h
  have h4 := super_512 (s := s) hk
  rw [← enc_4 hk, ← h, List.getD_eq_getElem?_getD, List.getElem?_replicate] at h4
  simp at h4
theorem torn_byte {a b : List Int} {k : Nat} (ha : ∀ x ∈ a, 0 ≤ x ∧ x < 256) (hb : ∀ x ∈ b, 0 ≤ x ∧ x < 256) : ∀ x ∈ tornL a b k, 0 ≤ x ∧ x < 256 := by
  intro x hx
  rw [tornL] at hx
  rcases List.mem_append.1 hx with h | h
  · exact hb x (List.mem_of_mem_take h)
  · exact ha x (List.mem_of_mem_drop h)
theorem okE_epoch {s : Int} {O : Pg} (h : okE s O = true) (hk : ¬ O.kind = 4) : O.epoch = 0 := by
  rcases okP_cases (here_iff h).1 with ⟨_, h⟩ | ⟨_, h⟩ | ⟨_, h⟩ | ⟨e, _⟩
  · exact (ok1_facts h).2.2.2.2.1
  · exact (ok2_facts h).2.2.2.1
  · exact (ok3_facts h).2.2.2.2.1
  · exact absurd e hk
theorem rep_byte : ∀ x ∈ List.replicate 1024 (0 : Int), 0 ≤ x ∧ x < 256 := fun x hx => by
  have := List.eq_of_mem_replicate hx
  omega
/-- What the torn bytes are told to be. -/
structure TornF (s : Int) (P : Pg) (a T : List Int) (k : Nat) : Prop where
  t : tornL a (encP s P) k = T
  len : T.length = 1024
  byt : ∀ x ∈ T, 0 ≤ x ∧ x < 256
  abyt : ∀ x ∈ a, 0 ≤ x ∧ x < 256
  pbyt : ∀ x ∈ encP s P, 0 ≤ x ∧ x < 256
  ne : a ≠ encP s P
  cut : decP s T = none → k < 1024
  alen : a.length = 1024
theorem rowZ (w : World) {Z : List Int} (hZ : Z.length ≤ 1024) : Row byteT (w.alloc (.cells (byteV Z).toArray 5)) (some ⟨w.heap.size, 0, none⟩) Z.length Z := by
  have h := Row.lit (T := byteT) w Z (0, 0) (by omega)
  have e : Z.flatMap byteT.enc = byteV Z := by
    unfold byteV
    clear h hZ
    induction Z with
    | nil => rfl
    | cons x l ih => rw [List.flatMap_cons, ih]; rfl
  rw [e] at h
  exact h
set_option maxRecDepth 10000 in
set_option maxHeartbeats 8000000 in
theorem tears_a (w : World) (s : Int) (O : Pg) (A : Option Addr) (n c : Nat) (B : Option Addr) (m d : Nat) (C : Option Addr) (k e : Nat) (D : Option Addr) (l f : Nat) (hO : pageWf w O A n c B m d C k e D l f) (hs1 : n ≤ 4398046511104 ∧ m ≤ 17592186044416 ∧ k ≤ 17592186044416 ∧ l ≤ 17592186044416) (P : Pg) (Aa : Option Addr) (na ca : Nat) (Ba : Option Addr) (ma da : Nat) (Ca : Option Addr) (ka ea : Nat) (Da : Option Addr) (la fa : Nat) (hP : pageWf w P Aa na ca Ba ma da Ca ka ea Da la fa) (hs2 : na ≤ 4398046511104 ∧ ma ≤ 17592186044416 ∧ ka ≤ 17592186044416 ∧ la ≤ 17592186044416) (ct : Int) (hct : i64R ct) (ho : okE s O = true) (hp : okE s P = true) (hok : O.kind = 4) (hep : O.epoch = P.epoch) (hk : P.kind = 4) :
    Calls Try.prog 8 #[.int .i64 s, pgV O (.slice A n c) (.slice B m d) (.slice C k e) (.slice D l f), pgV P (.slice Aa na ca) (.slice Ba ma da) (.slice Ca ka ea) (.slice Da la fa), .int .i64 ct] w fun e w' => e = .returned (.bool true) ∧ Bel w w' := by
  have HOO := hid_ ho
  have HPO := hid_ hp
  clear ho hp
  clear hct
  have HK := hid_ hk
  clear hk
  have HEP := hid_ hep
  have HOK := hid_ hok
  clear hep hok
  obtain ⟨_, _, _, _, hO, hwo⟩ := hO
  obtain ⟨_, _, _, _, hP, hwp⟩ := hP
  have HO := hid_ hO
  have HP := hid_ hP
  have HWO := hid_ hwo
  have HWP := hid_ hwp
  have HS1 := hid_ hs1
  have HS2 := hid_ hs2
  clear hO hP hwo hwp hs1 hs2
  unfold pgV pgC
  go_enter Try.func8, Try.ntmps8
  go_upto_region 1 with (fail)
  have bx := (Bx.new w 28 (pgC O (.slice A n c) (.slice B m d) (.slice C k e) (.slice D l f))).alloc (.cells (pgC P (.slice Aa na ca) (.slice Ba ma da) (.slice Ca ka ea) (.slice Da la fa)).toArray 28)
  have bz := Bx.new (w.alloc (.cells (pgC O (.slice A n c) (.slice B m d) (.slice C k e) (.slice D l f)).toArray 28)) 28 (pgC P (.slice Aa na ca) (.slice Ba ma da) (.slice Ca ka ea) (.slice Da la fa))
  have hs := sizeAl w (.cells (pgC O (.slice A n c) (.slice B m d) (.slice C k e) (.slice D l f)).toArray 28)
  have hb := ((Bel.refl w).alloc (.cells (pgC O (.slice A n c) (.slice B m d) (.slice C k e) (.slice D l f)).toArray 28)).alloc (.cells (pgC P (.slice Aa na ca) (.slice Ba ma da) (.slice Ca ka ea) (.slice Da la fa)).toArray 28)
  rw [hs] at bz
  clear hs
  unfold pgC at bx bz hb
  generalize (w.alloc _).alloc _ = W0 at bx bz hb ⊢
  generalize w.heap.size = go at bx bz ⊢
  generalize hz : go + 1 = gp at bz ⊢
  clear hz
  have BO := hid_ bx
  have BP := hid_ bz
  have HB := hid_ hb
  have HO := hid_ (HO.out.bel hb)
  have HP := hid_ (HP.out.bel hb)
  clear bx bz hb
  go_wp2_with fail
  refine (awake_any _).mono ?_
  rintro e0 w1 ⟨rfl, hb⟩
  have HO := hid_ (HO.out.bel hb)
  have HP := hid_ (HP.out.bel hb)
  have BO := hid_ (BO.out.bel hb)
  have BP := hid_ (BP.out.bel hb)
  have HB := hid_ (HB.out.trans hb)
  clear hb
  have c0 := BO.out.cell 0 rfl
  have c1 := BO.out.cell 1 rfl
  have c2 := BO.out.cell 2 rfl
  have c3 := BO.out.cell 3 rfl
  have c4 := BO.out.cell 4 rfl
  have c5 := BO.out.cell 5 rfl
  have c6 := BO.out.cell 6 rfl
  have c7 := BO.out.cell 7 rfl
  have c8 := BO.out.cell 8 rfl
  have c9 := BO.out.cell 9 rfl
  have c10 := BO.out.cell 10 rfl
  go_wp2_with fail
  refine (encode_yes s O A B C D n c m d k e l f _ HO.out HWO.out HS1.out.1 HS1.out.2.1 HS1.out.2.2.1 HS1.out.2.2.2 HOO.out).mono ?_
  rintro e1 w2 ⟨g8, rfl, hR8, hg8, hb⟩
  clear c0 c1 c2 c3 c4 c5 c6 c7 c8 c9 c10
  have HRA := hid_ hR8
  clear hR8 hg8
  have HO := hid_ (HO.out.bel hb)
  have HP := hid_ (HP.out.bel hb)
  have BO := hid_ (BO.out.bel hb)
  have BP := hid_ (BP.out.bel hb)
  have HB := hid_ (HB.out.trans hb)
  clear hb
  have z0 := BP.out.cell 0 rfl
  have z1 := BP.out.cell 1 rfl
  have z2 := BP.out.cell 2 rfl
  have z3 := BP.out.cell 3 rfl
  have z4 := BP.out.cell 4 rfl
  have z5 := BP.out.cell 5 rfl
  have z6 := BP.out.cell 6 rfl
  have z7 := BP.out.cell 7 rfl
  have z8 := BP.out.cell 8 rfl
  have z9 := BP.out.cell 9 rfl
  have z10 := BP.out.cell 10 rfl
  go_wp2_with fail
  refine (encode_yes s P Aa Ba Ca Da na ca ma da ka ea la fa _ HP.out HWP.out HS2.out.1 HS2.out.2.1 HS2.out.2.2.1 HS2.out.2.2.2 HPO.out).mono ?_
  rintro e2 w3 ⟨g9, rfl, hR9, hg9, hb⟩
  clear z0 z1 z2 z3 z4 z5 z6 z7 z8 z9 z10
  have HRB := hid_ hR9
  clear hR9 hg9
  have HRA := hid_ (HRA.out.bel hb)
  have HO := hid_ (HO.out.bel hb)
  have HP := hid_ (HP.out.bel hb)
  have BO := hid_ (BO.out.bel hb)
  have BP := hid_ (BP.out.bel hb)
  have HB := hid_ (HB.out.trans hb)
  clear hb
  have c0 := BO.out.cell 0 rfl
  have c1 := BO.out.cell 1 rfl
  have c2 := BO.out.cell 2 rfl
  have c3 := BO.out.cell 3 rfl
  have c4 := BO.out.cell 4 rfl
  have c5 := BO.out.cell 5 rfl
  have c6 := BO.out.cell 6 rfl
  have c7 := BO.out.cell 7 rfl
  have c8 := BO.out.cell 8 rfl
  have c9 := BO.out.cell 9 rfl
  have c10 := BO.out.cell 10 rfl
  have z0 := BP.out.cell 0 rfl
  have z1 := BP.out.cell 1 rfl
  have z2 := BP.out.cell 2 rfl
  have z3 := BP.out.cell 3 rfl
  have z4 := BP.out.cell 4 rfl
  have z5 := BP.out.cell 5 rfl
  have z6 := BP.out.cell 6 rfl
  have z7 := BP.out.cell 7 rfl
  have z8 := BP.out.cell 8 rfl
  have z9 := BP.out.cell 9 rfl
  have z10 := BP.out.cell 10 rfl
  have r1 : (P.kind != 4) = false := by simp [HK.out]
  have r0 : (O.kind != 4) = false := by simp [HOK.out]
  have r2 : (O.epoch == P.epoch) = true := by simp [HEP.out]
  go_wp2
  go_ret
  exact ⟨rfl, HB.out⟩
set_option maxRecDepth 10000 in
set_option maxHeartbeats 8000000 in
theorem tears_c (w : World) (s : Int) (O : Pg) (A : Option Addr) (n c : Nat) (B : Option Addr) (m d : Nat) (C : Option Addr) (k e : Nat) (D : Option Addr) (l f : Nat) (hO : pageWf w O A n c B m d C k e D l f) (hs1 : n ≤ 4398046511104 ∧ m ≤ 17592186044416 ∧ k ≤ 17592186044416 ∧ l ≤ 17592186044416) (P : Pg) (Aa : Option Addr) (na ca : Nat) (Ba : Option Addr) (ma da : Nat) (Ca : Option Addr) (ka ea : Nat) (Da : Option Addr) (la fa : Nat) (hP : pageWf w P Aa na ca Ba ma da Ca ka ea Da la fa) (hs2 : na ≤ 4398046511104 ∧ ma ≤ 17592186044416 ∧ ka ≤ 17592186044416 ∧ la ≤ 17592186044416) (ct : Int) (hct : i64R ct) (ho : okE s O = true) (hp : okE s P = true) (hok : ¬ O.kind = 4) (hep : O.epoch = P.epoch) (hk : P.kind = 4) :
    Calls Try.prog 8 #[.int .i64 s, pgV O (.slice A n c) (.slice B m d) (.slice C k e) (.slice D l f), pgV P (.slice Aa na ca) (.slice Ba ma da) (.slice Ca ka ea) (.slice Da la fa), .int .i64 ct] w fun e w' => e = .returned (.bool true) ∧ Bel w w' := by
  have HOO := hid_ ho
  have HPO := hid_ hp
  clear ho hp
  clear hct
  have HK := hid_ hk
  clear hk
  obtain ⟨Z, hZ⟩ : ∃ Z, List.replicate 1024 (0 : Int) = Z := ⟨_, rfl⟩
  have HZ := hid_ hZ
  clear hZ
  have HEP := hid_ hep
  have HOK := hid_ hok
  clear hep hok
  obtain ⟨_, _, _, _, hO, hwo⟩ := hO
  obtain ⟨_, _, _, _, hP, hwp⟩ := hP
  have HO := hid_ hO
  have HP := hid_ hP
  have HWO := hid_ hwo
  have HWP := hid_ hwp
  have HS1 := hid_ hs1
  have HS2 := hid_ hs2
  clear hO hP hwo hwp hs1 hs2
  unfold pgV pgC
  go_enter Try.func8, Try.ntmps8
  go_upto_region 1 with (fail)
  have bx := (Bx.new w 28 (pgC O (.slice A n c) (.slice B m d) (.slice C k e) (.slice D l f))).alloc (.cells (pgC P (.slice Aa na ca) (.slice Ba ma da) (.slice Ca ka ea) (.slice Da la fa)).toArray 28)
  have bz := Bx.new (w.alloc (.cells (pgC O (.slice A n c) (.slice B m d) (.slice C k e) (.slice D l f)).toArray 28)) 28 (pgC P (.slice Aa na ca) (.slice Ba ma da) (.slice Ca ka ea) (.slice Da la fa))
  have hs := sizeAl w (.cells (pgC O (.slice A n c) (.slice B m d) (.slice C k e) (.slice D l f)).toArray 28)
  have hb := ((Bel.refl w).alloc (.cells (pgC O (.slice A n c) (.slice B m d) (.slice C k e) (.slice D l f)).toArray 28)).alloc (.cells (pgC P (.slice Aa na ca) (.slice Ba ma da) (.slice Ca ka ea) (.slice Da la fa)).toArray 28)
  rw [hs] at bz
  clear hs
  unfold pgC at bx bz hb
  generalize (w.alloc _).alloc _ = W0 at bx bz hb ⊢
  generalize w.heap.size = go at bx bz ⊢
  generalize hz : go + 1 = gp at bz ⊢
  clear hz
  have BO := hid_ bx
  have BP := hid_ bz
  have HB := hid_ hb
  have HO := hid_ (HO.out.bel hb)
  have HP := hid_ (HP.out.bel hb)
  clear bx bz hb
  go_wp2_with fail
  refine (awake_any _).mono ?_
  rintro e0 w1 ⟨rfl, hb⟩
  have HO := hid_ (HO.out.bel hb)
  have HP := hid_ (HP.out.bel hb)
  have BO := hid_ (BO.out.bel hb)
  have BP := hid_ (BP.out.bel hb)
  have HB := hid_ (HB.out.trans hb)
  clear hb
  have c0 := BO.out.cell 0 rfl
  have c1 := BO.out.cell 1 rfl
  have c2 := BO.out.cell 2 rfl
  have c3 := BO.out.cell 3 rfl
  have c4 := BO.out.cell 4 rfl
  have c5 := BO.out.cell 5 rfl
  have c6 := BO.out.cell 6 rfl
  have c7 := BO.out.cell 7 rfl
  have c8 := BO.out.cell 8 rfl
  have c9 := BO.out.cell 9 rfl
  have c10 := BO.out.cell 10 rfl
  go_wp2_with fail
  refine (encode_yes s O A B C D n c m d k e l f _ HO.out HWO.out HS1.out.1 HS1.out.2.1 HS1.out.2.2.1 HS1.out.2.2.2 HOO.out).mono ?_
  rintro e1 w2 ⟨g8, rfl, hR8, hg8, hb⟩
  clear c0 c1 c2 c3 c4 c5 c6 c7 c8 c9 c10
  have HRA := hid_ hR8
  clear hR8 hg8
  have HO := hid_ (HO.out.bel hb)
  have HP := hid_ (HP.out.bel hb)
  have BO := hid_ (BO.out.bel hb)
  have BP := hid_ (BP.out.bel hb)
  have HB := hid_ (HB.out.trans hb)
  clear hb
  have z0 := BP.out.cell 0 rfl
  have z1 := BP.out.cell 1 rfl
  have z2 := BP.out.cell 2 rfl
  have z3 := BP.out.cell 3 rfl
  have z4 := BP.out.cell 4 rfl
  have z5 := BP.out.cell 5 rfl
  have z6 := BP.out.cell 6 rfl
  have z7 := BP.out.cell 7 rfl
  have z8 := BP.out.cell 8 rfl
  have z9 := BP.out.cell 9 rfl
  have z10 := BP.out.cell 10 rfl
  go_wp2_with fail
  refine (encode_yes s P Aa Ba Ca Da na ca ma da ka ea la fa _ HP.out HWP.out HS2.out.1 HS2.out.2.1 HS2.out.2.2.1 HS2.out.2.2.2 HPO.out).mono ?_
  rintro e2 w3 ⟨g9, rfl, hR9, hg9, hb⟩
  clear z0 z1 z2 z3 z4 z5 z6 z7 z8 z9 z10
  have HRB := hid_ hR9
  clear hR9 hg9
  have HRA := hid_ (HRA.out.bel hb)
  have HO := hid_ (HO.out.bel hb)
  have HP := hid_ (HP.out.bel hb)
  have BO := hid_ (BO.out.bel hb)
  have BP := hid_ (BP.out.bel hb)
  have HB := hid_ (HB.out.trans hb)
  clear hb
  have c0 := BO.out.cell 0 rfl
  have c1 := BO.out.cell 1 rfl
  have c2 := BO.out.cell 2 rfl
  have c3 := BO.out.cell 3 rfl
  have c4 := BO.out.cell 4 rfl
  have c5 := BO.out.cell 5 rfl
  have c6 := BO.out.cell 6 rfl
  have c7 := BO.out.cell 7 rfl
  have c8 := BO.out.cell 8 rfl
  have c9 := BO.out.cell 9 rfl
  have c10 := BO.out.cell 10 rfl
  have z0 := BP.out.cell 0 rfl
  have z1 := BP.out.cell 1 rfl
  have z2 := BP.out.cell 2 rfl
  have z3 := BP.out.cell 3 rfl
  have z4 := BP.out.cell 4 rfl
  have z5 := BP.out.cell 5 rfl
  have z6 := BP.out.cell 6 rfl
  have z7 := BP.out.cell 7 rfl
  have z8 := BP.out.cell 8 rfl
  have z9 := BP.out.cell 9 rfl
  have z10 := BP.out.cell 10 rfl
  have r1 : (P.kind != 4) = false := by simp [HK.out]
  have r0 : (O.kind != 4) = true := by simp [HOK.out]
  have r2 : (O.epoch == P.epoch) = true := by simp [HEP.out]
  have hmk : ∀ W : World, (Instr.makeSlice 30 (.int .i64 1024) (.int .i64 1024)).run Try.prog W = .ok (.slice (some ⟨W.heap.size, 0, none⟩) 1024 1024) (W.alloc (.cells (byteV Z).toArray 5)) := fun W => by rw [← HZ.out]; exact mkBytes 1024 (by omega) W
  go_upto_region 8 with (fail)
  have hb := (Bel.refl w3).alloc (.cells (byteV Z).toArray 5)
  generalize w3.alloc _ = W4 at hb ⊢
  generalize w3.heap.size = g7 at ⊢
  clear hmk
  clear c0 c1 c2 c3 c4 c5 c6 c7 c8 c9 c10
  clear z0 z1 z2 z3 z4 z5 z6 z7 z8 z9 z10
  have BO := hid_ (BO.out.bel hb)
  have BP := hid_ (BP.out.bel hb)
  have HB := hid_ (HB.out.trans hb)
  clear hb
  have c0 := BO.out.cell 0 rfl
  have c1 := BO.out.cell 1 rfl
  have c2 := BO.out.cell 2 rfl
  have c3 := BO.out.cell 3 rfl
  have c4 := BO.out.cell 4 rfl
  have c5 := BO.out.cell 5 rfl
  have c6 := BO.out.cell 6 rfl
  have c7 := BO.out.cell 7 rfl
  have c8 := BO.out.cell 8 rfl
  have c9 := BO.out.cell 9 rfl
  have c10 := BO.out.cell 10 rfl
  have z0 := BP.out.cell 0 rfl
  have z1 := BP.out.cell 1 rfl
  have z2 := BP.out.cell 2 rfl
  have z3 := BP.out.cell 3 rfl
  have z4 := BP.out.cell 4 rfl
  have z5 := BP.out.cell 5 rfl
  have z6 := BP.out.cell 6 rfl
  have z7 := BP.out.cell 7 rfl
  have z8 := BP.out.cell 8 rfl
  have z9 := BP.out.cell 9 rfl
  have z10 := BP.out.cell 10 rfl
  go_wp2
  go_ret
  exact ⟨rfl, HB.out⟩
set_option maxRecDepth 10000 in
set_option maxHeartbeats 8000000 in
theorem tears_e (w : World) (s : Int) (O : Pg) (A : Option Addr) (n c : Nat) (B : Option Addr) (m d : Nat) (C : Option Addr) (k e : Nat) (D : Option Addr) (l f : Nat) (hO : pageWf w O A n c B m d C k e D l f) (hs1 : n ≤ 4398046511104 ∧ m ≤ 17592186044416 ∧ k ≤ 17592186044416 ∧ l ≤ 17592186044416) (P : Pg) (Aa : Option Addr) (na ca : Nat) (Ba : Option Addr) (ma da : Nat) (Ca : Option Addr) (ka ea : Nat) (Da : Option Addr) (la fa : Nat) (hP : pageWf w P Aa na ca Ba ma da Ca ka ea Da la fa) (hs2 : na ≤ 4398046511104 ∧ ma ≤ 17592186044416 ∧ ka ≤ 17592186044416 ∧ la ≤ 17592186044416) (ct : Int) (hct : i64R ct) (ho : okE s O = false) (hp : okE s P = true) (hep : P.epoch = 0) (hk : P.kind = 4) :
    Calls Try.prog 8 #[.int .i64 s, pgV O (.slice A n c) (.slice B m d) (.slice C k e) (.slice D l f), pgV P (.slice Aa na ca) (.slice Ba ma da) (.slice Ca ka ea) (.slice Da la fa), .int .i64 ct] w fun e w' => e = .returned (.bool true) ∧ Bel w w' := by
  have HOO := hid_ ho
  have HPO := hid_ hp
  clear ho hp
  clear hct
  have HK := hid_ hk
  clear hk
  obtain ⟨Z, hZ⟩ : ∃ Z, List.replicate 1024 (0 : Int) = Z := ⟨_, rfl⟩
  have HZ := hid_ hZ
  clear hZ
  have HEP := hid_ hep
  clear hep
  obtain ⟨_, _, _, _, hO, hwo⟩ := hO
  obtain ⟨_, _, _, _, hP, hwp⟩ := hP
  have HO := hid_ hO
  have HP := hid_ hP
  have HWO := hid_ hwo
  have HWP := hid_ hwp
  have HS1 := hid_ hs1
  have HS2 := hid_ hs2
  clear hO hP hwo hwp hs1 hs2
  unfold pgV pgC
  go_enter Try.func8, Try.ntmps8
  go_upto_region 1 with (fail)
  have bx := (Bx.new w 28 (pgC O (.slice A n c) (.slice B m d) (.slice C k e) (.slice D l f))).alloc (.cells (pgC P (.slice Aa na ca) (.slice Ba ma da) (.slice Ca ka ea) (.slice Da la fa)).toArray 28)
  have bz := Bx.new (w.alloc (.cells (pgC O (.slice A n c) (.slice B m d) (.slice C k e) (.slice D l f)).toArray 28)) 28 (pgC P (.slice Aa na ca) (.slice Ba ma da) (.slice Ca ka ea) (.slice Da la fa))
  have hs := sizeAl w (.cells (pgC O (.slice A n c) (.slice B m d) (.slice C k e) (.slice D l f)).toArray 28)
  have hb := ((Bel.refl w).alloc (.cells (pgC O (.slice A n c) (.slice B m d) (.slice C k e) (.slice D l f)).toArray 28)).alloc (.cells (pgC P (.slice Aa na ca) (.slice Ba ma da) (.slice Ca ka ea) (.slice Da la fa)).toArray 28)
  rw [hs] at bz
  clear hs
  unfold pgC at bx bz hb
  generalize (w.alloc _).alloc _ = W0 at bx bz hb ⊢
  generalize w.heap.size = go at bx bz ⊢
  generalize hz : go + 1 = gp at bz ⊢
  clear hz
  have BO := hid_ bx
  have BP := hid_ bz
  have HB := hid_ hb
  have HO := hid_ (HO.out.bel hb)
  have HP := hid_ (HP.out.bel hb)
  clear bx bz hb
  go_wp2_with fail
  refine (awake_any _).mono ?_
  rintro e0 w1 ⟨rfl, hb⟩
  have HO := hid_ (HO.out.bel hb)
  have HP := hid_ (HP.out.bel hb)
  have BO := hid_ (BO.out.bel hb)
  have BP := hid_ (BP.out.bel hb)
  have HB := hid_ (HB.out.trans hb)
  clear hb
  have c0 := BO.out.cell 0 rfl
  have c1 := BO.out.cell 1 rfl
  have c2 := BO.out.cell 2 rfl
  have c3 := BO.out.cell 3 rfl
  have c4 := BO.out.cell 4 rfl
  have c5 := BO.out.cell 5 rfl
  have c6 := BO.out.cell 6 rfl
  have c7 := BO.out.cell 7 rfl
  have c8 := BO.out.cell 8 rfl
  have c9 := BO.out.cell 9 rfl
  have c10 := BO.out.cell 10 rfl
  go_wp2_with fail
  refine (encode_no s O A B C D n c m d k e l f _ HO.out HWO.out HS1.out.1 HS1.out.2.1 HS1.out.2.2.1 HS1.out.2.2.2 HOO.out).mono ?_
  rintro e1 w2 ⟨rfl, hb⟩
  clear c0 c1 c2 c3 c4 c5 c6 c7 c8 c9 c10
  have HO := hid_ (HO.out.bel hb)
  have HP := hid_ (HP.out.bel hb)
  have BO := hid_ (BO.out.bel hb)
  have BP := hid_ (BP.out.bel hb)
  have HB := hid_ (HB.out.trans hb)
  clear hb
  have z0 := BP.out.cell 0 rfl
  have z1 := BP.out.cell 1 rfl
  have z2 := BP.out.cell 2 rfl
  have z3 := BP.out.cell 3 rfl
  have z4 := BP.out.cell 4 rfl
  have z5 := BP.out.cell 5 rfl
  have z6 := BP.out.cell 6 rfl
  have z7 := BP.out.cell 7 rfl
  have z8 := BP.out.cell 8 rfl
  have z9 := BP.out.cell 9 rfl
  have z10 := BP.out.cell 10 rfl
  go_wp2_with fail
  refine (encode_yes s P Aa Ba Ca Da na ca ma da ka ea la fa _ HP.out HWP.out HS2.out.1 HS2.out.2.1 HS2.out.2.2.1 HS2.out.2.2.2 HPO.out).mono ?_
  rintro e2 w3 ⟨g9, rfl, hR9, hg9, hb⟩
  clear z0 z1 z2 z3 z4 z5 z6 z7 z8 z9 z10
  have HRB := hid_ hR9
  clear hR9 hg9
  have HO := hid_ (HO.out.bel hb)
  have HP := hid_ (HP.out.bel hb)
  have BO := hid_ (BO.out.bel hb)
  have BP := hid_ (BP.out.bel hb)
  have HB := hid_ (HB.out.trans hb)
  clear hb
  have c0 := BO.out.cell 0 rfl
  have c1 := BO.out.cell 1 rfl
  have c2 := BO.out.cell 2 rfl
  have c3 := BO.out.cell 3 rfl
  have c4 := BO.out.cell 4 rfl
  have c5 := BO.out.cell 5 rfl
  have c6 := BO.out.cell 6 rfl
  have c7 := BO.out.cell 7 rfl
  have c8 := BO.out.cell 8 rfl
  have c9 := BO.out.cell 9 rfl
  have c10 := BO.out.cell 10 rfl
  have z0 := BP.out.cell 0 rfl
  have z1 := BP.out.cell 1 rfl
  have z2 := BP.out.cell 2 rfl
  have z3 := BP.out.cell 3 rfl
  have z4 := BP.out.cell 4 rfl
  have z5 := BP.out.cell 5 rfl
  have z6 := BP.out.cell 6 rfl
  have z7 := BP.out.cell 7 rfl
  have z8 := BP.out.cell 8 rfl
  have z9 := BP.out.cell 9 rfl
  have z10 := BP.out.cell 10 rfl
  have r1 : (P.kind != 4) = false := by simp [HK.out]
  have r2 : (P.epoch == 0) = true := by simp [HEP.out]
  have hmk : ∀ W : World, (Instr.makeSlice 30 (.int .i64 1024) (.int .i64 1024)).run Try.prog W = .ok (.slice (some ⟨W.heap.size, 0, none⟩) 1024 1024) (W.alloc (.cells (byteV Z).toArray 5)) := fun W => by rw [← HZ.out]; exact mkBytes 1024 (by omega) W
  go_upto_region 8 with (fail)
  have hb := (Bel.refl w3).alloc (.cells (byteV Z).toArray 5)
  generalize w3.alloc _ = W4 at hb ⊢
  generalize w3.heap.size = g7 at ⊢
  clear hmk
  clear c0 c1 c2 c3 c4 c5 c6 c7 c8 c9 c10
  clear z0 z1 z2 z3 z4 z5 z6 z7 z8 z9 z10
  have BO := hid_ (BO.out.bel hb)
  have BP := hid_ (BP.out.bel hb)
  have HB := hid_ (HB.out.trans hb)
  clear hb
  have c0 := BO.out.cell 0 rfl
  have c1 := BO.out.cell 1 rfl
  have c2 := BO.out.cell 2 rfl
  have c3 := BO.out.cell 3 rfl
  have c4 := BO.out.cell 4 rfl
  have c5 := BO.out.cell 5 rfl
  have c6 := BO.out.cell 6 rfl
  have c7 := BO.out.cell 7 rfl
  have c8 := BO.out.cell 8 rfl
  have c9 := BO.out.cell 9 rfl
  have c10 := BO.out.cell 10 rfl
  have z0 := BP.out.cell 0 rfl
  have z1 := BP.out.cell 1 rfl
  have z2 := BP.out.cell 2 rfl
  have z3 := BP.out.cell 3 rfl
  have z4 := BP.out.cell 4 rfl
  have z5 := BP.out.cell 5 rfl
  have z6 := BP.out.cell 6 rfl
  have z7 := BP.out.cell 7 rfl
  have z8 := BP.out.cell 8 rfl
  have z9 := BP.out.cell 9 rfl
  have z10 := BP.out.cell 10 rfl
  go_wp2
  go_ret
  exact ⟨rfl, HB.out⟩
end Go.Proofs.Ytcfabnkkkpcelaa
