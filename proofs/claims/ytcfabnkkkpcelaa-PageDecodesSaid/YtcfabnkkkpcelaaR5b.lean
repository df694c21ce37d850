/- The document's answer on pages: leaf, branch, list, super: the walks. -/
import Derived.Test.YtcfabnkkkpcelaaR5a
import Derived.Test.YtcfabnkkkpcelaaPg4
set_option linter.unusedSimpArgs false
set_option linter.unusedVariables false
namespace Go.Proofs.Ytcfabnkkkpcelaa
open Go.RowKit Go.Lib
def at5 (l : List PairV) (j : Nat) : Bool := riseAt (l.map PairV.key) j && decide ((l.getD j ⟨.empty, .empty⟩).val.size ≤ 100)
theorem leaf5_yes {l : List PairV} (h1 : 1 ≤ l.length) (h6 : l.length ≤ 6) (h : ∀ j, j < l.length → at5 l j = true) : leafB l = true := by
  have hv : valsB l = true := by
    refine List.all_eq_true.2 fun x hx => ?_
    obtain ⟨j, hj, e⟩ := List.mem_iff_getElem.1 hx
    have := h j hj
    rw [at5, Bool.and_eq_true, List.getD_eq_getElem?_getD, List.getElem?_eq_getElem hj, Option.getD_some, e] at this
    exact this.2
  have hr : riseB (l.map PairV.key) = true := by
    refine all_range fun j hj => ?_
    have := h j (by simpa using hj)
    rw [at5, Bool.and_eq_true] at this
    exact this.1
  rw [leafB, hv, hr, decide_eq_true h1, decide_eq_true h6]
  rfl
theorem leaf5_no {l : List PairV} {j : Nat} (hj : j < l.length) (h : at5 l j = false) : leafB l = false := by
  rw [at5, Bool.and_eq_false_iff] at h
  rw [leafB]
  rcases h with h | h
  · have : riseB (l.map PairV.key) = false := all_range_no (by simpa using hj) h
    rw [this]
    simp
  · have : valsB l = false := by
      cases h' : valsB l with
      | false => rfl
      | true =>
        have := (List.all_eq_true.1 h') (l[j]) (List.getElem_mem hj)
        rw [List.getD_eq_getElem?_getD, List.getElem?_eq_getElem hj, Option.getD_some, this] at h
        cases h
    rw [this]
    rfl
theorem leaf5_len {l : List PairV} (h : l.length < 1 ∨ 6 < l.length) : leafB l = false := by
  rw [leafB]
  rcases h with h | h
  · rw [decide_eq_false (show ¬ 1 ≤ l.length by omega)]; simp
  · rw [decide_eq_false (show ¬ l.length ≤ 6 by omega)]; simp
set_option maxRecDepth 10000 in
set_option maxHeartbeats 8000000 in
theorem leaf5_any (P : Pg) (A B C D : Option Addr) (n c m d k e l f : Nat) (w : World) (hP : PgAt w P A n B m C k D l) :
    Calls Try.prog 38 #[pgV P (.slice A n c) (.slice B m d) (.slice C k e) (.slice D l f)] w fun e w' => e = .returned (.bool (leafB P.pairs)) ∧ Bel w w' := by
  have hn1 := hP.pairs.1
  have z1 := hP.pairs.2.1
  have HL := hid_ hn1
  clear hn1
  have HP := hid_ hP
  unfold pgV pgC
  clear hP
  go_enter Try.func38, Try.ntmps38
  go_upto_region 1 with (fail)
  have bx := Bx.new w 28 (pgC P (.slice A n c) (.slice B m d) (.slice C k e) (.slice D l f))
  have hb := (Bel.refl w).alloc (.cells (pgC P (.slice A n c) (.slice B m d) (.slice C k e) (.slice D l f)).toArray 28)
  unfold pgC at bx hb
  generalize w.alloc _ = W0 at bx hb ⊢
  generalize w.heap.size = g at bx ⊢
  have HB := hid_ hb
  have HP := hid_ (HP.out.bel hb)
  have c1 := bx.cell 1 rfl
  clear bx hb
  by_cases q1 : n < 1
  · have HF : Hid (leafB P.pairs = false) := hid_ (leaf5_len (by rw [HL.out]; omega))
    go_wp2
    go_ret
    exact ⟨by rw [HF.out]; rfl, HB.out⟩
  by_cases q2 : 6 < n
  · have HF : Hid (leafB P.pairs = false) := hid_ (leaf5_len (by rw [HL.out]; omega))
    go_wp2
    go_ret
    exact ⟨by rw [HF.out]; rfl, HB.out⟩
  have HN : Hid (1 ≤ n ∧ n ≤ 6) := hid_ (by omega)
  go_wp2_with fail
  clear q1 q2
  go_loopw [3] (fun i wr => ∃ j : Nat, j ≤ n ∧ i = .int .i64 j ∧ Bel W0 wr ∧ Hid (∀ t, t < j → at5 P.pairs t = true)) (fun i _ => n - (Go.RowKit.intOf i).toNat)
  case atStart => exact ⟨0, Nat.zero_le _, rfl, Bel.refl _, hid_ (fun t ht => absurd ht (by omega))⟩
  case round =>
    obtain ⟨j, hj, rfl, hb, HX⟩ := hrel
    replace c1 := hb.cell_ c1
    have HR := hid_ hb
    by_cases hjn : j < n
    · obtain ⟨ad, y, rfl, ho, d0, d1⟩ := (HP.out.pairs.bel hb).pair hjn
      clear hb
      have i0 : (0 : Int) ≤ (j : Int) := by omega
      have i1 : (j : Int) < (n : Int) := by omega
      have hy : (P.pairs.map PairV.key).getD j .empty = y.key := by rw [List.getD_eq_getElem?_getD, List.getElem?_map, ho]; rfl
      have hat : at5 P.pairs j = ((keyB y.key && (decide (j = 0) || lessB ((P.pairs.map PairV.key).getD (j - 1) .empty) y.key)) && decide (y.val.size ≤ 100)) := by rw [at5, riseAt, hy, show P.pairs.getD j ⟨.empty, .empty⟩ = y from by rw [List.getD_eq_getElem?_getD, ho]; rfl]
      have no : at5 P.pairs j = false → leafB P.pairs = false := fun h => leaf5_no (by rw [HL.out]; exact hjn) h
      have yes : at5 P.pairs j = true → Hid (∀ t, t < j + 1 → at5 P.pairs t = true) := fun h => hid_ (fun t ht => by
        rcases Nat.lt_or_ge t j with h' | h'
        · exact HX.out t h'
        · rw [show t = j by omega]; exact h)
      have NO := hid_ no
      have YES := hid_ yes
      have HAT := hid_ hat
      clear ho hy no yes hat
      go_wp2_with fail
      refine (key5_any y.key _).mono ?_
      rintro e _ ⟨rfl, rfl⟩
      obtain ⟨kb, hkb⟩ : ∃ kb, keyB y.key = kb := ⟨_, rfl⟩
      rw [hkb]
      have HKB := hid_ hkb
      clear hkb
      cases kb
      · have HF := hid_ (NO.out (by rw [HAT.out, HKB.out]; rfl))
        go_upto_region 7 with (fail)
        go_quiet (fail)
        obtain ⟨W2, hW2, hb2⟩ : ∃ W2, wr.drewN nq = W2 ∧ Bel wr W2 := ⟨_, rfl, (Bel.refl wr).drewN _⟩
        rw [hW2]
        have HR2 := hid_ (HR.out.trans hb2)
        clear hW2 hb2
        go_wp2
        go_ret
        exact ⟨by rw [HF.out]; rfl, HB.out.trans HR2.out⟩
      by_cases q3 : 100 < y.val.size
      · have HF := hid_ (NO.out (by rw [HAT.out, decide_eq_false (show ¬ y.val.size ≤ 100 by omega), Bool.and_false]))
        have q3d : decide ((100 : Int) < (y.val.size : Int)) = true := decide_eq_true (by omega)
        clear q3
        go_upto_region 7 with (fail)
        go_quiet (fail)
        obtain ⟨W2, hW2, hb2⟩ : ∃ W2, wr.drewN nq = W2 ∧ Bel wr W2 := ⟨_, rfl, (Bel.refl wr).drewN _⟩
        rw [hW2]
        have HR2 := hid_ (HR.out.trans hb2)
        clear hW2 hb2
        go_wp2
        go_ret
        exact ⟨by rw [HF.out]; rfl, HB.out.trans HR2.out⟩
      have q3d : decide ((100 : Int) < (y.val.size : Int)) = false := decide_eq_false (by omega)
      have HV : Hid (decide (y.val.size ≤ 100) = true) := hid_ (decide_eq_true (by omega))
      clear q3
      rcases Nat.eq_zero_or_pos j with q4 | q4
      · have HK0 := hid_ (YES.out (by rw [HAT.out, HKB.out, HV.out, decide_eq_true q4]; rfl))
        have q4d : decide (0 < j) = false := decide_eq_false (by omega)
        have q4e : decide ((0 : Int) < (j : Int)) = false := decide_eq_false (by omega)
        clear q4
        go_upto_region 7 with (fail)
        go_quiet (fail)
        obtain ⟨W2, hW2, hb2⟩ : ∃ W2, wr.drewN nq = W2 ∧ Bel wr W2 := ⟨_, rfl, (Bel.refl wr).drewN _⟩
        rw [hW2]
        have HR2 := hid_ (HR.out.trans hb2)
        clear hW2 hb2
        go_wp2
        go_roundw
        case rel => exact ⟨j + 1, by omega, by go_num, HR2.out, HK0⟩
        case measure => simp [Go.RowKit.intOf]; omega
      have q4d : decide (0 < j) = true := decide_eq_true q4
      have q4e : decide ((0 : Int) < (j : Int)) = true := decide_eq_true (by omega)
      have i2 : (0 : Int) ≤ (j : Int) - 1 := by omega
      have HJ0 : Hid (decide (j = 0) = false) := hid_ (decide_eq_false (by omega))
      obtain ⟨ad', z, e, ho', e0, e1⟩ := (HP.out.pairs.bel HR.out).pair (show j - 1 < n by omega)
      injection e with e
      subst e
      have HZ : Hid ((P.pairs.map PairV.key).getD (j - 1) .empty = z.key) := hid_ (by rw [List.getD_eq_getElem?_getD, List.getElem?_map, ho']; rfl)
      clear ho'
      cases q5 : Op.bytesLess y.key.toList z.key.toList with
      | true =>
        have HF := hid_ (NO.out (by rw [HAT.out, HKB.out, HJ0.out, HZ.out, show lessB z.key y.key = false from by rw [lessB, q5]; rfl]; rfl))
        go_upto_region 7 with (fail)
        go_quiet (fail)
        obtain ⟨W2, hW2, hb2⟩ : ∃ W2, wr.drewN nq = W2 ∧ Bel wr W2 := ⟨_, rfl, (Bel.refl wr).drewN _⟩
        rw [hW2]
        have HR2 := hid_ (HR.out.trans hb2)
        clear hW2 hb2
        go_wp2
        go_ret
        exact ⟨by rw [HF.out]; rfl, HB.out.trans HR2.out⟩
      | false =>
        cases q6 : (y.key.toList == z.key.toList) with
        | true =>
          have HF := hid_ (NO.out (by rw [HAT.out, HKB.out, HJ0.out, HZ.out, show lessB z.key y.key = false from by rw [lessB, q5, q6]; rfl]; rfl))
          go_upto_region 7 with (fail)
          go_quiet (fail)
          obtain ⟨W2, hW2, hb2⟩ : ∃ W2, wr.drewN nq = W2 ∧ Bel wr W2 := ⟨_, rfl, (Bel.refl wr).drewN _⟩
          rw [hW2]
          have HR2 := hid_ (HR.out.trans hb2)
          clear hW2 hb2
          go_wp2
          go_ret
          exact ⟨by rw [HF.out]; rfl, HB.out.trans HR2.out⟩
        | false =>
          have HK0 := hid_ (YES.out (by rw [HAT.out, HKB.out, HJ0.out, HZ.out, HV.out, show lessB z.key y.key = true from by rw [lessB, q5, q6]; rfl]; rfl))
          go_upto_region 7 with (fail)
          go_quiet (fail)
          obtain ⟨W2, hW2, hb2⟩ : ∃ W2, wr.drewN nq = W2 ∧ Bel wr W2 := ⟨_, rfl, (Bel.refl wr).drewN _⟩
          rw [hW2]
          have HR2 := hid_ (HR.out.trans hb2)
          clear hW2 hb2
          go_wp2
          go_roundw
          case rel => exact ⟨j + 1, by omega, by go_num, HR2.out, HK0⟩
          case measure => simp [Go.RowKit.intOf]; omega
    · obtain rfl : j = n := by omega
      have HF : Hid (leafB P.pairs = true) := hid_ (leaf5_yes (by rw [HL.out]; exact HN.out.1) (by rw [HL.out]; exact HN.out.2) (by rw [HL.out]; exact HX.out))
      clear hb
      go_wp2
      go_ret
      exact ⟨by rw [HF.out]; rfl, HB.out.trans HR.out⟩
def br5 (P : Pg) : Bool := fitB P && (riseB P.keys && P.kids.all placeB)
theorem all_no {f : Int → Bool} {l : List Int} {j : Nat} {x : Int} (h : l[j]? = some x) (hx : f x = false) : l.all f = false := by
  cases h' : l.all f with
  | false => rfl
  | true => rw [(List.all_eq_true.1 h') x (List.mem_of_getElem? h)] at hx; cases hx
theorem all_takeI {f : Int → Bool} {l : List Int} {j : Nat} {x : Int} (h : l[j]? = some x) (ht : (l.take j).all f = true) (hx : f x = true) : (l.take (j + 1)).all f = true := by
  rw [List.take_add_one, h, List.all_append, ht]
  simp [hx]
set_option maxRecDepth 10000 in
set_option maxHeartbeats 8000000 in
theorem branch5_any (P : Pg) (A B C D : Option Addr) (n c m d k e l f : Nat) (w : World) (hP : PgAt w P A n B m C k D l) (hk : k ≤ 1000000) (hm : m ≤ 1000000) :
    Calls Try.prog 39 #[pgV P (.slice A n c) (.slice B m d) (.slice C k e) (.slice D l f)] w fun e w' => e = .returned (.bool (br5 P)) ∧ Bel w w' := by
  have hn2 := hP.keys.1
  have hn3 := hP.kids.1
  have HL := hid_ (And.intro hn2 hn3)
  clear hn2 hn3
  have HP := hid_ hP
  unfold pgV pgC
  clear hP
  go_enter Try.func39, Try.ntmps39
  go_upto_region 1 with (fail)
  have bx := Bx.new w 28 (pgC P (.slice A n c) (.slice B m d) (.slice C k e) (.slice D l f))
  have hb := (Bel.refl w).alloc (.cells (pgC P (.slice A n c) (.slice B m d) (.slice C k e) (.slice D l f)).toArray 28)
  unfold pgC at bx hb
  generalize w.alloc _ = W0 at bx hb ⊢
  generalize w.heap.size = g at bx ⊢
  have HB := hid_ hb
  have HP := hid_ (HP.out.bel hb)
  have c2 := bx.cell 2 rfl
  have c3 := bx.cell 3 rfl
  clear bx hb
  have e1 : IntKind.i64.wrap ((m : Int) + 1) = (m : Int) + 1 := by rw [IntKind.wrap_i64]; omega
  have fit : br5 P = ((decide (1 ≤ m) && (decide (m ≤ 12) && decide (k = m + 1))) && (riseB P.keys && P.kids.all placeB)) := by rw [br5, fitB, HL.out.1, HL.out.2]
  have FIT := hid_ fit
  clear fit
  by_cases q1 : m < 1
  · have HF : Hid (br5 P = false) := hid_ (by rw [FIT.out, decide_eq_false (show ¬ 1 ≤ m by omega)]; rfl)
    go_wp2
    go_ret
    exact ⟨by rw [HF.out]; rfl, HB.out⟩
  by_cases q2 : 12 < m
  · have HF : Hid (br5 P = false) := hid_ (by rw [FIT.out, decide_eq_false (show ¬ m ≤ 12 by omega), Bool.false_and, Bool.and_false]; rfl)
    go_wp2
    go_ret
    exact ⟨by rw [HF.out]; rfl, HB.out⟩
  by_cases q3 : k = m + 1
  case neg =>
    have q3d : ((k : Int) != (m : Int) + 1) = true := by simp; omega
    have HF : Hid (br5 P = false) := hid_ (by rw [FIT.out, decide_eq_false q3, Bool.and_false, Bool.and_false]; rfl)
    clear q3
    go_wp2
    go_ret
    exact ⟨by rw [HF.out]; rfl, HB.out⟩
  have q3d : ((k : Int) != (m : Int) + 1) = false := by simp; omega
  have FIT2 : Hid (br5 P = (riseB P.keys && P.kids.all placeB)) := hid_ (by rw [FIT.out, decide_eq_true (show 1 ≤ m by omega), decide_eq_true (show m ≤ 12 by omega), decide_eq_true q3]; rfl)
  clear q3 FIT
  go_wp2_with fail
  clear q1 q2 q3d e1
  have C3 := hid_ c3
  clear c3
  have z2 := HP.out.keys.2.1
  have z3 := HP.out.kids.2.1
  go_loopw [3] (fun i wr => ∃ j : Nat, j ≤ m ∧ i = .int .i64 j ∧ Bel W0 wr ∧ Hid (∀ t, t < j → riseAt P.keys t = true)) (fun i _ => m - (Go.RowKit.intOf i).toNat)
  case atStart => exact ⟨0, Nat.zero_le _, rfl, Bel.refl _, hid_ (fun t ht => absurd ht (by omega))⟩
  case round =>
    obtain ⟨j, hj, rfl, hb, HX⟩ := hrel
    replace c2 := hb.cell_ c2
    have HR := hid_ hb
    by_cases hjn : j < m
    · obtain ⟨ad, y, rfl, ho, d0⟩ := (HP.out.keys.bel hb).str hjn
      clear hb
      have i0 : (0 : Int) ≤ (j : Int) := by omega
      have i1 : (j : Int) < (m : Int) := by omega
      have hy : P.keys.getD j .empty = y := by rw [List.getD_eq_getElem?_getD, ho]; rfl
      have hat : riseAt P.keys j = (keyB y && (decide (j = 0) || lessB (P.keys.getD (j - 1) .empty) y)) := by rw [riseAt, hy]
      have no : riseAt P.keys j = false → br5 P = false := fun h => by rw [FIT2.out, show riseB P.keys = false from all_range_no (by rw [HL.out.1]; exact hjn) h]; rfl
      have yes : riseAt P.keys j = true → Hid (∀ t, t < j + 1 → riseAt P.keys t = true) := fun h => hid_ (fun t ht => by
        rcases Nat.lt_or_ge t j with h' | h'
        · exact HX.out t h'
        · rw [show t = j by omega]; exact h)
      have NO := hid_ no
      have YES := hid_ yes
      have HAT := hid_ hat
      clear ho hy no yes hat
      go_wp2_with fail
      refine (key5_any y _).mono ?_
      rintro e _ ⟨rfl, rfl⟩
      obtain ⟨kb, hkb⟩ : ∃ kb, keyB y = kb := ⟨_, rfl⟩
      rw [hkb]
      have HKB := hid_ hkb
      clear hkb
      cases kb
      · have HF := hid_ (NO.out (by rw [HAT.out, HKB.out]; rfl))
        go_upto_region 7 with (fail)
        go_quiet (fail)
        obtain ⟨W2, hW2, hb2⟩ : ∃ W2, wr.drewN nq = W2 ∧ Bel wr W2 := ⟨_, rfl, (Bel.refl wr).drewN _⟩
        rw [hW2]
        have HR2 := hid_ (HR.out.trans hb2)
        clear hW2 hb2
        go_wp2
        go_ret
        exact ⟨by rw [HF.out]; rfl, HB.out.trans HR2.out⟩
      rcases Nat.eq_zero_or_pos j with q4 | q4
      · have HK0 := hid_ (YES.out (by rw [HAT.out, HKB.out, decide_eq_true q4]; rfl))
        have q4d : decide (0 < j) = false := decide_eq_false (by omega)
        have q4e : decide ((0 : Int) < (j : Int)) = false := decide_eq_false (by omega)
        clear q4
        go_upto_region 7 with (fail)
        go_quiet (fail)
        obtain ⟨W2, hW2, hb2⟩ : ∃ W2, wr.drewN nq = W2 ∧ Bel wr W2 := ⟨_, rfl, (Bel.refl wr).drewN _⟩
        rw [hW2]
        have HR2 := hid_ (HR.out.trans hb2)
        clear hW2 hb2
        go_wp2
        go_roundw
        case rel => exact ⟨j + 1, by omega, by go_num, HR2.out, HK0⟩
        case measure => simp [Go.RowKit.intOf]; omega
      have q4d : decide (0 < j) = true := decide_eq_true q4
      have q4e : decide ((0 : Int) < (j : Int)) = true := decide_eq_true (by omega)
      have i2 : (0 : Int) ≤ (j : Int) - 1 := by omega
      have HJ0 : Hid (decide (j = 0) = false) := hid_ (decide_eq_false (by omega))
      obtain ⟨ad', z, e, ho', e0⟩ := (HP.out.keys.bel HR.out).str (show j - 1 < m by omega)
      injection e with e
      subst e
      have HZ : Hid (P.keys.getD (j - 1) .empty = z) := hid_ (by rw [List.getD_eq_getElem?_getD, ho']; rfl)
      clear ho'
      cases q5 : Op.bytesLess y.toList z.toList with
      | true =>
        have HF := hid_ (NO.out (by rw [HAT.out, HKB.out, HJ0.out, HZ.out, show lessB z y = false from by rw [lessB, q5]; rfl]; rfl))
        go_upto_region 7 with (fail)
        go_quiet (fail)
        obtain ⟨W2, hW2, hb2⟩ : ∃ W2, wr.drewN nq = W2 ∧ Bel wr W2 := ⟨_, rfl, (Bel.refl wr).drewN _⟩
        rw [hW2]
        have HR2 := hid_ (HR.out.trans hb2)
        clear hW2 hb2
        go_wp2
        go_ret
        exact ⟨by rw [HF.out]; rfl, HB.out.trans HR2.out⟩
      | false =>
        cases q6 : (y.toList == z.toList) with
        | true =>
          have HF := hid_ (NO.out (by rw [HAT.out, HKB.out, HJ0.out, HZ.out, show lessB z y = false from by rw [lessB, q5, q6]; rfl]; rfl))
          go_upto_region 7 with (fail)
          go_quiet (fail)
          obtain ⟨W2, hW2, hb2⟩ : ∃ W2, wr.drewN nq = W2 ∧ Bel wr W2 := ⟨_, rfl, (Bel.refl wr).drewN _⟩
          rw [hW2]
          have HR2 := hid_ (HR.out.trans hb2)
          clear hW2 hb2
          go_wp2
          go_ret
          exact ⟨by rw [HF.out]; rfl, HB.out.trans HR2.out⟩
        | false =>
          have HK0 := hid_ (YES.out (by rw [HAT.out, HKB.out, HJ0.out, HZ.out, show lessB z y = true from by rw [lessB, q5, q6]; rfl]; rfl))
          go_upto_region 7 with (fail)
          go_quiet (fail)
          obtain ⟨W2, hW2, hb2⟩ : ∃ W2, wr.drewN nq = W2 ∧ Bel wr W2 := ⟨_, rfl, (Bel.refl wr).drewN _⟩
          rw [hW2]
          have HR2 := hid_ (HR.out.trans hb2)
          clear hW2 hb2
          go_wp2
          go_roundw
          case rel => exact ⟨j + 1, by omega, by go_num, HR2.out, HK0⟩
          case measure => simp [Go.RowKit.intOf]; omega
    · obtain rfl : j = m := by omega
      have HRI : Hid (riseB P.keys = true) := hid_ (by rw [riseB, HL.out.1]; exact all_range HX.out)
      clear hb HX
      have c3 := HR.out.cell_ C3.out
      go_wp2_with fail
      clear c2
      go_loopw [5] (fun i wq => ∃ q : Nat, q ≤ k ∧ i = .int .i64 q ∧ wr = wq ∧ Hid ((P.kids.take q).all placeB = true)) (fun i _ => k - (Go.RowKit.intOf i).toNat)
      case atStart => exact ⟨0, Nat.zero_le _, rfl, rfl, hid_ rfl⟩
      case round =>
        obtain ⟨q, hq, rfl, hww, HX⟩ := hrel
        subst hww
        by_cases hqn : q < k
        · obtain ⟨ad, y, rfl, ho, d0⟩ := (HP.out.kids.bel HR.out).int hqn
          have i0 : (0 : Int) ≤ (q : Int) := by omega
          have i1 : (q : Int) < (k : Int) := by omega
          have HO := hid_ ho
          clear ho
          go_wp2_with fail
          refine (place5_any y _).mono ?_
          rintro e _ ⟨rfl, rfl⟩
          obtain ⟨kb, hkb⟩ : ∃ kb, placeB y = kb := ⟨_, rfl⟩
          rw [hkb]
          have HKB := hid_ hkb
          clear hkb
          cases kb
          · have HF : Hid (br5 P = false) := hid_ (by rw [FIT2.out, all_no HO.out HKB.out, Bool.and_false])
            go_wp2
            go_ret
            exact ⟨by rw [HF.out]; rfl, HB.out.trans HR.out⟩
          · have HX2 := hid_ (all_takeI HO.out HX.out HKB.out)
            go_wp2
            go_roundw
            case rel => exact ⟨q + 1, by omega, by go_num, trivial, HX2⟩
            case measure => simp [Go.RowKit.intOf]; omega
        · obtain rfl : q = k := by omega
          have HF : Hid (br5 P = true) := hid_ (by
            have h1 := HX.out
            rw [List.take_of_length_le (by rw [HL.out.2]; omega)] at h1
            rw [FIT2.out, HRI.out, h1]
            rfl)
          go_wp2
          go_ret
          exact ⟨by rw [HF.out]; rfl, HB.out.trans HR.out⟩
def li5At (l : List Int) (j : Nat) : Bool := placeB (l.getD j 0) && (decide (j = 0) || !decide (l.getD j 0 ≤ l.getD (j - 1) 0))
def li5 (P : Pg) : Bool := (sortB P.pages && neqB P.pages) && (decide (P.pages.length ≤ 200) && (P.pages.all placeB && nextB P.next))
theorem li5_yes {l : List Int} (h : ∀ j, j < l.length → li5At l j = true) : sortB l = true ∧ neqB l = true ∧ l.all placeB = true := by
  refine ⟨all_range fun j hj => ?_, all_range fun j hj => ?_, List.all_eq_true.2 fun x hx => ?_⟩
  · have := h j hj
    simp only [li5At, Bool.and_eq_true, Bool.or_eq_true, decide_eq_true_eq, Bool.not_eq_true', decide_eq_false_iff_not] at this
    simp only [sortAt, Bool.or_eq_true, decide_eq_true_eq, Bool.not_eq_true', decide_eq_false_iff_not]
    omega
  · have := h j hj
    simp only [li5At, Bool.and_eq_true, Bool.or_eq_true, decide_eq_true_eq, Bool.not_eq_true', decide_eq_false_iff_not] at this
    simp only [neqAt, Bool.or_eq_true, decide_eq_true_eq, Bool.not_eq_true', decide_eq_false_iff_not]
    omega
  · obtain ⟨j, hj, e⟩ := List.mem_iff_getElem.1 hx
    have := h j hj
    rw [li5At, Bool.and_eq_true, List.getD_eq_getElem?_getD, List.getElem?_eq_getElem hj, Option.getD_some, e] at this
    exact this.1
theorem li5_no {P : Pg} {j : Nat} (hj : j < P.pages.length) (h : li5At P.pages j = false) : li5 P = false := by
  cases h' : li5 P with
  | false => rfl
  | true =>
    rw [li5] at h'
    simp only [Bool.and_eq_true] at h'
    obtain ⟨⟨h1, h2⟩, _, h3, _⟩ := h'
    have a1 := (List.all_eq_true.1 h1) j (List.mem_range.2 hj)
    have a2 := (List.all_eq_true.1 h2) j (List.mem_range.2 hj)
    have a3 := (List.all_eq_true.1 h3) (P.pages[j]) (List.getElem_mem hj)
    have e : P.pages.getD j 0 = P.pages[j] := by rw [List.getD_eq_getElem?_getD, List.getElem?_eq_getElem hj]; rfl
    rw [← e] at a3
    simp only [sortAt, neqAt, Bool.or_eq_true, decide_eq_true_eq, Bool.not_eq_true', decide_eq_false_iff_not] at a1 a2
    have : li5At P.pages j = true := by
      simp only [li5At, Bool.and_eq_true, Bool.or_eq_true, decide_eq_true_eq, Bool.not_eq_true', decide_eq_false_iff_not]
      exact ⟨a3, by omega⟩
    rw [this] at h
    cases h
theorem beqI (a b : Int) : (a == b) = decide (a = b) := by by_cases h : a = b <;> simp [h]
set_option maxRecDepth 10000 in
set_option maxHeartbeats 8000000 in
theorem list5_any (P : Pg) (A B C D : Option Addr) (n c m d k e l f : Nat) (w : World) (hP : PgAt w P A n B m C k D l) :
    Calls Try.prog 40 #[pgV P (.slice A n c) (.slice B m d) (.slice C k e) (.slice D l f)] w fun e w' => e = .returned (.bool (li5 P)) ∧ Bel w w' := by
  have hn4 := hP.pages.1
  have z4 := hP.pages.2.1
  have HL := hid_ hn4
  clear hn4
  have HP := hid_ hP
  unfold pgV pgC
  clear hP
  go_enter Try.func40, Try.ntmps40
  go_upto_region 1 with (fail)
  have bx := Bx.new w 28 (pgC P (.slice A n c) (.slice B m d) (.slice C k e) (.slice D l f))
  have hb := (Bel.refl w).alloc (.cells (pgC P (.slice A n c) (.slice B m d) (.slice C k e) (.slice D l f)).toArray 28)
  unfold pgC at bx hb
  generalize w.alloc _ = W0 at bx hb ⊢
  generalize w.heap.size = g at bx ⊢
  have HB := hid_ hb
  have HP := hid_ (HP.out.bel hb)
  have c4 := bx.cell 4 rfl
  have c5 := bx.cell 5 rfl
  clear bx hb
  have FIT : Hid (li5 P = ((sortB P.pages && neqB P.pages) && (decide (l ≤ 200) && (P.pages.all placeB && nextB P.next)))) := hid_ (by rw [li5, HL.out])
  by_cases q1 : 200 < l
  · have HF : Hid (li5 P = false) := hid_ (by rw [FIT.out, decide_eq_false (show ¬ l ≤ 200 by omega), Bool.false_and, Bool.and_false])
    go_wp2
    go_ret
    exact ⟨by rw [HF.out]; rfl, HB.out⟩
  have q1d : decide ((200 : Int) < (l : Int)) = false := decide_eq_false (by omega)
  have HQ1 : Hid (l ≤ 200) := hid_ (by omega)
  obtain ⟨b, hb⟩ : ∃ b, (P.next != 0) = b := ⟨_, rfl⟩
  obtain ⟨pb, hpb⟩ : ∃ pb, placeB P.next = pb := ⟨_, rfl⟩
  have HNX0 : Hid (nextB P.next = (!b || pb)) := hid_ (by rw [nextB, hpb, ← hb, bne, beqI, Bool.not_not])
  have HPB := hid_ hpb
  clear hpb
  cases b
  · have HNX : Hid (nextB P.next = true) := hid_ (by rw [HNX0.out]; rfl)
    have FIT2 : Hid (li5 P = ((sortB P.pages && neqB P.pages) && P.pages.all placeB)) := hid_ (by rw [FIT.out, HNX.out, decide_eq_true HQ1.out]; simp)
    go_wp2_with fail
    go_loopw [3] (fun i wr => ∃ j : Nat, j ≤ l ∧ i = .int .i64 j ∧ Bel W0 wr ∧ Hid (∀ t, t < j → li5At P.pages t = true)) (fun i _ => l - (Go.RowKit.intOf i).toNat)
    case atStart => exact ⟨0, Nat.zero_le _, rfl, Bel.refl _, hid_ (fun t ht => absurd ht (by omega))⟩
    case round =>
      obtain ⟨j, hj, rfl, hb, HX⟩ := hrel
      replace c4 := hb.cell_ c4
      have HR := hid_ hb
      by_cases hjn : j < l
      · obtain ⟨ad, y, rfl, ho, d0⟩ := (HP.out.pages.bel hb).int hjn
        clear hb
        have i0 : (0 : Int) ≤ (j : Int) := by omega
        have i1 : (j : Int) < (l : Int) := by omega
        have hy : P.pages.getD j 0 = y := by rw [List.getD_eq_getElem?_getD, ho]; rfl
        have hat : li5At P.pages j = (placeB y && (decide (j = 0) || !decide (y ≤ P.pages.getD (j - 1) 0))) := by rw [li5At, hy]
        have no : li5At P.pages j = false → li5 P = false := fun h => li5_no (by rw [HL.out]; exact hjn) h
        have yes : li5At P.pages j = true → Hid (∀ t, t < j + 1 → li5At P.pages t = true) := fun h => hid_ (fun t ht => by
          rcases Nat.lt_or_ge t j with h' | h'
          · exact HX.out t h'
          · rw [show t = j by omega]; exact h)
        have NO := hid_ no
        have YES := hid_ yes
        have HAT := hid_ hat
        clear ho hy no yes hat
        go_wp2_with fail
        refine (place5_any y _).mono ?_
        rintro e _ ⟨rfl, rfl⟩
        obtain ⟨kb, hkb⟩ : ∃ kb, placeB y = kb := ⟨_, rfl⟩
        rw [hkb]
        have HKB := hid_ hkb
        clear hkb
        cases kb
        · have HF := hid_ (NO.out (by rw [HAT.out, HKB.out]; rfl))
          go_upto_region 7 with (fail)
          go_quiet (fail)
          obtain ⟨W2, hW2, hb2⟩ : ∃ W2, wr.drewN nq = W2 ∧ Bel wr W2 := ⟨_, rfl, (Bel.refl wr).drewN _⟩
          rw [hW2]
          have HR2 := hid_ (HR.out.trans hb2)
          clear hW2 hb2
          go_wp2
          go_ret
          exact ⟨by rw [HF.out]; rfl, HB.out.trans HR2.out⟩
        rcases Nat.eq_zero_or_pos j with q4 | q4
        · have HK0 := hid_ (YES.out (by rw [HAT.out, HKB.out, decide_eq_true q4]; rfl))
          have q4d : decide (0 < j) = false := decide_eq_false (by omega)
          have q4e : decide ((0 : Int) < (j : Int)) = false := decide_eq_false (by omega)
          clear q4
          go_upto_region 7 with (fail)
          go_quiet (fail)
          obtain ⟨W2, hW2, hb2⟩ : ∃ W2, wr.drewN nq = W2 ∧ Bel wr W2 := ⟨_, rfl, (Bel.refl wr).drewN _⟩
          rw [hW2]
          have HR2 := hid_ (HR.out.trans hb2)
          clear hW2 hb2
          go_wp2
          go_roundw
          case rel => exact ⟨j + 1, by omega, by go_num, HR2.out, HK0⟩
          case measure => simp [Go.RowKit.intOf]; omega
        have q4d : decide (0 < j) = true := decide_eq_true q4
        have q4e : decide ((0 : Int) < (j : Int)) = true := decide_eq_true (by omega)
        have i2 : (0 : Int) ≤ (j : Int) - 1 := by omega
        have HJ0 : Hid (decide (j = 0) = false) := hid_ (decide_eq_false (by omega))
        obtain ⟨ad', z, e, ho', e0⟩ := (HP.out.pages.bel HR.out).int (show j - 1 < l by omega)
        injection e with e
        subst e
        have HZ : Hid (P.pages.getD (j - 1) 0 = z) := hid_ (by rw [List.getD_eq_getElem?_getD, ho']; rfl)
        clear ho'
        by_cases q5 : y ≤ z
        · have HF := hid_ (NO.out (by rw [HAT.out, HKB.out, HJ0.out, HZ.out, decide_eq_true q5]; rfl))
          have q5d : decide (y ≤ z) = true := decide_eq_true q5
          clear q5
          go_upto_region 7 with (fail)
          go_quiet (fail)
          obtain ⟨W2, hW2, hb2⟩ : ∃ W2, wr.drewN nq = W2 ∧ Bel wr W2 := ⟨_, rfl, (Bel.refl wr).drewN _⟩
          rw [hW2]
          have HR2 := hid_ (HR.out.trans hb2)
          clear hW2 hb2
          go_wp2
          go_ret
          exact ⟨by rw [HF.out]; rfl, HB.out.trans HR2.out⟩
        · have HK0 := hid_ (YES.out (by rw [HAT.out, HKB.out, HJ0.out, HZ.out, decide_eq_false q5]; rfl))
          have q5d : decide (y ≤ z) = false := decide_eq_false q5
          clear q5
          go_upto_region 7 with (fail)
          go_quiet (fail)
          obtain ⟨W2, hW2, hb2⟩ : ∃ W2, wr.drewN nq = W2 ∧ Bel wr W2 := ⟨_, rfl, (Bel.refl wr).drewN _⟩
          rw [hW2]
          have HR2 := hid_ (HR.out.trans hb2)
          clear hW2 hb2
          go_wp2
          go_roundw
          case rel => exact ⟨j + 1, by omega, by go_num, HR2.out, HK0⟩
          case measure => simp [Go.RowKit.intOf]; omega
      · obtain rfl : j = l := by omega
        have HF : Hid (li5 P = true) := hid_ (by
          obtain ⟨a1, a2, a3⟩ := li5_yes (l := P.pages) (by rw [HL.out]; exact HX.out)
          rw [FIT2.out, a1, a2, a3]
          rfl)
        clear hb
        go_wp2
        go_ret
        exact ⟨by rw [HF.out]; rfl, HB.out.trans HR.out⟩
  · cases pb
    · have HF : Hid (li5 P = false) := hid_ (by rw [FIT.out, HNX0.out]; simp)
      go_wp2_with fail
      refine (place5_any P.next _).mono ?_
      rintro e _ ⟨rfl, rfl⟩
      rw [HPB.out]
      go_wp2
      go_ret
      exact ⟨by rw [HF.out]; rfl, HB.out⟩
    · have HNX : Hid (nextB P.next = true) := hid_ (by rw [HNX0.out]; rfl)
      go_wp2_with fail
      refine (place5_any P.next _).mono ?_
      rintro e _ ⟨rfl, rfl⟩
      rw [HPB.out]
      have FIT2 : Hid (li5 P = ((sortB P.pages && neqB P.pages) && P.pages.all placeB)) := hid_ (by rw [FIT.out, HNX.out, decide_eq_true HQ1.out]; simp)
      go_wp2_with fail
      go_loopw [3] (fun i wr => ∃ j : Nat, j ≤ l ∧ i = .int .i64 j ∧ Bel W0 wr ∧ Hid (∀ t, t < j → li5At P.pages t = true)) (fun i _ => l - (Go.RowKit.intOf i).toNat)
      case atStart => exact ⟨0, Nat.zero_le _, rfl, Bel.refl _, hid_ (fun t ht => absurd ht (by omega))⟩
      case round =>
        obtain ⟨j, hj, rfl, hb, HX⟩ := hrel
        replace c4 := hb.cell_ c4
        have HR := hid_ hb
        by_cases hjn : j < l
        · obtain ⟨ad, y, rfl, ho, d0⟩ := (HP.out.pages.bel hb).int hjn
          clear hb
          have i0 : (0 : Int) ≤ (j : Int) := by omega
          have i1 : (j : Int) < (l : Int) := by omega
          have hy : P.pages.getD j 0 = y := by rw [List.getD_eq_getElem?_getD, ho]; rfl
          have hat : li5At P.pages j = (placeB y && (decide (j = 0) || !decide (y ≤ P.pages.getD (j - 1) 0))) := by rw [li5At, hy]
          have no : li5At P.pages j = false → li5 P = false := fun h => li5_no (by rw [HL.out]; exact hjn) h
          have yes : li5At P.pages j = true → Hid (∀ t, t < j + 1 → li5At P.pages t = true) := fun h => hid_ (fun t ht => by
            rcases Nat.lt_or_ge t j with h' | h'
            · exact HX.out t h'
            · rw [show t = j by omega]; exact h)
          have NO := hid_ no
          have YES := hid_ yes
          have HAT := hid_ hat
          clear ho hy no yes hat
          go_wp2_with fail
          refine (place5_any y _).mono ?_
          rintro e _ ⟨rfl, rfl⟩
          obtain ⟨kb, hkb⟩ : ∃ kb, placeB y = kb := ⟨_, rfl⟩
          rw [hkb]
          have HKB := hid_ hkb
          clear hkb
          cases kb
          · have HF := hid_ (NO.out (by rw [HAT.out, HKB.out]; rfl))
            go_upto_region 7 with (fail)
            go_quiet (fail)
            obtain ⟨W2, hW2, hb2⟩ : ∃ W2, wr.drewN nq = W2 ∧ Bel wr W2 := ⟨_, rfl, (Bel.refl wr).drewN _⟩
            rw [hW2]
            have HR2 := hid_ (HR.out.trans hb2)
            clear hW2 hb2
            go_wp2
            go_ret
            exact ⟨by rw [HF.out]; rfl, HB.out.trans HR2.out⟩
          rcases Nat.eq_zero_or_pos j with q4 | q4
          · have HK0 := hid_ (YES.out (by rw [HAT.out, HKB.out, decide_eq_true q4]; rfl))
            have q4d : decide (0 < j) = false := decide_eq_false (by omega)
            have q4e : decide ((0 : Int) < (j : Int)) = false := decide_eq_false (by omega)
            clear q4
            go_upto_region 7 with (fail)
            go_quiet (fail)
            obtain ⟨W2, hW2, hb2⟩ : ∃ W2, wr.drewN nq = W2 ∧ Bel wr W2 := ⟨_, rfl, (Bel.refl wr).drewN _⟩
            rw [hW2]
            have HR2 := hid_ (HR.out.trans hb2)
            clear hW2 hb2
            go_wp2
            go_roundw
            case rel => exact ⟨j + 1, by omega, by go_num, HR2.out, HK0⟩
            case measure => simp [Go.RowKit.intOf]; omega
          have q4d : decide (0 < j) = true := decide_eq_true q4
          have q4e : decide ((0 : Int) < (j : Int)) = true := decide_eq_true (by omega)
          have i2 : (0 : Int) ≤ (j : Int) - 1 := by omega
          have HJ0 : Hid (decide (j = 0) = false) := hid_ (decide_eq_false (by omega))
          obtain ⟨ad', z, e, ho', e0⟩ := (HP.out.pages.bel HR.out).int (show j - 1 < l by omega)
          injection e with e
          subst e
          have HZ : Hid (P.pages.getD (j - 1) 0 = z) := hid_ (by rw [List.getD_eq_getElem?_getD, ho']; rfl)
          clear ho'
          by_cases q5 : y ≤ z
          · have HF := hid_ (NO.out (by rw [HAT.out, HKB.out, HJ0.out, HZ.out, decide_eq_true q5]; rfl))
            have q5d : decide (y ≤ z) = true := decide_eq_true q5
            clear q5
            go_upto_region 7 with (fail)
            go_quiet (fail)
            obtain ⟨W2, hW2, hb2⟩ : ∃ W2, wr.drewN nq = W2 ∧ Bel wr W2 := ⟨_, rfl, (Bel.refl wr).drewN _⟩
            rw [hW2]
            have HR2 := hid_ (HR.out.trans hb2)
            clear hW2 hb2
            go_wp2
            go_ret
            exact ⟨by rw [HF.out]; rfl, HB.out.trans HR2.out⟩
          · have HK0 := hid_ (YES.out (by rw [HAT.out, HKB.out, HJ0.out, HZ.out, decide_eq_false q5]; rfl))
            have q5d : decide (y ≤ z) = false := decide_eq_false q5
            clear q5
            go_upto_region 7 with (fail)
            go_quiet (fail)
            obtain ⟨W2, hW2, hb2⟩ : ∃ W2, wr.drewN nq = W2 ∧ Bel wr W2 := ⟨_, rfl, (Bel.refl wr).drewN _⟩
            rw [hW2]
            have HR2 := hid_ (HR.out.trans hb2)
            clear hW2 hb2
            go_wp2
            go_roundw
            case rel => exact ⟨j + 1, by omega, by go_num, HR2.out, HK0⟩
            case measure => simp [Go.RowKit.intOf]; omega
        · obtain rfl : j = l := by omega
          have HF : Hid (li5 P = true) := hid_ (by
            obtain ⟨a1, a2, a3⟩ := li5_yes (l := P.pages) (by rw [HL.out]; exact HX.out)
            rw [FIT2.out, a1, a2, a3]
            rfl)
          clear hb
          go_wp2
          go_ret
          exact ⟨by rw [HF.out]; rfl, HB.out.trans HR.out⟩
set_option maxRecDepth 10000 in
set_option maxHeartbeats 8000000 in
theorem super5_any (P : Pg) (A B C D : Option Addr) (n c m d k e l f : Nat) (w : World) (hP : PgAt w P A n B m C k D l) :
    Calls Try.prog 41 #[pgV P (.slice A n c) (.slice B m d) (.slice C k e) (.slice D l f)] w fun e w' => e = .returned (.bool (superB P)) ∧ Bel w w' := by
  have HP := hid_ hP
  unfold pgV pgC
  clear hP
  go_enter Try.func41, Try.ntmps41
  go_upto_region 1 with (fail)
  have bx := Bx.new w 28 (pgC P (.slice A n c) (.slice B m d) (.slice C k e) (.slice D l f))
  have hb := (Bel.refl w).alloc (.cells (pgC P (.slice A n c) (.slice B m d) (.slice C k e) (.slice D l f)).toArray 28)
  unfold pgC at bx hb
  generalize w.alloc _ = W0 at bx hb ⊢
  generalize w.heap.size = g at bx ⊢
  have HB := hid_ hb
  have HP := hid_ (HP.out.bel hb)
  have c5 := bx.cell 5 rfl
  have c7 := bx.cell 7 rfl
  have c8 := bx.cell 8 rfl
  have c9 := bx.cell 9 rfl
  have c10 := bx.cell 10 rfl
  clear bx hb
  obtain ⟨pb, hpb⟩ : ∃ pb, placeB P.root = pb := ⟨_, rfl⟩
  obtain ⟨a0, ha0⟩ : ∃ b, decide (P.root = 0) = b := ⟨_, rfl⟩
  obtain ⟨a1, ha1⟩ : ∃ b, decide (P.depth = 0) = b := ⟨_, rfl⟩
  obtain ⟨a2, ha2⟩ : ∃ b, decide (P.count = 0) = b := ⟨_, rfl⟩
  obtain ⟨a3, ha3⟩ : ∃ b, decide (1 ≤ P.depth) = b := ⟨_, rfl⟩
  obtain ⟨a4, ha4⟩ : ∃ b, decide (P.depth ≤ 20) = b := ⟨_, rfl⟩
  obtain ⟨a5, ha5⟩ : ∃ b, decide (1 ≤ P.count) = b := ⟨_, rfl⟩
  obtain ⟨a6, ha6⟩ : ∃ b, decide (P.count ≤ 2147483647) = b := ⟨_, rfl⟩
  have HRS : Hid ((noneB P || someB P) = ((a0 && (a1 && a2)) || (pb && (a3 && (a4 && (a5 && a6)))))) := hid_ (by rw [noneB, someB, hpb, ha0, ha1, ha2, ha3, ha4, ha5, ha6])
  have HPB := hid_ hpb
  have HP0 : Hid (a0 = true → pb = false) := hid_ (fun h => by rw [← ha0, decide_eq_true_eq] at h; rw [← hpb, h]; rfl)
  rw [← beqI] at ha0 ha1 ha2
  clear hpb
  go_cut [3] (fun h wx => h = .bool (noneB P || someB P) ∧ wx = W0)
  case first =>
    cases a0
    · clear HP0 ha1 ha2
      cases pb
      · go_wp2_with (go_at_call 25; refine (place5_any P.root _).mono ?_; rintro e _ ⟨rfl, rfl⟩; rw [HPB.out])
        go_meet
        exact ⟨by rw [HRS.out]; rfl, rfl⟩
      · cases a3
        · go_wp2_with (go_at_call 25; refine (place5_any P.root _).mono ?_; rintro e _ ⟨rfl, rfl⟩; rw [HPB.out])
          go_meet
          exact ⟨by rw [HRS.out]; rfl, rfl⟩
        · cases a4
          · go_wp2_with (go_at_call 25; refine (place5_any P.root _).mono ?_; rintro e _ ⟨rfl, rfl⟩; rw [HPB.out])
            go_meet
            exact ⟨by rw [HRS.out]; rfl, rfl⟩
          · cases a5
            · go_wp2_with (go_at_call 25; refine (place5_any P.root _).mono ?_; rintro e _ ⟨rfl, rfl⟩; rw [HPB.out])
              go_meet
              exact ⟨by rw [HRS.out]; rfl, rfl⟩
            · cases a6
              · go_wp2_with (go_at_call 25; refine (place5_any P.root _).mono ?_; rintro e _ ⟨rfl, rfl⟩; rw [HPB.out])
                go_meet
                exact ⟨by rw [HRS.out]; rfl, rfl⟩
              · go_wp2_with (go_at_call 25; refine (place5_any P.root _).mono ?_; rintro e _ ⟨rfl, rfl⟩; rw [HPB.out])
                go_meet
                exact ⟨by rw [HRS.out]; rfl, rfl⟩
    · obtain rfl := HP0.out rfl
      clear HP0
      cases a1
      · clear ha2
        go_wp2_with (go_at_call 25; refine (place5_any P.root _).mono ?_; rintro e _ ⟨rfl, rfl⟩; rw [HPB.out])
        go_meet
        exact ⟨by rw [HRS.out]; rfl, rfl⟩
      · cases a2
        · go_wp2_with (go_at_call 25; refine (place5_any P.root _).mono ?_; rintro e _ ⟨rfl, rfl⟩; rw [HPB.out])
          go_meet
          exact ⟨by rw [HRS.out]; rfl, rfl⟩
        · go_wp2_with (go_at_call 25; refine (place5_any P.root _).mono ?_; rintro e _ ⟨rfl, rfl⟩; rw [HPB.out])
          go_meet
          exact ⟨by rw [HRS.out]; rfl, rfl⟩
  case rest =>
    obtain ⟨rfl, rfl⟩ := hcut
    obtain ⟨W0, hW0⟩ : ∃ W0, wc = W0 := ⟨_, rfl⟩
    rw [hW0] at HB HP c5 c7 c8 c9 c10 ⊢
    clear hW0 HRS HPB HP0 c7 c8 c9 ha0 ha1 ha2 ha3 ha4 ha5 ha6
    obtain ⟨rs, hrs⟩ : ∃ rs, (noneB P || someB P) = rs := ⟨_, rfl⟩
    rw [hrs]
    have HRS := hid_ hrs
    clear hrs
    obtain ⟨nb, hnb⟩ : ∃ b, decide (P.next = 0) = b := ⟨_, rfl⟩
    obtain ⟨np, hnp⟩ : ∃ b, placeB P.next = b := ⟨_, rfl⟩
    have HNX : Hid (nextB P.next = (nb || np)) := hid_ (by rw [nextB, hnb, hnp])
    have HNP := hid_ hnp
    clear hnp
    rw [← beqI] at hnb
    go_upto_region 2 with (fail)
    go_cut [4] (fun h wx => h = .bool (nextB P.next) ∧ wx = W0)
    case first =>
      cases nb
      · go_wp2_with (go_at_call 25; refine (place5_any P.next _).mono ?_; rintro e _ ⟨rfl, rfl⟩; rw [HNP.out])
        go_meet
        exact ⟨by rw [HNX.out]; rfl, rfl⟩
      · go_wp2_with fail
        go_meet
        exact ⟨by rw [HNX.out]; rfl, rfl⟩
    case rest =>
      obtain ⟨rfl, rfl⟩ := hcut
      obtain ⟨W0, hW0⟩ : ∃ W0, wc = W0 := ⟨_, rfl⟩
      rw [hW0] at HB HP c10 ⊢
      clear hW0 HNX HNP hnb c5
      obtain ⟨nx, hnx⟩ : ∃ nx, nextB P.next = nx := ⟨_, rfl⟩
      rw [hnx]
      obtain ⟨h1, hh1⟩ : ∃ b, decide (2 ≤ P.high) = b := ⟨_, rfl⟩
      obtain ⟨h2, hh2⟩ : ∃ b, decide (P.high ≤ 4096) = b := ⟨_, rfl⟩
      have HF : Hid (superB P = (rs && (h1 && (h2 && nx)))) := hid_ (by rw [superB, HRS.out, hh1, hh2, hnx])
      clear hnx
      cases rs
      · go_wp2
        go_ret
        exact ⟨by rw [HF.out]; first | rfl | simp, HB.out⟩
      cases nx
      · go_wp2
        go_ret
        exact ⟨by rw [HF.out]; first | rfl | simp, HB.out⟩
      cases h1
      · go_wp2
        go_ret
        exact ⟨by rw [HF.out]; first | rfl | simp, HB.out⟩
      cases h2
      · go_wp2
        go_ret
        exact ⟨by rw [HF.out]; first | rfl | simp, HB.out⟩
      go_wp2
      go_ret
      exact ⟨by rw [HF.out]; first | rfl | simp, HB.out⟩
end Go.Proofs.Ytcfabnkkkpcelaa
