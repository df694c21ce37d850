/- awake of the page statements: the walk. -/
import Derived.Test.YtcfabnkkkpcelaaPgQ
import Derived.Test.YtcfabnkkkpcelaaPgD1
import Derived.Laws.StructEq
import Derived.Deep.DeepCutAuto
import Derived.Deep.QuietTactic
import Derived.BigQuiet
import Derived.Test.YtcfabnkkkpcelaaBox
import Derived.Test.YtcfabnkkkpcelaaPgTy
import Derived.Test.YtcfabnkkkpcelaaPgD6
set_option linter.unusedSimpArgs false
set_option linter.unusedVariables false
namespace Go.Proofs.Ytcfabnkkkpcelaa
open Go.RowKit
theorem gd_l {l l' : List Int} {n : Nat} (h : n < l.length) : (l ++ l').getD n 0 = l.getD n 0 := by
  rw [List.getD_eq_getElem?_getD, List.getD_eq_getElem?_getD, List.getElem?_append_left h]
theorem gd_r (l l' : List Int) (n : Nat) : (l ++ l').getD (l.length + n) 0 = l'.getD n 0 := by
  rw [List.getD_eq_getElem?_getD, List.getD_eq_getElem?_getD, List.getElem?_append_right (by omega), Nat.add_sub_cancel_left]
theorem gd_r' {l l' : List Int} {n : Nat} (h : l.length ≤ n) : (l ++ l').getD n 0 = l'.getD (n - l.length) 0 := by
  rw [List.getD_eq_getElem?_getD, List.getD_eq_getElem?_getD, List.getElem?_append_right h]
theorem flat_hit {α : Type} {f : α → List Int} {c : Nat} (hc : 0 < c) : ∀ (l : List α) (i : Nat), (∀ x ∈ l, (f x).length ≤ c ∧ ∃ p, p < (f x).length ∧ (f x).getD p 0 ≠ 0) → i + 2 * c ≤ (l.flatMap f).length →
    ∃ j, i ≤ j ∧ j < i + 2 * c ∧ (l.flatMap f).getD j 0 ≠ 0
  | [], i, _, h => by simp at h; omega
  | x :: l, i, hx, h => by
    obtain ⟨h1, p, h2, h3⟩ := hx x (List.mem_cons_self ..)
    rw [List.flatMap_cons, List.length_append] at h
    by_cases hi : i = 0
    · refine ⟨p, by omega, by omega, ?_⟩
      rw [List.flatMap_cons, gd_l h2]; exact h3
    by_cases hl : i ≤ (f x).length
    · match l, hx, h with
      | [], _, h => simp at h; omega
      | y :: l, hx, h =>
        obtain ⟨g1, p', g2, g3⟩ := hx y (List.mem_cons_of_mem _ (List.mem_cons_self ..))
        refine ⟨(f x).length + p', by omega, by omega, ?_⟩
        rw [List.flatMap_cons, gd_r, List.flatMap_cons, gd_l g2]; exact g3
    · obtain ⟨j, j1, j2, j3⟩ := flat_hit hc l (i - (f x).length) (fun y hy => hx y (List.mem_cons_of_mem _ hy)) (by omega)
      refine ⟨(f x).length + j, by omega, by omega, ?_⟩
      rw [List.flatMap_cons, gd_r]; exact j3
theorem body_hit {P : Pg} (h : okP P = true) (hk : ¬ P.kind = 4) (hL : 510 ≤ (bodyP P).length) : ∃ j, 20 ≤ j ∧ j < 509 ∧ j < (bodyP P).length ∧ (bodyP P).getD j 0 ≠ 0 := by
  rcases okP_cases h with ⟨e, h⟩ | ⟨e, h⟩ | ⟨e, h⟩ | ⟨e, h⟩
  · rw [body_1 e, body1] at hL ⊢
    rw [List.length_append, tw_len] at hL
    obtain ⟨⟨_, _, h2⟩, _⟩ := ok1_facts h
    obtain ⟨j, j1, j2, j3⟩ := flat_hit (f := pairB) (c := 150) (by omega) P.pairs 18 (fun x hx => by
      have := h2 x hx
      refine ⟨by rw [pairB_len]; omega, 0, by rw [pairB_len]; omega, ?_⟩
      show ((x.key.size : Nat) : Int) ≠ 0
      omega) (by omega)
    refine ⟨2 + j, by omega, by omega, by rw [List.length_append, tw_len]; omega, ?_⟩
    intro hz; exact j3 ((gd_r (tw P.pairs.length) _ j).symm.trans hz)
  · rw [body_2 e, body2] at hL ⊢
    rw [List.length_append, List.length_append, tw_len, tw_len] at hL
    obtain ⟨⟨_, _, _, h2, _⟩, _⟩ := ok2_facts h
    obtain ⟨j, j1, j2, j3⟩ := flat_hit (f := kidB) (c := 51) (by omega) (P.keys.zip P.kids.tail) 16 (fun x hx => by
      have := h2 x.1 (List.of_mem_zip hx).1
      refine ⟨by rw [kidB_len]; omega, 0, by rw [kidB_len]; omega, ?_⟩
      show ((x.1.size : Nat) : Int) ≠ 0
      omega) (by omega)
    refine ⟨2 + (2 + j), by omega, by omega, by rw [List.length_append, List.length_append, tw_len, tw_len]; omega, ?_⟩
    intro hz; exact j3 ((((gd_r (tw P.keys.length) _ (2 + j)).trans (gd_r (tw (P.kids.getD 0 0)) _ j))).symm.trans hz)
  · rw [body_3 e, body3] at hL ⊢
    rw [List.length_append, List.length_append, tw_len, tw_len] at hL
    obtain ⟨⟨_, h2, _⟩, _⟩ := ok3_facts h
    obtain ⟨j, j1, j2, j3⟩ := flat_hit (f := tw) (c := 2) (by omega) P.pages 18 (fun x hx => by
      have := h2 x hx
      refine ⟨by rw [tw_len]; omega, ?_⟩
      by_cases hz : x % 256 = 0
      · refine ⟨0, by rw [tw_len]; omega, ?_⟩
        show x / 256 % 256 ≠ 0
        omega
      · exact ⟨1, by rw [tw_len]; omega, hz⟩) (by omega)
    refine ⟨2 + j, by omega, by omega, by rw [List.length_append, List.length_append, tw_len, tw_len]; omega, ?_⟩
    intro hz; exact j3 (((gd_r (tw P.pages.length) _ j).trans (gd_l (l := P.pages.flatMap tw) (l' := tw P.next) (by omega))).symm.trans hz)
  · exact absurd e hk
theorem pad_gd {n : Nat} {l : List Int} {j : Nat} (h : l.length ≤ j) : (padB n l).getD j 0 = 0 := by
  rw [padB, gd_r' h, List.getD_eq_getElem?_getD, List.getElem?_replicate]
  split <;> rfl
theorem super_gd {s : Int} {P : Pg} (h : P.kind = 4) {j : Nat} (h1 : 23 ≤ j) (h2 : j < 512) : (encS s P).getD j 0 = 0 := by
  have h15 := text4_len s h
  have e1 : (ei P.epoch ++ padB 504 (textP s P)).length = 512 := by rw [List.length_append, pad_len (by omega), ei_len]
  rw [encS, gd_l (by omega), gd_r' (by rw [ei_len]; omega), ei_len]
  exact pad_gd (by omega)
theorem super_512 {s : Int} {P : Pg} (h : P.kind = 4) : (encS s P).getD 512 0 = 4 := by
  have h15 := text4_len s h
  have e1 : (ei P.epoch ++ padB 504 (textP s P)).length = 512 := by rw [List.length_append, pad_len (by omega), ei_len]
  rw [encS, gd_r' (by omega), e1]
  exact h
/-- No superblock's bytes are another page's. -/
theorem enc_mix {s t : Int} {P Q : Pg} (h4 : P.kind = 4) (hQ : okP Q = true) (hn : ¬ Q.kind = 4) (h : encS s P = encN t Q) : False := by
  have hb := body_len hQ
  have hl := text_len t Q
  have hpad : (padB 1016 (textP t Q)).length = 1016 := pad_len (by omega)
  have g : ∀ j, j < 1016 → (encN t Q).getD j 0 = (padB 1016 (textP t Q)).getD j 0 := fun j hj => by rw [encN, gd_l (by omega)]
  have h512 := super_512 (s := s) h4
  rw [h, g 512 (by omega)] at h512
  have hlen : 512 < (textP t Q).length := by
    refine Classical.byContradiction fun hc => ?_
    rw [pad_gd (by omega)] at h512
    omega
  obtain ⟨j, j1, j2, j3, j4⟩ := body_hit hQ hn (by omega)
  have hz := super_gd (s := s) h4 (j := 3 + j) (by omega) (by omega)
  rw [h, g (3 + j) (by omega), padB, gd_l (by omega)] at hz
  have hz2 : ((Q.kind :: tw t) ++ bodyP Q).getD ((Q.kind :: tw t).length + j) 0 = 0 := hz
  rw [gd_r] at hz2
  exact j4 hz2
theorem enc_sector {s t : Int} {P Q : Pg} (hP : okE s P = true) (hQ : okE t Q = true) (h : encP s P = encP t Q) : s = t := by
  obtain ⟨o1, a⟩ := here_iff hP
  obtain ⟨o2, b⟩ := here_iff hQ
  rcases a with ⟨k1, a⟩ | ⟨k1, a⟩ <;> rcases b with ⟨k2, b⟩ | ⟨k2, b⟩
  · rw [enc_4 k1, enc_4 k2] at h
    have := congrArg (fun l => l.getD 10 0) h
    have : s % 256 = t % 256 := this
    rw [isS_iff] at a b
    omega
  · rw [enc_4 k1, enc_n k2] at h
    exact (enc_mix k1 o2 k2 h).elim
  · rw [enc_n k1, enc_4 k2] at h
    exact (enc_mix k2 o1 k1 h.symm).elim
  · rw [enc_n k1, enc_n k2] at h
    have h1 := congrArg (fun l => l.getD 1 0) h
    have h2 := congrArg (fun l => l.getD 2 0) h
    have h1 : s / 256 % 256 = t / 256 % 256 := h1
    have h2 : s % 256 = t % 256 := h2
    omega
theorem dec_at {s t : Int} {P : Pg} (h : okE s P = true) (hw : epW P) : decP t (encP s P) = if t = s then some P else none := by
  split
  · rename_i e; subst e; exact dec_enc h hw
  · rename_i hne
    cases e : decP t (encP s P) with
    | none => rfl
    | some q =>
      obtain ⟨h1, h2, _⟩ := okE_of e
      exact absurd (enc_sector h1 h h2) hne
end Go.Proofs.Ytcfabnkkkpcelaa
set_option linter.unusedSimpArgs false
set_option linter.unusedVariables false
namespace Go.Proofs.Ytcfabnkkkpcelaa
open Go.RowKit Go.Lib
theorem listsIff (a b : ByteArray) : a.toList = b.toList ↔ a = b := ⟨toList_inj, fun h => by rw [h]⟩
def pairEq (x y : PairV) : Bool := decide (x.key = y.key) && decide (x.val = y.val)
theorem pairEq_iff (x y : PairV) : pairEq x y = true ↔ x = y := by
  obtain ⟨p0, p1⟩ := x
  obtain ⟨q0, q1⟩ := y
  simp [pairEq]
theorem neqPairV (a0 a1 b0 b1 : ByteArray) (w : World) : (binOp .neq 44 (.agg #[.string a0, .string a1]) (.agg #[.string b0, .string b1])).run Try.prog w = .ok (.bool (!pairEq ⟨a0, a1⟩ ⟨b0, b1⟩)) w := by
  have ustring := Try.underlying9
  have istring := Try.isAgg9
  have zstring := Try.sizeOf9
  have hS : Try.prog.underlying 44 = some (.struct (Try.prog.fieldsOf 44)) := by kernel_rfl
  have hp : Try.prog.stoodInHeld 44 = false := by kernel_rfl
  rw [run_neq_struct, show (10000 : Nat) = 9999 + 1 from rfl, run_equalIn_agg w 9999 44 _ _ hS hp]
  simp only [Program.fieldsOf, Try.underlying44]
  go_simp
  simp only [pairEq]
  by_cases h0 : a0 = b0 <;> by_cases h1 : a1 = b1 <;> simp [listsIff, h0, h1]
set_option maxRecDepth 10000 in
set_option maxHeartbeats 1000000 in
theorem pairs_any (A : Option Addr) (n c : Nat) (xs : List PairV) (B : Option Addr) (m d : Nat) (ys : List PairV) (w : World) (hA : Row pairT w A n xs) (hB : Row pairT w B m ys) :
    Calls Try.prog 50 #[.slice A n c, .slice B m d] w fun e w' => e = .returned (.bool (decide (xs = ys))) ∧ Bel w w' := by
  have hn := hA.2.1
  have hm := hB.2.1
  obtain ⟨q, hq⟩ : ∃ q, decide (xs = ys) = q := ⟨_, rfl⟩
  rw [hq]
  have HQ := hid_ hq
  have HL1 := hid_ hA.1
  have HL2 := hid_ hB.1
  clear hq
  go_enter Try.func50, Try.ntmps50
  by_cases hl : n = m
  · subst hl
    go_wp2_with fail
    go_loopw [5] (fun i wr => ∃ j : Nat, j ≤ n ∧ i = .int .i64 j ∧ Hid (xs.take j = ys.take j) ∧ Bel w wr) (fun i _ => n - (Go.RowKit.intOf i).toNat)
    case atStart => exact ⟨0, Nat.zero_le _, rfl, hid_ rfl, Bel.refl _⟩
    case round =>
      obtain ⟨j, hj, rfl, hx, hb⟩ := hrel
      have BR := hid_ hb
      by_cases hjn : j < n
      · obtain ⟨ad, ⟨a0, a1⟩, rfl, ho, d0, d1⟩ := (hA.bel hb).pair hjn
        obtain ⟨bd, ⟨b0, b1⟩, rfl, ho', e0, e1⟩ := (hB.bel hb).pair hjn
        have hneq := neqPairV a0 a1 b0 b1
        obtain ⟨r, hr⟩ : ∃ r, pairEq ⟨a0, a1⟩ ⟨b0, b1⟩ = r := ⟨_, rfl⟩
        rw [hr] at hneq
        have HR := hid_ hr
        have HO := hid_ ho
        have HO' := hid_ ho'
        have i0 : (0 : Int) ≤ (j : Int) := by omega
        have i1 : (j : Int) < (n : Int) := by omega
        clear hr ho ho' hb
        go_upto_region 6 with (fail)
        cases r
        · have HF : Hid (q = false) := hid_ (by
            rw [← HQ.out]
            refine decide_eq_false fun e => ?_
            have h1 := HO.out
            rw [e, HO'.out] at h1
            have h2 := (pairEq_iff ⟨a0, a1⟩ ⟨b0, b1⟩).2 (Option.some.inj h1).symm
            rw [HR.out] at h2
            cases h2)
          clear hx HO HO' HR
          go_quiet (fail)
          go_wp2
          go_ret
          exact ⟨by rw [HF.out]; rfl, BR.out.drewN _⟩
        · have HX : Hid (xs.take (j + 1) = ys.take (j + 1)) := hid_ (by
            rw [List.take_add_one, List.take_add_one, HO.out, HO'.out, hx.out, (pairEq_iff ⟨a0, a1⟩ ⟨b0, b1⟩).1 HR.out])
          clear hx HO HO' HR
          go_quiet (fail)
          go_wp2
          go_roundw
          case rel => exact ⟨j + 1, by omega, by go_num, HX, BR.out.drewN _⟩
          case measure => simp [Go.RowKit.intOf]; omega
      · obtain rfl : j = n := by omega
        have HF : Hid (q = true) := hid_ (by
          rw [← HQ.out]
          refine decide_eq_true ?_
          have h1 := hx.out
          rw [List.take_of_length_le (by rw [HL1.out]; omega), List.take_of_length_le (by rw [HL2.out]; omega)] at h1
          exact h1)
        clear hx hb
        go_wp2
        go_ret
        exact ⟨by rw [HF.out]; rfl, BR.out⟩
  · have HF : Hid (q = false) := hid_ (by
      rw [← HQ.out]
      exact decide_eq_false fun e => hl (by rw [← HL1.out, ← HL2.out, e]))
    have e1 : ((n : Int) != (m : Int)) = true := by simp; omega
    go_wp2
    go_ret
    exact ⟨by rw [HF.out]; rfl, Bel.refl _⟩
set_option maxRecDepth 10000 in
set_option maxHeartbeats 1000000 in
theorem ints_any (A : Option Addr) (n c : Nat) (xs : List Int) (B : Option Addr) (m d : Nat) (ys : List Int) (w : World) (hA : Row intT w A n xs) (hB : Row intT w B m ys) :
    Calls Try.prog 51 #[.slice A n c, .slice B m d] w fun e w' => e = .returned (.bool (decide (xs = ys))) ∧ Bel w w' := by
  have hn := hA.2.1
  have hm := hB.2.1
  obtain ⟨q, hq⟩ : ∃ q, decide (xs = ys) = q := ⟨_, rfl⟩
  rw [hq]
  have HQ := hid_ hq
  have HL1 := hid_ hA.1
  have HL2 := hid_ hB.1
  clear hq
  go_enter Try.func51, Try.ntmps51
  by_cases hl : n = m
  · subst hl
    go_wp2_with fail
    go_loopw [5] (fun i wr => ∃ j : Nat, j ≤ n ∧ i = .int .i64 j ∧ Hid (xs.take j = ys.take j) ∧ Bel w wr) (fun i _ => n - (Go.RowKit.intOf i).toNat)
    case atStart => exact ⟨0, Nat.zero_le _, rfl, hid_ rfl, Bel.refl _⟩
    case round =>
      obtain ⟨j, hj, rfl, hx, hb⟩ := hrel
      have BR := hid_ hb
      by_cases hjn : j < n
      · obtain ⟨ad, a0, rfl, ho, d0⟩ := (hA.bel hb).int hjn
        obtain ⟨bd, b0, rfl, ho', e0⟩ := (hB.bel hb).int hjn
        obtain ⟨r, hr⟩ : ∃ r, (a0 == b0) = r := ⟨_, rfl⟩
        have hneq : (a0 != b0) = !r := by rw [← hr]; rfl
        have HR := hid_ hr
        have HO := hid_ ho
        have HO' := hid_ ho'
        have i0 : (0 : Int) ≤ (j : Int) := by omega
        have i1 : (j : Int) < (n : Int) := by omega
        clear hr ho ho' hb
        go_upto_region 6 with (fail)
        cases r
        · have HF : Hid (q = false) := hid_ (by
            rw [← HQ.out]
            refine decide_eq_false fun e => ?_
            have h1 := HO.out
            rw [e, HO'.out] at h1
            have h2 := (beq_iff_eq (a := a0) (b := b0)).2 (Option.some.inj h1).symm
            rw [HR.out] at h2
            cases h2)
          clear hx HO HO' HR
          go_quiet (fail)
          go_wp2
          go_ret
          exact ⟨by rw [HF.out]; rfl, BR.out.drewN _⟩
        · have HX : Hid (xs.take (j + 1) = ys.take (j + 1)) := hid_ (by
            rw [List.take_add_one, List.take_add_one, HO.out, HO'.out, hx.out, (beq_iff_eq (a := a0) (b := b0)).1 HR.out])
          clear hx HO HO' HR
          go_quiet (fail)
          go_wp2
          go_roundw
          case rel => exact ⟨j + 1, by omega, by go_num, HX, BR.out.drewN _⟩
          case measure => simp [Go.RowKit.intOf]; omega
      · obtain rfl : j = n := by omega
        have HF : Hid (q = true) := hid_ (by
          rw [← HQ.out]
          refine decide_eq_true ?_
          have h1 := hx.out
          rw [List.take_of_length_le (by rw [HL1.out]; omega), List.take_of_length_le (by rw [HL2.out]; omega)] at h1
          exact h1)
        clear hx hb
        go_wp2
        go_ret
        exact ⟨by rw [HF.out]; rfl, BR.out⟩
  · have HF : Hid (q = false) := hid_ (by
      rw [← HQ.out]
      exact decide_eq_false fun e => hl (by rw [← HL1.out, ← HL2.out, e]))
    have e1 : ((n : Int) != (m : Int)) = true := by simp; omega
    go_wp2
    go_ret
    exact ⟨by rw [HF.out]; rfl, Bel.refl _⟩
end Go.Proofs.Ytcfabnkkkpcelaa
set_option linter.unusedSimpArgs false
set_option linter.unusedVariables false
namespace Go.Proofs.Ytcfabnkkkpcelaa
open Go.RowKit Go.Lib
set_option maxRecDepth 10000 in
set_option maxHeartbeats 8000000 in
theorem same_any (P Q : Pg) (A B C D : Option Addr) (n c m d k e l f : Nat) (A2 B2 C2 D2 : Option Addr) (n2 c2 m2 d2 k2 e2 l2 f2 : Nat) (w : World) (hP : PgAt w P A n B m C k D l) (hR : PgAt w Q A2 n2 B2 m2 C2 k2 D2 l2) :
    Calls Try.prog 18 #[pgV P (.slice A n c) (.slice B m d) (.slice C k e) (.slice D l f), pgV Q (.slice A2 n2 c2) (.slice B2 m2 d2) (.slice C2 k2 e2) (.slice D2 l2 f2)] w fun e w' => e = .returned (.bool (decide (P = Q))) ∧ Bel w w' := by
  obtain ⟨r, hr⟩ : ∃ r, decide (P = Q) = r := ⟨_, rfl⟩
  rw [hr]
  have HQ := hid_ hr
  have hno : (P ≠ Q) → Hid (r = false) := fun h => hid_ (by rw [← hr]; exact decide_eq_false h)
  have HNO := hid_ hno
  clear hr hno
  have HL2 := hid_ hP.keys.1
  have HL2' := hid_ hR.keys.1
  have hm63 := hP.keys.2.1
  have hm63' := hR.keys.2.1
  have HP := hid_ hP
  have HR := hid_ hR
  unfold pgV pgC
  clear hP hR
  go_enter Try.func18, Try.ntmps18
  go_upto_region 1 with (fail)
  have bx := (Bx.new w 28 (pgC P (.slice A n c) (.slice B m d) (.slice C k e) (.slice D l f))).alloc (.cells (pgC Q (.slice A2 n2 c2) (.slice B2 m2 d2) (.slice C2 k2 e2) (.slice D2 l2 f2)).toArray 28)
  have bz := Bx.new (w.alloc (.cells (pgC P (.slice A n c) (.slice B m d) (.slice C k e) (.slice D l f)).toArray 28)) 28 (pgC Q (.slice A2 n2 c2) (.slice B2 m2 d2) (.slice C2 k2 e2) (.slice D2 l2 f2))
  have hs := sizeAl w (.cells (pgC P (.slice A n c) (.slice B m d) (.slice C k e) (.slice D l f)).toArray 28)
  have hb := ((Bel.refl w).alloc (.cells (pgC P (.slice A n c) (.slice B m d) (.slice C k e) (.slice D l f)).toArray 28)).alloc (.cells (pgC Q (.slice A2 n2 c2) (.slice B2 m2 d2) (.slice C2 k2 e2) (.slice D2 l2 f2)).toArray 28)
  rw [hs] at bz
  clear hs
  unfold pgC at bx bz hb
  generalize (w.alloc _).alloc _ = W0 at bx bz hb ⊢
  generalize w.heap.size = g at bx bz ⊢
  generalize hz : g + 1 = z at bz ⊢
  clear hz
  have BX := hid_ bx
  have BZ := hid_ bz
  have HB := hid_ hb
  have HP := hid_ (HP.out.bel hb)
  have HR := hid_ (HR.out.bel hb)
  clear bx bz hb
  have c1 := BX.out.cell 1 rfl
  have z1 := BZ.out.cell 1 rfl
  go_wp2_with fail
  refine (pairs_any A n c P.pairs A2 n2 c2 Q.pairs _ HP.out.pairs HR.out.pairs).mono ?_
  rintro e w1 ⟨rfl, hb⟩
  clear c1 z1
  have BX := hid_ (BX.out.bel hb)
  have BZ := hid_ (BZ.out.bel hb)
  have HB := hid_ (HB.out.trans hb)
  have HP := hid_ (HP.out.bel hb)
  have HR := hid_ (HR.out.bel hb)
  clear hb
  obtain ⟨b1, hb1⟩ : ∃ t, decide (P.pairs = Q.pairs) = t := ⟨_, rfl⟩
  rw [hb1]
  have HB1 := hid_ hb1
  clear hb1
  have c3 := BX.out.cell 3 rfl
  have z3 := BZ.out.cell 3 rfl
  go_wp2_with fail
  refine (ints_any C k e P.kids C2 k2 e2 Q.kids _ HP.out.kids HR.out.kids).mono ?_
  rintro e w1 ⟨rfl, hb⟩
  clear c3 z3
  have BX := hid_ (BX.out.bel hb)
  have BZ := hid_ (BZ.out.bel hb)
  have HB := hid_ (HB.out.trans hb)
  have HP := hid_ (HP.out.bel hb)
  have HR := hid_ (HR.out.bel hb)
  clear hb
  obtain ⟨b2, hb2⟩ : ∃ t, decide (P.kids = Q.kids) = t := ⟨_, rfl⟩
  rw [hb2]
  have HB2 := hid_ hb2
  clear hb2
  have c4 := BX.out.cell 4 rfl
  have z4 := BZ.out.cell 4 rfl
  go_wp2_with fail
  refine (ints_any D l f P.pages D2 l2 f2 Q.pages _ HP.out.pages HR.out.pages).mono ?_
  rintro e w1 ⟨rfl, hb⟩
  clear c4 z4
  have BX := hid_ (BX.out.bel hb)
  have BZ := hid_ (BZ.out.bel hb)
  have HB := hid_ (HB.out.trans hb)
  have HP := hid_ (HP.out.bel hb)
  have HR := hid_ (HR.out.bel hb)
  clear hb
  obtain ⟨b3, hb3⟩ : ∃ t, decide (P.pages = Q.pages) = t := ⟨_, rfl⟩
  rw [hb3]
  have HB3 := hid_ hb3
  clear hb3
  have c0 := BX.out.cell 0 rfl
  have c2 := BX.out.cell 2 rfl
  have c5 := BX.out.cell 5 rfl
  have c6 := BX.out.cell 6 rfl
  have c7 := BX.out.cell 7 rfl
  have c8 := BX.out.cell 8 rfl
  have c9 := BX.out.cell 9 rfl
  have c10 := BX.out.cell 10 rfl
  have z0 := BZ.out.cell 0 rfl
  have z2 := BZ.out.cell 2 rfl
  have z5 := BZ.out.cell 5 rfl
  have z6 := BZ.out.cell 6 rfl
  have z7 := BZ.out.cell 7 rfl
  have z8 := BZ.out.cell 8 rfl
  have z9 := BZ.out.cell 9 rfl
  have z10 := BZ.out.cell 10 rfl
  cases b1
  · have HF := HNO.out (fun e => of_decide_eq_false HB1.out (by rw [e]))
    go_wp2
    go_ret
    exact ⟨by rw [HF.out]; rfl, HB.out⟩
  cases b2
  · have HF := HNO.out (fun e => of_decide_eq_false HB2.out (by rw [e]))
    go_wp2
    go_ret
    exact ⟨by rw [HF.out]; rfl, HB.out⟩
  cases b3
  · have HF := HNO.out (fun e => of_decide_eq_false HB3.out (by rw [e]))
    go_wp2
    go_ret
    exact ⟨by rw [HF.out]; rfl, HB.out⟩
  by_cases hl : m = m2
  case neg =>
    have HF := HNO.out (fun e => hl (by rw [← HL2.out, ← HL2'.out, e]))
    have e1 : ((m : Int) != (m2 : Int)) = true := by simp; omega
    go_wp2
    go_ret
    exact ⟨by rw [HF.out]; rfl, HB.out⟩
  subst hl
  obtain ⟨W1, hW1⟩ : ∃ W1, w1 = W1 := ⟨_, rfl⟩
  rw [hW1] at HP HR HB BX BZ c0 c2 c5 c6 c7 c8 c9 c10 z0 z2 z5 z6 z7 z8 z9 z10 ⊢
  clear hW1
  go_wp2_with fail
  go_loopw [8] (fun i wr => ∃ j : Nat, j ≤ m ∧ i = .int .i64 j ∧ Hid (P.keys.take j = Q.keys.take j) ∧ Bel W1 wr) (fun i _ => m - (Go.RowKit.intOf i).toNat)
  case atStart => exact ⟨0, Nat.zero_le _, rfl, hid_ rfl, Bel.refl _⟩
  case round =>
    obtain ⟨j, hj, rfl, hx, hb⟩ := hrel
    have BR := hid_ hb
    replace c0 := hb.cell_ c0
    replace c2 := hb.cell_ c2
    replace c5 := hb.cell_ c5
    replace c6 := hb.cell_ c6
    replace c7 := hb.cell_ c7
    replace c8 := hb.cell_ c8
    replace c9 := hb.cell_ c9
    replace c10 := hb.cell_ c10
    replace z0 := hb.cell_ z0
    replace z2 := hb.cell_ z2
    replace z5 := hb.cell_ z5
    replace z6 := hb.cell_ z6
    replace z7 := hb.cell_ z7
    replace z8 := hb.cell_ z8
    replace z9 := hb.cell_ z9
    replace z10 := hb.cell_ z10
    by_cases hjn : j < m
    · obtain ⟨ad, a0, rfl, ho, d0⟩ := (HP.out.keys.bel hb).str hjn
      obtain ⟨bd, b0, rfl, ho', e0⟩ := (HR.out.keys.bel hb).str hjn
      obtain ⟨r0, hr0⟩ : ∃ r, decide (a0 = b0) = r := ⟨_, rfl⟩
      have hneq : (a0.toList == b0.toList) = r0 := by rw [toList_eq, hr0]
      have HR0 := hid_ hr0
      have HO := hid_ ho
      have HO' := hid_ ho'
      have i0 : (0 : Int) ≤ (j : Int) := by omega
      have i1 : (j : Int) < (m : Int) := by omega
      clear hr0 ho ho' hb
      go_upto_region 9 with (fail)
      cases r0
      · have HF := HNO.out (fun e => of_decide_eq_false HR0.out (by
          have h1 := HO.out
          rw [e, HO'.out] at h1
          exact (Option.some.inj h1).symm))
        clear hx HO HO' HR0
        go_quiet (fail)
        go_wp2
        go_ret
        exact ⟨by rw [HF.out]; rfl, HB.out.trans (BR.out.drewN _)⟩
      · have HX : Hid (P.keys.take (j + 1) = Q.keys.take (j + 1)) := hid_ (by
          rw [List.take_add_one, List.take_add_one, HO.out, HO'.out, hx.out, of_decide_eq_true HR0.out])
        clear hx HO HO' HR0
        go_quiet (fail)
        go_wp2
        go_roundw
        case rel => exact ⟨j + 1, by omega, by go_num, HX, BR.out.drewN _⟩
        case measure => simp [Go.RowKit.intOf]; omega
    · obtain rfl : j = m := by omega
      have HK : Hid (P.keys = Q.keys) := hid_ (by
        have h1 := hx.out
        rw [List.take_of_length_le (by rw [HL2.out]; omega), List.take_of_length_le (by rw [HL2'.out]; omega)] at h1
        exact h1)
      clear hx hb
      by_cases q0 : P.kind = Q.kind
      case neg =>
        have HF := HNO.out (fun e => q0 (by rw [e]))
        have t0 : (P.kind == Q.kind) = false := by simp [q0]
        clear q0
        go_wp2
        go_ret
        exact ⟨by rw [HF.out]; rfl, HB.out.trans BR.out⟩
      have Q0 := hid_ q0
      have t0 : (P.kind == Q.kind) = true := by simp [q0]
      clear q0
      by_cases q1 : P.next = Q.next
      case neg =>
        have HF := HNO.out (fun e => q1 (by rw [e]))
        have t1 : (P.next == Q.next) = false := by simp [q1]
        clear q1
        go_wp2
        go_ret
        exact ⟨by rw [HF.out]; rfl, HB.out.trans BR.out⟩
      have Q1 := hid_ q1
      have t1 : (P.next == Q.next) = true := by simp [q1]
      clear q1
      by_cases q2 : P.epoch = Q.epoch
      case neg =>
        have HF := HNO.out (fun e => q2 (by rw [e]))
        have t2 : (P.epoch == Q.epoch) = false := by simp [q2]
        clear q2
        go_wp2
        go_ret
        exact ⟨by rw [HF.out]; rfl, HB.out.trans BR.out⟩
      have Q2 := hid_ q2
      have t2 : (P.epoch == Q.epoch) = true := by simp [q2]
      clear q2
      by_cases q3 : P.root = Q.root
      case neg =>
        have HF := HNO.out (fun e => q3 (by rw [e]))
        have t3 : (P.root == Q.root) = false := by simp [q3]
        clear q3
        go_wp2
        go_ret
        exact ⟨by rw [HF.out]; rfl, HB.out.trans BR.out⟩
      have Q3 := hid_ q3
      have t3 : (P.root == Q.root) = true := by simp [q3]
      clear q3
      by_cases q4 : P.depth = Q.depth
      case neg =>
        have HF := HNO.out (fun e => q4 (by rw [e]))
        have t4 : (P.depth == Q.depth) = false := by simp [q4]
        clear q4
        go_wp2
        go_ret
        exact ⟨by rw [HF.out]; rfl, HB.out.trans BR.out⟩
      have Q4 := hid_ q4
      have t4 : (P.depth == Q.depth) = true := by simp [q4]
      clear q4
      by_cases q5 : P.count = Q.count
      case neg =>
        have HF := HNO.out (fun e => q5 (by rw [e]))
        have t5 : (P.count == Q.count) = false := by simp [q5]
        clear q5
        go_wp2
        go_ret
        exact ⟨by rw [HF.out]; rfl, HB.out.trans BR.out⟩
      have Q5 := hid_ q5
      have t5 : (P.count == Q.count) = true := by simp [q5]
      clear q5
      by_cases q6 : P.high = Q.high
      case neg =>
        have HF := HNO.out (fun e => q6 (by rw [e]))
        have t6 : (P.high == Q.high) = false := by simp [q6]
        clear q6
        go_wp2
        go_ret
        exact ⟨by rw [HF.out]; rfl, HB.out.trans BR.out⟩
      have Q6 := hid_ q6
      have t6 : (P.high == Q.high) = true := by simp [q6]
      clear q6
      have HF : Hid (r = true) := hid_ (by
        rw [← HQ.out]
        refine decide_eq_true ?_
        obtain ⟨p0, p1, p2, p3, p4, p5, p6, p7, p8, p9, p10⟩ := P
        obtain ⟨s0, s1, s2, s3, s4, s5, s6, s7, s8, s9, s10⟩ := Q
        have h1 := of_decide_eq_true HB1.out
        have h2 := of_decide_eq_true HB2.out
        have h3 := of_decide_eq_true HB3.out
        have h4 := HK.out
        have h5 := Q0.out
        have h6 := Q1.out
        have h7 := Q2.out
        have h8 := Q3.out
        have h9 := Q4.out
        have h10 := Q5.out
        have h11 := Q6.out
        simp only at h1 h2 h3 h4 h5 h6 h7 h8 h9 h10 h11
        subst h1 h2 h3 h4 h5 h6 h7 h8 h9 h10 h11
        rfl)
      go_wp2
      go_ret
      exact ⟨by rw [HF.out]; rfl, HB.out.trans BR.out⟩
end Go.Proofs.Ytcfabnkkkpcelaa
set_option linter.unusedSimpArgs false
set_option linter.unusedVariables false
namespace Go.Proofs.Ytcfabnkkkpcelaa
open Go.RowKit Go.Lib
def FewR (n m k l : Nat) (e : Ending) : Prop := ∃ t, e = .returned (.bool t) ∧ (t = true → n ≤ 300 ∧ m ≤ 300 ∧ k ≤ 300 ∧ l ≤ 300)
set_option maxRecDepth 10000 in
set_option maxHeartbeats 8000000 in
theorem few_any (P : Pg) (A B C D : Option Addr) (n c m d k e l f : Nat) (w : World) (hP : PgAt w P A n B m C k D l) :
    Calls Try.prog 11 #[pgV P (.slice A n c) (.slice B m d) (.slice C k e) (.slice D l f)] w fun e w' => FewR n m k l e ∧ Bel w w' := by
  have z1 := hP.pairs.2.1
  have z2 := hP.keys.2.1
  have z3 := hP.kids.2.1
  have z4 := hP.pages.2.1
  have HP := hid_ hP
  unfold pgV pgC
  clear hP
  go_enter Try.func11, Try.ntmps11
  go_upto_region 1 with (fail)
  have bx := Bx.new w 28 (pgC P (.slice A n c) (.slice B m d) (.slice C k e) (.slice D l f))
  have hb := (Bel.refl w).alloc (.cells (pgC P (.slice A n c) (.slice B m d) (.slice C k e) (.slice D l f)).toArray 28)
  unfold pgC at bx hb
  generalize w.alloc _ = W0 at bx hb ⊢
  generalize w.heap.size = g at bx ⊢
  have HB := hid_ hb
  have HP := hid_ (HP.out.bel hb)
  have c1 := bx.cell 1 rfl
  have c2 := bx.cell 2 rfl
  have c3 := bx.cell 3 rfl
  have c4 := bx.cell 4 rfl
  clear bx hb
  by_cases g0 : 300 < n
  · go_wp2
    go_ret
    exact ⟨⟨false, rfl, fun h => by cases h⟩, HB.out⟩
  have g0d : decide (300 < n) = false := decide_eq_false g0
  by_cases g1 : 300 < m
  · go_wp2
    go_ret
    exact ⟨⟨false, rfl, fun h => by cases h⟩, HB.out⟩
  have g1d : decide (300 < m) = false := decide_eq_false g1
  by_cases g2 : 300 < k
  · go_wp2
    go_ret
    exact ⟨⟨false, rfl, fun h => by cases h⟩, HB.out⟩
  have g2d : decide (300 < k) = false := decide_eq_false g2
  by_cases g3 : 300 < l
  · go_wp2
    go_ret
    exact ⟨⟨false, rfl, fun h => by cases h⟩, HB.out⟩
  have g3d : decide (300 < l) = false := decide_eq_false g3
  have HG : Hid (n ≤ 300 ∧ m ≤ 300 ∧ k ≤ 300 ∧ l ≤ 300) := hid_ (by omega)
  go_wp2_with fail
  clear g0 g1 g2 g3 g0d g1d g2d g3d c3 c4
  have C2 := hid_ c2
  go_loopw [3] (fun i wr => ∃ j : Nat, j ≤ n ∧ i = .int .i64 j ∧ Bel W0 wr) (fun i _ => n - (Go.RowKit.intOf i).toNat)
  case atStart => exact ⟨0, Nat.zero_le _, rfl, Bel.refl _⟩
  case round =>
    obtain ⟨j, hj, rfl, hb⟩ := hrel
    replace c1 := hb.cell_ c1
    replace c2 := hb.cell_ c2
    by_cases hjn : j < n
    · obtain ⟨ad, a0, rfl, ho, d0, d1⟩ := (HP.out.pairs.bel hb).pair hjn
      have i0 : (0 : Int) ≤ (j : Int) := by omega
      have i1 : (j : Int) < (n : Int) := by omega
      clear ho
      by_cases h1 : 200 < a0.key.size
      · have h1d : decide (200 < a0.key.size) = true := decide_eq_true h1
        go_wp2
        go_ret
        exact ⟨⟨false, rfl, fun h => by cases h⟩, HB.out.trans hb⟩
      have h1d : decide (200 < a0.key.size) = false := decide_eq_false h1
      by_cases h2 : 200 < a0.val.size
      · have h2d : decide (200 < a0.val.size) = true := decide_eq_true h2
        go_wp2
        go_ret
        exact ⟨⟨false, rfl, fun h => by cases h⟩, HB.out.trans hb⟩
      have h2d : decide (200 < a0.val.size) = false := decide_eq_false h2
      go_wp2
      go_roundw
      case rel => exact ⟨j + 1, by omega, by go_num, hb⟩
      case measure => simp [Go.RowKit.intOf]; omega
    · obtain rfl : j = n := by omega
      go_wp2_with fail
      go_loopw [4] (fun i wr => ∃ j : Nat, j ≤ m ∧ i = .int .i64 j ∧ Bel W0 wr) (fun i _ => m - (Go.RowKit.intOf i).toNat)
      case atStart => exact ⟨0, Nat.zero_le _, rfl, hb⟩
      case round =>
        clear hb
        obtain ⟨j, hj, rfl, hb'⟩ := hrel
        have c2 := hb'.cell_ C2.out
        have HB2 := hid_ (HB.out.trans hb')
        by_cases hjm : j < m
        · obtain ⟨ad, a0, rfl, ho, d0⟩ := (HP.out.keys.bel hb').str hjm
          have i0 : (0 : Int) ≤ (j : Int) := by omega
          have i1 : (j : Int) < (m : Int) := by omega
          clear ho
          by_cases h1 : 200 < a0.size
          · have h1d : decide (200 < a0.size) = true := decide_eq_true h1
            go_wp2
            go_ret
            exact ⟨⟨false, rfl, fun h => by cases h⟩, HB2.out⟩
          have h1d : decide (200 < a0.size) = false := decide_eq_false h1
          go_wp2
          go_roundw
          case rel => exact ⟨j + 1, by omega, by go_num, hb'⟩
          case measure => simp [Go.RowKit.intOf]; omega
        · obtain rfl : j = m := by omega
          go_wp2
          go_ret
          exact ⟨⟨true, rfl, fun _ => HG.out⟩, HB2.out⟩
end Go.Proofs.Ytcfabnkkkpcelaa
set_option linter.unusedSimpArgs false
set_option linter.unusedVariables false
namespace Go.Proofs.Ytcfabnkkkpcelaa
open Go.RowKit Go.Lib
def awP : Pg := { pgZ with kind := 1, pairs := [⟨⟨#[97]⟩, ⟨#[120, 121]⟩⟩] }
def awZ : Pg := { pgZ with kind := 1 }
theorem awOk : okE 5 awP = true := by kernel_rfl
theorem awNo : okE 0 awP = false := by kernel_rfl
theorem awChk : chkP awP = 0 := by kernel_rfl
theorem awChkZ : chkP awZ = 50 := by kernel_rfl
theorem awB0 : (encP 5 awP)[0]? = some 1 := by kernel_rfl
theorem awB2 : (encP 5 awP)[2]? = some 5 := by kernel_rfl
theorem awB4 : (encP 5 awP)[4]? = some 1 := by kernel_rfl
theorem awB6 : (encP 5 awP)[6]? = some 97 := by kernel_rfl
theorem awE : epW awP := ⟨by decide, by decide⟩
theorem awD5 : decP 5 (encP 5 awP) = some awP := dec_enc awOk awE
theorem awD6 : decP 6 (encP 5 awP) = none := by rw [dec_at awOk awE]; rfl
theorem awW : PgW awP := by
  refine ⟨?_, ?_, awE, ?_, ?_, ?_, ?_, ?_, ?_⟩ <;> first | (unfold i64R; decide) | (intro x hx; cases hx)
theorem awZW : PgW awZ := by
  refine ⟨?_, ?_, ⟨by decide, by decide⟩, ?_, ?_, ?_, ?_, ?_, ?_⟩ <;> first | (unfold i64R; decide) | (intro x hx; cases hx)
theorem awRow (w : World) : PgAt ((w.alloc (.cells #[.string ⟨#[97]⟩, .string ⟨#[120, 121]⟩] 44)).alloc (.cells (pgC awP (.slice (some ⟨w.heap.size, 0, none⟩) 1 1) (.slice none 0 0) (.slice none 0 0) (.slice none 0 0)).toArray 28)) awP (some ⟨w.heap.size, 0, none⟩) 1 none 0 none 0 none 0 := by
  have hb := (Bx.new w 44 [.string ⟨#[97]⟩, .string ⟨#[120, 121]⟩]).alloc (.cells (pgC awP (.slice (some ⟨w.heap.size, 0, none⟩) 1 1) (.slice none 0 0) (.slice none 0 0) (.slice none 0 0)).toArray 28)
  refine ⟨⟨rfl, by omega, fun _ => ⟨_, rfl, fun j x hj i u hu => ?_⟩⟩, Row.none_ _ _ _, Row.none_ _ _ _, Row.none_ _ _ _⟩
  have hj0 : j = 0 := by
    have := (List.getElem?_eq_some_iff.1 hj).1
    simp [awP] at this
    exact this
  subst hj0
  have hx : x = ⟨⟨#[97]⟩, ⟨#[120, 121]⟩⟩ := by
    simp [awP] at hj
    exact hj.symm
  subst hx
  rw [Nat.zero_mul, Nat.zero_add, add0]
  exact hb.cell i hu
theorem awZAt (w : World) : PgAt w awZ none 0 none 0 none 0 none 0 := ⟨Row.none_ _ _ _, Row.none_ _ _ _, Row.none_ _ _ _, Row.none_ _ _ _⟩
set_option maxRecDepth 10000 in
set_option maxHeartbeats 8000000 in
theorem awake_any (w : World) : Calls Try.prog 10 #[] w fun e w' => e = .returned (.bool true) ∧ Bel w w' := by
  go_enter Try.func10, Try.ntmps10
  go_upto_region 2 with (fail)
  have hAt := awRow w
  have hbx := Bx.new (w.alloc (.cells #[.string ⟨#[97]⟩, .string ⟨#[120, 121]⟩] 44)) 28 (pgC awP (.slice (some ⟨w.heap.size, 0, none⟩) 1 1) (.slice none 0 0) (.slice none 0 0) (.slice none 0 0))
  have hs := sizeAl w (.cells #[.string ⟨#[97]⟩, .string ⟨#[120, 121]⟩] 44)
  have hb := ((Bel.refl w).alloc (.cells #[.string ⟨#[97]⟩, .string ⟨#[120, 121]⟩] 44)).alloc (.cells (pgC awP (.slice (some ⟨w.heap.size, 0, none⟩) 1 1) (.slice none 0 0) (.slice none 0 0) (.slice none 0 0)).toArray 28)
  rw [hs] at hbx
  clear hs
  change PgAt ((w.alloc _).alloc (.cells #[.int .i64 1, .slice (some ⟨w.heap.size, 0, none⟩) 1 1, .slice none 0 0, .slice none 0 0, .slice none 0 0, .int .i64 0, .int .u64 0, .int .i64 0, .int .i64 0, .int .i64 0, .int .i64 0] 28)) awP (some ⟨w.heap.size, 0, none⟩) 1 none 0 none 0 none 0 at hAt
  change Bx ((w.alloc _).alloc (.cells #[.int .i64 1, .slice (some ⟨w.heap.size, 0, none⟩) 1 1, .slice none 0 0, .slice none 0 0, .slice none 0 0, .int .i64 0, .int .u64 0, .int .i64 0, .int .i64 0, .int .i64 0, .int .i64 0] 28)) _ _ [.int .i64 1, .slice (some ⟨w.heap.size, 0, none⟩) 1 1, .slice none 0 0, .slice none 0 0, .slice none 0 0, .int .i64 0, .int .u64 0, .int .i64 0, .int .i64 0, .int .i64 0, .int .i64 0] at hbx
  change Bel w ((w.alloc _).alloc (.cells #[.int .i64 1, .slice (some ⟨w.heap.size, 0, none⟩) 1 1, .slice none 0 0, .slice none 0 0, .slice none 0 0, .int .i64 0, .int .u64 0, .int .i64 0, .int .i64 0, .int .i64 0, .int .i64 0] 28)) at hb
  generalize (w.alloc _).alloc _ = W1 at hAt hbx hb ⊢
  generalize hg1 : w.heap.size + 1 = g1 at hbx ⊢
  generalize w.heap.size = g0 at hAt hbx ⊢
  have HAt := hid_ hAt
  have HBx := hid_ hbx
  have HB := hid_ hb
  clear hAt hbx hb hg1
  have c0 := HBx.out.cell 0 rfl
  have c1 := HBx.out.cell 1 rfl
  have c2 := HBx.out.cell 2 rfl
  have c3 := HBx.out.cell 3 rfl
  have c4 := HBx.out.cell 4 rfl
  have c5 := HBx.out.cell 5 rfl
  have c6 := HBx.out.cell 6 rfl
  have c7 := HBx.out.cell 7 rfl
  have c8 := HBx.out.cell 8 rfl
  have c9 := HBx.out.cell 9 rfl
  have c10 := HBx.out.cell 10 rfl
  go_wp2_with fail
  refine (encode_yes 5 awP (some ⟨g0, 0, none⟩) none none none 1 1 0 0 0 0 0 0 W1 HAt.out awW (by omega) (by omega) (by omega) (by omega) awOk).mono ?_
  rintro e w1 ⟨g9, rfl, hR, hg9, hb⟩
  clear c0 c1 c2 c3 c4 c5 c6 c7 c8 c9 c10
  have HAt := hid_ (HAt.out.bel hb)
  have HBx := hid_ (HBx.out.bel hb)
  have HB := hid_ (HB.out.trans hb)
  have HR := hid_ hR
  clear hR hg9 hb
  go_wp2_with fail
  refine (decode_any 5 (some ⟨g9, 0, none⟩) 1024 1024 (encP 5 awP) _ HR.out (Nat.le_refl _) (enc_byte (here_iff awOk).1)).mono ?_
  rintro e w2 hD
  rcases hD with ⟨q, v, hq, rfl, hIn, hb⟩ | ⟨hn, _⟩
  case inr => rw [awD5] at hn; cases hn
  rw [awD5] at hq
  injection hq with hq
  subst hq
  obtain ⟨A, n, c, B, m, d, C, k, e, D, l, f, rfl, v1, v2, v3, v4, hQ⟩ := hIn
  have HAt := hid_ (HAt.out.bel hb)
  have HBx := hid_ (HBx.out.bel hb)
  have HR := hid_ (HR.out.bel hb)
  have HB := hid_ (HB.out.trans hb)
  have HQ := hid_ hQ
  clear hQ hb
  have hvv : pgV awP (.slice A n c) (.slice B m d) (.slice C k e) (.slice D l f) = .agg #[.int .i64 1, .slice A n c, .slice B m d, .slice C k e, .slice D l f, .int .i64 0, .int .u64 0, .int .i64 0, .int .i64 0, .int .i64 0, .int .i64 0] := rfl
  rw [hvv]
  clear hvv
  go_upto_region 4 with (fail)
  have hby := Bx.new w2 28 [.int .i64 1, .slice A n c, .slice B m d, .slice C k e, .slice D l f, .int .i64 0, .int .u64 0, .int .i64 0, .int .i64 0, .int .i64 0, .int .i64 0]
  have hb := (Bel.refl w2).alloc (.cells #[.int .i64 1, .slice A n c, .slice B m d, .slice C k e, .slice D l f, .int .i64 0, .int .u64 0, .int .i64 0, .int .i64 0, .int .i64 0, .int .i64 0] 28)
  generalize w2.alloc _ = W3 at hby hb ⊢
  generalize w2.heap.size = g2 at hby ⊢
  have HAt := hid_ (HAt.out.bel hb)
  have HBx := hid_ (HBx.out.bel hb)
  have HR := hid_ (HR.out.bel hb)
  have HQ := hid_ (HQ.out.bel hb)
  have HB := hid_ (HB.out.trans hb)
  have HBy := hid_ hby
  clear hby hb
  go_wp2_with fail
  refine (decode_any 6 (some ⟨g9, 0, none⟩) 1024 1024 (encP 5 awP) _ HR.out (Nat.le_refl _) (enc_byte (here_iff awOk).1)).mono ?_
  rintro e w4 hD
  rcases hD with ⟨q, v, hq, _⟩ | ⟨_, rfl, hb⟩
  case inl => rw [awD6] at hq; cases hq
  have HAt := hid_ (HAt.out.bel hb)
  have HBx := hid_ (HBx.out.bel hb)
  have HR := hid_ (HR.out.bel hb)
  have HQ := hid_ (HQ.out.bel hb)
  have HBy := hid_ (HBy.out.bel hb)
  have HB := hid_ (HB.out.trans hb)
  clear hb
  unfold zeroC
  go_upto_region 5 with (fail)
  have hb := (Bel.refl w4).alloc (.cells #[.int .i64 0, .slice none 0 0, .slice none 0 0, .slice none 0 0, .slice none 0 0, .int .i64 0, .int .u64 0, .int .i64 0, .int .i64 0, .int .i64 0, .int .i64 0] 28)
  generalize w4.alloc _ = W5 at hb ⊢
  have HAt := hid_ (HAt.out.bel hb)
  have HBx := hid_ (HBx.out.bel hb)
  have HR := hid_ (HR.out.bel hb)
  have HQ := hid_ (HQ.out.bel hb)
  have HBy := hid_ (HBy.out.bel hb)
  have HB := hid_ (HB.out.trans hb)
  clear hb
  have c0 := HBx.out.cell 0 rfl
  have c1 := HBx.out.cell 1 rfl
  have c2 := HBx.out.cell 2 rfl
  have c3 := HBx.out.cell 3 rfl
  have c4 := HBx.out.cell 4 rfl
  have c5 := HBx.out.cell 5 rfl
  have c6 := HBx.out.cell 6 rfl
  have c7 := HBx.out.cell 7 rfl
  have c8 := HBx.out.cell 8 rfl
  have c9 := HBx.out.cell 9 rfl
  have c10 := HBx.out.cell 10 rfl
  go_wp2_with fail
  refine (encode_no 0 awP (some ⟨g0, 0, none⟩) none none none 1 1 0 0 0 0 0 0 W5 HAt.out awW (by omega) (by omega) (by omega) (by omega) awNo).mono ?_
  rintro e w6 ⟨rfl, hb⟩
  clear c0 c1 c2 c3 c4 c5 c6 c7 c8 c9 c10
  have HAt := hid_ (HAt.out.bel hb)
  have HBx := hid_ (HBx.out.bel hb)
  have HR := hid_ (HR.out.bel hb)
  have HQ := hid_ (HQ.out.bel hb)
  have HBy := hid_ (HBy.out.bel hb)
  have HB := hid_ (HB.out.trans hb)
  clear hb
  have c0 := HBx.out.cell 0 rfl
  have c1 := HBx.out.cell 1 rfl
  have c2 := HBx.out.cell 2 rfl
  have c3 := HBx.out.cell 3 rfl
  have c4 := HBx.out.cell 4 rfl
  have c5 := HBx.out.cell 5 rfl
  have c6 := HBx.out.cell 6 rfl
  have c7 := HBx.out.cell 7 rfl
  have c8 := HBx.out.cell 8 rfl
  have c9 := HBx.out.cell 9 rfl
  have c10 := HBx.out.cell 10 rfl
  have d0 := HBy.out.cell 0 rfl
  have d1 := HBy.out.cell 1 rfl
  have d2 := HBy.out.cell 2 rfl
  have d3 := HBy.out.cell 3 rfl
  have d4 := HBy.out.cell 4 rfl
  have d5 := HBy.out.cell 5 rfl
  have d6 := HBy.out.cell 6 rfl
  have d7 := HBy.out.cell 7 rfl
  have d8 := HBy.out.cell 8 rfl
  have d9 := HBy.out.cell 9 rfl
  have d10 := HBy.out.cell 10 rfl
  go_wp2_with fail
  refine (same_any awP awP (some ⟨g0, 0, none⟩) none none none 1 1 0 0 0 0 0 0 A B C D n c m d k e l f w6 HAt.out HQ.out).mono ?_
  rintro e w7 ⟨rfl, hb⟩
  rw [decide_eq_true (rfl : awP = awP)]
  clear c0 c1 c2 c3 c4 c5 c6 c7 c8 c9 c10 d0 d1 d2 d3 d4 d5 d6 d7 d8 d9 d10
  have HAt := hid_ (HAt.out.bel hb)
  have HBx := hid_ (HBx.out.bel hb)
  have HR := hid_ (HR.out.bel hb)
  have HB := hid_ (HB.out.trans hb)
  clear hb
  obtain ⟨_, x, h0, h1, d0⟩ := HR.out.byte (show 0 < 1024 by omega)
  injection h0 with h0
  subst h0
  rw [awB0] at h1
  injection h1 with h1
  subst h1
  replace d0 : w7.cell? ⟨g9, 0, none⟩ = some (.int .u8 1) := by first | exact d0 | simpa [Addr.add] using d0
  obtain ⟨_, x, h0, h1, d2⟩ := HR.out.byte (show 2 < 1024 by omega)
  injection h0 with h0
  subst h0
  rw [awB2] at h1
  injection h1 with h1
  subst h1
  replace d2 : w7.cell? ⟨g9, 2, none⟩ = some (.int .u8 5) := by first | exact d2 | simpa [Addr.add] using d2
  obtain ⟨_, x, h0, h1, d4⟩ := HR.out.byte (show 4 < 1024 by omega)
  injection h0 with h0
  subst h0
  rw [awB4] at h1
  injection h1 with h1
  subst h1
  replace d4 : w7.cell? ⟨g9, 4, none⟩ = some (.int .u8 1) := by first | exact d4 | simpa [Addr.add] using d4
  obtain ⟨_, x, h0, h1, d6⟩ := HR.out.byte (show 6 < 1024 by omega)
  injection h0 with h0
  subst h0
  rw [awB6] at h1
  injection h1 with h1
  subst h1
  replace d6 : w7.cell? ⟨g9, 6, none⟩ = some (.int .u8 97) := by first | exact d6 | simpa [Addr.add] using d6
  have c0 := HBx.out.cell 0 rfl
  have c1 := HBx.out.cell 1 rfl
  have c2 := HBx.out.cell 2 rfl
  have c3 := HBx.out.cell 3 rfl
  have c4 := HBx.out.cell 4 rfl
  have c5 := HBx.out.cell 5 rfl
  have c6 := HBx.out.cell 6 rfl
  have c7 := HBx.out.cell 7 rfl
  have c8 := HBx.out.cell 8 rfl
  have c9 := HBx.out.cell 9 rfl
  have c10 := HBx.out.cell 10 rfl
  go_wp2_with fail
  refine (check_any awP (some ⟨g0, 0, none⟩) none none none 1 1 0 0 0 0 0 0 w7 HAt.out awW (by omega) (by omega) (by omega) (by omega)).mono ?_
  rintro e w8 ⟨rfl, hb⟩
  rw [awChk]
  clear c0 c1 c2 c3 c4 c5 c6 c7 c8 c9 c10
  clear d0 d2 d4 d6
  have HAt := hid_ (HAt.out.bel hb)
  have HB := hid_ (HB.out.trans hb)
  clear hb
  go_wp2_with fail
  refine (check_any awZ none none none none 0 0 0 0 0 0 0 0 w8 (awZAt w8) awZW (by omega) (by omega) (by omega) (by omega)).mono ?_
  rintro e w9 ⟨rfl, hb⟩
  rw [awChkZ]
  have HB := hid_ (HB.out.trans hb)
  clear hb
  go_wp2
  go_ret
  exact ⟨rfl, HB.out⟩
end Go.Proofs.Ytcfabnkkkpcelaa
