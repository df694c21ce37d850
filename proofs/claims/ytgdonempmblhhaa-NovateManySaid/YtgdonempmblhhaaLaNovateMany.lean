/- NovateMany, walked. -/
import Derived.Test.YtgdonempmblhhaaLaNovateTells
set_option linter.unusedSimpArgs false
set_option linter.unusedVariables false
namespace Go.Proofs.Ytgdonempmblhhaa
open Go.RowKit Go.Lib
def manyO (ts : List Trd) (os : List Ord) : List Due := ts.flatMap fun t => allO [t] os
def manyG (ts : List Trd) (os : List Ord) : Bool := ts.all fun t => (allD [t] os).isSome
theorem allD_one (t : Trd) (os : List Ord) : allD [t] os = duesAt t os := by
  unfold allD allD
  cases duesAt t os <;> simp
theorem many_yes : ∀ (ts : List Trd) (os : List Ord), manyG ts os = true → allD ts os = some (manyO ts os)
  | [], os, _ => rfl
  | t :: ts, os, h => by
    unfold manyG at h
    rw [List.all_cons, Bool.and_eq_true] at h
    have ih := many_yes ts os h.2
    have h1 := h.1
    unfold manyO
    rw [List.flatMap_cons]
    unfold allO
    rw [allD_one] at h1 ⊢
    obtain ⟨d, hd⟩ := Option.isSome_iff_exists.1 h1
    rw [hd]
    unfold allD
    rw [hd, ih]
    rfl
theorem many_no : ∀ (ts : List Trd) (os : List Ord), manyG ts os = false → allD ts os = none
  | [], os, h => by simp [manyG] at h
  | t :: ts, os, h => by
    unfold manyG at h
    rw [List.all_cons, Bool.and_eq_false_iff] at h
    unfold allD
    rcases h with h | h
    · rw [allD_one] at h
      have : duesAt t os = none := by simpa using h
      rw [this]
      rfl
    · rw [many_no ts os h]
      cases duesAt t os <;> rfl
theorem manyO_step {ts : List Trd} {os : List Ord} {k : Nat} {t : Trd} (h : ts[k]? = some t) : manyO (ts.take (k + 1)) os = manyO (ts.take k) os ++ allO [t] os := by
  unfold manyO
  rw [List.take_add_one, h, List.flatMap_append]
  simp
theorem manyG_step {ts : List Trd} {os : List Ord} {k : Nat} {t : Trd} (h : ts[k]? = some t) : manyG (ts.take (k + 1)) os = (manyG (ts.take k) os && (allD [t] os).isSome) := all_take' _ _ _ h
theorem allO_one_len (t : Trd) (os : List Ord) : (allO [t] os).length ≤ 4 := by
  unfold allO
  cases h : allD [t] os with
  | none => simp
  | some d => have := allD_len _ _ _ h; simp at this; simp [this]
theorem manyO_len (os : List Ord) : ∀ ts : List Trd, (manyO ts os).length ≤ 4 * ts.length
  | [] => by simp [manyO]
  | t :: ts => by
    have := manyO_len os ts
    have h := allO_one_len t os
    unfold manyO at this ⊢
    rw [List.flatMap_cons, List.length_append, List.length_cons]
    omega
set_option maxRecDepth 10000 in
set_option maxHeartbeats 4000000 in
theorem walkNovateMany (w : World) (A1 : Option Addr) (n1 c1 : Nat) (l1 : List Trd) (w1 : n1 ≤ c1 ∧ Row trdT w A1 n1 l1 ∧ ∀ x ∈ l1, trdWf x) (A2 : Option Addr) (n2 c2 : Nat) (l2 : List Ord) (w2 : n2 ≤ c2 ∧ Row ordT w A2 n2 l2 ∧ ∀ x ∈ l2, ordWf x) :
    Calls Try.prog 6 #[.slice A1 n1 c1, .slice A2 n2 c2] w fun e w' => e = .returned (.bool true) ∧ Bel w w' := by
  obtain ⟨hnc1, hA, _⟩ := w1
  obtain ⟨hnc2, hO, _⟩ := w2
  have FA := hid_ hA
  have FO := hid_ hO
  have HN := hid_ hA.2.1
  have FB := hid_ (Bel.refl w)
  clear hA hO hnc1 hnc2
  go_enter Try.func6, Try.ntmps6
  go_wp2_with fail
  refine (awake15 _).mono ?_
  rintro e v1 ⟨rfl, b⟩
  have bb := b
  have f1A := hid_ (FA.out.bel bb)
  have f1O := hid_ (FO.out.bel bb)
  have f1B := hid_ (FB.out.trans bb)
  clear b bb FA FO FB
  go_wp2_with fail
  refine (few15_any A2 n2 c2 l2 _ f1O.out).mono ?_
  rintro e v2 ⟨rfl, b⟩
  have bb := b
  have f2A := hid_ (f1A.out.bel bb)
  have f2O := hid_ (f1O.out.bel bb)
  have f2B := hid_ (f1B.out.trans bb)
  clear b bb f1A f1O f1B
  obtain ⟨fo, hfo⟩ : ∃ fo, fewO 200 l2 = fo := ⟨_, rfl⟩
  rw [hfo]
  have HFO := hid_ hfo
  clear hfo
  cases fo
  · go_wp2
    go_ret
    exact ⟨rfl, f2B.out⟩
  have HSZ : Hid (sized l2) := hid_ (few_sized HFO.out)
  clear HFO
  by_cases hbig : 200 < n1
  · go_wp2
    go_ret
    exact ⟨rfl, f2B.out⟩
  have dbig : decide ((200 : Int) < (n1 : Int)) = false := by simp; omega
  go_wp2_with fail
  refine (all_any A1 n1 c1 l1 A2 n2 c2 l2 _ f2A.out f2O.out (by omega) HSZ.out).mono ?_
  rintro e v3 ⟨X5, m5, k5, rfl, r, b⟩
  have bb := b
  have f3A := hid_ (f2A.out.bel bb)
  have f3O := hid_ (f2O.out.bel bb)
  have f3B := hid_ (f2B.out.trans bb)
  have f3R5 := hid_ r
  clear b bb f2A f2O f2B r
  go_wp2_with fail
  clear dbig
  have hl5 := f3R5.out.1
  have HL5 := hid_ hl5
  clear hl5
  go_loopw [8, 9, 10] (fun v g i wr => ∃ j : Nat, j ≤ n1 ∧ i = .int .i64 j ∧ g = .bool (manyG (l1.take j) l2) ∧ Own dueT wr v3.heap.size v (manyO (l1.take j) l2) ∧ Bel v3 wr) (fun _ _ i _ => n1 - (intOf i).toNat)
  case atStart => exact ⟨0, Nat.zero_le _, rfl, rfl, Own.nil_ _ _ _, Bel.refl _⟩
  case round =>
    obtain ⟨j, hj, rfl, rfl, ho, hbr⟩ := hrel
    have BR := hid_ hbr
    have OW := hid_ ho
    clear ho
    obtain ⟨gq, hgq⟩ : ∃ g, manyG (l1.take j) l2 = g := ⟨_, rfl⟩
    rw [hgq]
    have HG := hid_ hgq
    clear hgq
    by_cases hjn : j < n1
    · obtain ⟨ad, tb, ts, tq, tp, rfl, ho, d0, d1, d2, d3⟩ := (f3A.out.bel hbr).trd hjn
      have HST := hid_ (manyO_step (os := l2) ho)
      have HGT := hid_ (manyG_step (os := l2) ho)
      rw [HG.out] at HGT
      have HLN : Hid ((manyO (l1.take j) l2).length ≤ 4 * j) := hid_ (Nat.le_trans (manyO_len _ _) (Nat.mul_le_mul_left 4 (List.length_take_le j l1)))
      have HL4 := hid_ (allO_one_len ⟨tb, ts, tq, tp⟩ l2)
      clear ho hbr
      have i0 : (0 : Int) ≤ (j : Int) := by omega
      have i1 : (j : Int) < (n1 : Int) := by omega
      go_wp2_with fail
      refine (all_any _ 1 1 [⟨tb, ts, tq, tp⟩] A2 n2 c2 l2 _ (Row.one (T := trdT) (W := wr) ⟨tb, ts, tq, tp⟩ rfl rfl) (f3O.out.bel (BR.out.alloc _)) (by omega) HSZ.out).mono ?_
      rintro e w7 ⟨X7, m7, k7, rfl, r7, b⟩
      have B7 := hid_ (((Bel.refl wr).alloc (.cells #[.int .u64 tb, .int .u64 ts, .int .i64 tq, .int .i64 tp] 25)).trans b)
      have R7 := hid_ r7
      have O7 := hid_ (OW.out.bel B7.out)
      have E7 := hid_ (BR.out.trans B7.out)
      clear b r7 BR OW d0 d1 d2 d3
      obtain ⟨sq, hsq⟩ : ∃ s, (allD [⟨tb, ts, tq, tp⟩] l2).isSome = s := ⟨_, rfl⟩
      have HE7 : Hid (allE [⟨tb, ts, tq, tp⟩] l2 = if sq then 0 else 150) := hid_ (by rw [← hsq]; rfl)
      rw [hsq] at HGT
      rw [HE7.out]
      clear hsq HE7
      have HM7 : Hid (m7 ≤ 4) := hid_ (by rw [← R7.out.1]; exact HL4.out)
      cases gq
      all_goals cases sq
      all_goals (
        simp only [if_true, if_false, Bool.false_eq_true]
        go_wp2_with (at_builtin; refine wpApp (w0 := v3) dueS rfl _ _ rfl _ (manyO (l1.take j) l2) _ X7 m7 k7 rfl rfl O7.out R7.out E7.out (by have h1 := HLN.out; have h2 := HM7.out; omega) ?_; intro v1 x1 hO1 hb1 _ _)
        rw [← HST.out] at hO1
        case roundEnd =>
          go_roundw
          case rel => exact ⟨j + 1, by omega, by go_num, by rw [HGT.out]; rfl, hO1, hb1⟩
          case measure => simp [intOf]; omega)
    · obtain rfl : j = n1 := by omega
      have hfull : l1.take j = l1 := by rw [← f3A.out.1, List.take_length]
      rw [hfull] at HG OW
      obtain ⟨Y, ky, rfl, _, ry⟩ := OW.out.reads
      have RY := hid_ ry
      have E8 := hid_ (f3B.out.trans BR.out)
      have R8 := hid_ (f3R5.out.bel BR.out)
      clear ry OW hfull hj hjn BR hbr
      cases gq
      · have HN0 := hid_ (many_no l1 l2 HG.out)
        have h0 : m5 = 0 := by rw [← HL5.out]; unfold allO; rw [HN0.out]; rfl
        have h1 : allE l1 l2 = 150 := by unfold allE; rw [HN0.out]; rfl
        subst h0
        rw [h1]
        clear h1 HN0 HL5 R8 RY
        go_wp2
        go_ret
        exact ⟨rfl, E8.out⟩
      · have HY := hid_ (many_yes l1 l2 HG.out)
        have h1 : allE l1 l2 = 0 := by unfold allE; rw [HY.out]; rfl
        have h2 : allO l1 l2 = manyO l1 l2 := by unfold allO; rw [HY.out]; rfl
        rw [h1]
        clear h1
        go_wp2_with fail
        refine (sameDue_any X5 m5 k5 _ Y _ ky _ _ R8.out RY.out).mono ?_
        rintro e w9 ⟨rfl, b⟩
        rw [eqB_1 h2]
        have E9 := hid_ (E8.out.trans b)
        clear b h2 HY R8 RY
        go_wp2
        go_ret
        exact ⟨rfl, E9.out⟩
end Go.Proofs.Ytgdonempmblhhaa
