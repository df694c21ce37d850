/- cambistlaw14.filled. -/
import Derived.Test.YtnpcnahnkfdgpaaAucG
import Derived.Deep.QuietTactic
import Derived.Deep.DeepCutAuto
import Derived.BigQuiet
set_option linter.unusedSimpArgs false
set_option linter.unusedVariables false
namespace Go.Proofs.Ytnpcnahnkfdgpaa
open Go.RowKit Go.Lib
def opn (b : Bool) (t : List Trd) (l : List Ord) : Bool := l.any fun o => decide (qN b t o.number < o.left)
theorem opn_step {b : Bool} {t : List Trd} {l : List Ord} {j : Nat} {o : Ord} (h : l[j]? = some o) : opn b t (l.take (j + 1)) = (opn b t (l.take j) || decide (qN b t o.number < o.left)) := by
  unfold opn
  rw [List.take_add_one, h, List.any_append]
  simp
theorem opn_at {b : Bool} {t : List Trd} {l : List Ord} {j : Nat} (h : opn b t (l.take j) = true) : ∃ (i : Nat) (o : Ord), i < j ∧ l[i]? = some o ∧ qN b t o.number < o.left := by
  obtain ⟨o, ho, h2⟩ := List.any_eq_true.1 h
  obtain ⟨i, hi, e⟩ := List.mem_iff_getElem.1 ho
  rw [List.length_take] at hi
  refine ⟨i, o, by omega, ?_, by simpa using h2⟩
  rw [List.getElem_take] at e
  rw [← e]
  exact List.getElem?_eq_getElem _
theorem qB_step {t : List Trd} {k : Nat} {x : Trd} (h : t[k]? = some x) (m : Int) : qN true (t.take (k + 1)) m = qN true (t.take k) m + (if x.buy = m then x.quantity else 0) := by
  unfold qN qB
  rw [List.take_add_one, h]
  simp only [if_true, List.filter_append, List.map_append, List.sum_append]
  congr 1
  by_cases e : x.buy = m <;> simp [e]
theorem qS_step {t : List Trd} {k : Nat} {x : Trd} (h : t[k]? = some x) (m : Int) : qN false (t.take (k + 1)) m = qN false (t.take k) m + (if x.sell = m then x.quantity else 0) := by
  unfold qN qS
  rw [List.take_add_one, h]
  simp only [if_false, Bool.false_eq_true, List.filter_append, List.map_append, List.sum_append]
  congr 1
  by_cases e : x.sell = m <;> simp [e]
theorem qN_le (b : Bool) {t : List Trd} (hq : ∀ x ∈ t, 1 ≤ x.quantity ∧ x.quantity ≤ 1000000) (m : Int) : ∀ k : Nat, 0 ≤ qN b (t.take k) m ∧ qN b (t.take k) m ≤ 1000000 * (k : Int)
  | 0 => by cases b <;> simp [qN, qB, qS]
  | k + 1 => by
    have ih := qN_le b hq m k
    cases hx : t[k]? with
    | none => rw [List.take_of_length_le (by have := List.getElem?_eq_none_iff.1 hx; omega)]; rw [List.take_of_length_le (by have := List.getElem?_eq_none_iff.1 hx; omega)] at ih; omega
    | some x =>
      have h1 := hq x (List.mem_of_getElem? hx)
      cases b
      · rw [qS_step hx]; split <;> omega
      · rw [qB_step hx]; split <;> omega
set_option maxRecDepth 10000 in
set_option maxHeartbeats 4000000 in
theorem filled_t (A B : Option Addr) (n c m d : Nat) (sd : List Ord) (t : List Trd) (p : Int) (w : World) (hA : Row ordT w A n sd) (hB : Row trdT w B m t) (hF : Fair true sd t p) (hq : ∀ x ∈ t, 1 ≤ x.quantity ∧ x.quantity ≤ 1000000) (hm : m ≤ 1000000) :
    Calls Try.prog 10 #[.slice A n c, .slice B m d, .bool true, .int .i64 p] w fun e w' => e = .returned (.bool true) ∧ Bel w w' := by
  have hn' := hA.2.1
  have HA := hid_ hA
  have HB := hid_ hB
  have HF := hid_ hF
  have HQ := hid_ hq
  have HL := hid_ hA.1
  have HT := hid_ hB.1
  clear hA hB hF hq
  go_enter Try.func10, Try.ntmps10
  go_wp2_with fail
  go_loopw [9, 10] (fun g i wr => ∃ j : Nat, j ≤ n ∧ i = .int .i64 j ∧ g = .bool (opn true t (sd.take j)) ∧ Bel w wr) (fun _ i _ => n - (intOf i).toNat)
  case atStart => exact ⟨0, Nat.zero_le _, rfl, rfl, Bel.refl _⟩
  case round =>
    obtain ⟨j, hj, rfl, rfl, hbr⟩ := hrel
    obtain ⟨wo, hwo⟩ : ∃ wo, wo = wr := ⟨_, rfl⟩
    subst hwo
    have BR := hid_ hbr
    by_cases hjn : j < n
    · obtain ⟨ad, o0, o1, o2, o3, o4, o5, rfl, ho, d0, d1, d2, d3, d4, d5⟩ := (HA.out.bel hbr).ord hjn
      have HO := hid_ ho
      have HST := hid_ (opn_step (b := true) (t := t) ho)
      have i0 : (0 : Int) ≤ (j : Int) := by omega
      have i1 : (j : Int) < (n : Int) := by omega
      obtain ⟨g1, hg1⟩ : ∃ g, opn true t (sd.take j) = g := ⟨_, rfl⟩
      rw [hg1]
      have HG1 := hid_ hg1
      rw [hg1] at HST
      clear ho hbr hg1
      go_wp2_with fail
      go_loopw [11, 12] (fun x i wq => ∃ k : Nat, k ≤ m ∧ i = .int .i64 k ∧ x = .int .i64 (qN true (t.take k) o0) ∧ Bel wo wq) (fun _ i _ => m - (intOf i).toNat)
      case atStart => exact ⟨0, Nat.zero_le _, rfl, rfl, Bel.refl _⟩
      case round =>
        obtain ⟨k, hk, rfl, rfl, hbq⟩ := hrel
        have d0 := hbq.cell_ d0
        have d4 := hbq.cell_ d4
        have d5 := hbq.cell_ d5
        have BQ := hid_ hbq
        have GB := hid_ (BR.out.trans hbq)
        clear d1 d2 d3
        by_cases hkm : k < m
        · obtain ⟨ad2, tb, ts, tq, tp, rfl, hx, f0, f1, f2, f3⟩ := (HB.out.bel GB.out).trd hkm
          have HS := hid_ (qB_step hx o0)
          have h1 := HQ.out _ (List.mem_of_getElem? hx)
          have h2 := qN_le true HQ.out o0 k
          simp only at h1
          have hw : wrap64 (qN true (t.take k) o0 + tq) = qN true (t.take k) o0 + tq := by unfold wrap64; omega
          obtain ⟨N, hN⟩ : ∃ N, qN true (t.take k) o0 = N := ⟨_, rfl⟩
          rw [hN] at HS hw
          rw [hN]
          clear h1 h2 hN hx hbq
          have k0 : (0 : Int) ≤ (k : Int) := by omega
          have k1 : (k : Int) < (m : Int) := by omega
          by_cases e : tb = o0
          · have HS2 : Hid (qN true (t.take (k + 1)) o0 = N + tq) := hid_ (by rw [HS.out, if_pos e])
            have e1 : (tb == o0) = true := by simpa using e
            have e2 : decide (tb = o0) = true := decide_eq_true e
            clear HS e
            go_upto_region 9 with (fail)
            go_quiet (fail)
            go_wp2
            case roundEnd =>
              go_roundw
              case rel => exact ⟨k + 1, by omega, by go_num, by first | rw [HS2.out, hw] | rw [HS2.out], by first | exact BQ.out.drewN _ | exact (BQ.out.drewN _).drew | exact (BQ.out.drewN _).drewN _⟩
              case measure => simp [intOf]; omega
          · have HS2 : Hid (qN true (t.take (k + 1)) o0 = N) := hid_ (by rw [HS.out, if_neg e]; omega)
            have e1 : (tb == o0) = false := by simpa using e
            have e2 : decide (tb = o0) = false := decide_eq_false e
            clear HS e
            go_upto_region 9 with (fail)
            go_quiet (fail)
            go_wp2
            case roundEnd =>
              go_roundw
              case rel => exact ⟨k + 1, by omega, by go_num, by rw [HS2.out], BQ.out.drewN _⟩
              case measure => simp [intOf]; omega
        · obtain rfl : m = k := by omega
          have hfull : t.take m = t := by rw [← HT.out, List.take_length]
          rw [hfull]
          obtain ⟨l1, l2, l3⟩ := HF.out j _ HO.out
          have HG := hid_ (fun h => (opn_at (b := true) (t := t) (l := sd) (j := j) h))
          simp only at l1 l2
          have hpos : 0 ≤ qN true t o0 := by have := (qN_le true HQ.out o0 m).1; rw [hfull] at this; exact this
          obtain ⟨N, hN⟩ : ∃ N, qN true t o0 = N := ⟨_, rfl⟩
          have hopn : 0 < N → g1 = false := by
            intro h0
            cases hg : g1
            · rfl
            · obtain ⟨i, o', a1, a2, a3⟩ := HG.out (by rw [HG1.out, hg])
              exact absurd (by simp only; rw [hN]; exact h0) (l3 i o' a1 a2 a3)
          have HS2 : Hid (opn true t (sd.take (j + 1)) = (g1 || decide (N < o5))) := hid_ (by rw [HST.out, ← hN])
          rw [hN] at l1 l2 hpos
          rw [hN]
          have k2 : ¬ (m : Int) < (m : Int) := by omega
          have r1 : decide (o5 < N) = false := by simp; omega
          obtain ⟨g2, hg2⟩ : ∃ g, decide (N < o5) = g := ⟨_, rfl⟩
          rw [hg2] at HS2
          clear HST l3 HG hfull hN hbq HG1
          by_cases h0 : 0 < N
          · have r2 := l2 h0
            simp only [if_true, if_false, Bool.false_eq_true] at r2
            have r3 : decide (o4 < p) = false := by simp; omega
            have r4 : decide (0 < N) = true := decide_eq_true h0
            obtain rfl := hopn h0
            clear l1 l2 hpos r2 hopn
            cases g2
            all_goals (
              go_wp2
              case roundEnd =>
                go_roundw
                case rel => exact ⟨j + 1, by omega, by go_num, by rw [HS2.out]; rfl, GB.out⟩
                case measure => simp [intOf]; omega)
          · have r4 : decide (0 < N) = false := decide_eq_false h0
            clear l1 l2 hpos hopn
            cases g1 <;> cases g2
            all_goals (
              go_wp2
              case roundEnd =>
                go_roundw
                case rel => exact ⟨j + 1, by omega, by go_num, by rw [HS2.out]; rfl, GB.out⟩
                case measure => simp [intOf]; omega)
    · obtain rfl : n = j := by omega
      have i1 : ¬ (n : Int) < (n : Int) := by omega
      go_wp2
      go_ret
      exact ⟨rfl, BR.out⟩
set_option maxRecDepth 10000 in
set_option maxHeartbeats 4000000 in
theorem filled_f (A B : Option Addr) (n c m d : Nat) (sd : List Ord) (t : List Trd) (p : Int) (w : World) (hA : Row ordT w A n sd) (hB : Row trdT w B m t) (hF : Fair false sd t p) (hq : ∀ x ∈ t, 1 ≤ x.quantity ∧ x.quantity ≤ 1000000) (hm : m ≤ 1000000) :
    Calls Try.prog 10 #[.slice A n c, .slice B m d, .bool false, .int .i64 p] w fun e w' => e = .returned (.bool true) ∧ Bel w w' := by
  have hn' := hA.2.1
  have HA := hid_ hA
  have HB := hid_ hB
  have HF := hid_ hF
  have HQ := hid_ hq
  have HL := hid_ hA.1
  have HT := hid_ hB.1
  clear hA hB hF hq
  go_enter Try.func10, Try.ntmps10
  go_wp2_with fail
  go_loopw [9, 10] (fun g i wr => ∃ j : Nat, j ≤ n ∧ i = .int .i64 j ∧ g = .bool (opn false t (sd.take j)) ∧ Bel w wr) (fun _ i _ => n - (intOf i).toNat)
  case atStart => exact ⟨0, Nat.zero_le _, rfl, rfl, Bel.refl _⟩
  case round =>
    obtain ⟨j, hj, rfl, rfl, hbr⟩ := hrel
    obtain ⟨wo, hwo⟩ : ∃ wo, wo = wr := ⟨_, rfl⟩
    subst hwo
    have BR := hid_ hbr
    by_cases hjn : j < n
    · obtain ⟨ad, o0, o1, o2, o3, o4, o5, rfl, ho, d0, d1, d2, d3, d4, d5⟩ := (HA.out.bel hbr).ord hjn
      have HO := hid_ ho
      have HST := hid_ (opn_step (b := false) (t := t) ho)
      have i0 : (0 : Int) ≤ (j : Int) := by omega
      have i1 : (j : Int) < (n : Int) := by omega
      obtain ⟨g1, hg1⟩ : ∃ g, opn false t (sd.take j) = g := ⟨_, rfl⟩
      rw [hg1]
      have HG1 := hid_ hg1
      rw [hg1] at HST
      clear ho hbr hg1
      go_wp2_with fail
      go_loopw [11, 12] (fun x i wq => ∃ k : Nat, k ≤ m ∧ i = .int .i64 k ∧ x = .int .i64 (qN false (t.take k) o0) ∧ Bel wo wq) (fun _ i _ => m - (intOf i).toNat)
      case atStart => exact ⟨0, Nat.zero_le _, rfl, rfl, Bel.refl _⟩
      case round =>
        obtain ⟨k, hk, rfl, rfl, hbq⟩ := hrel
        have d0 := hbq.cell_ d0
        have d4 := hbq.cell_ d4
        have d5 := hbq.cell_ d5
        have BQ := hid_ hbq
        have GB := hid_ (BR.out.trans hbq)
        clear d1 d2 d3
        by_cases hkm : k < m
        · obtain ⟨ad2, tb, ts, tq, tp, rfl, hx, f0, f1, f2, f3⟩ := (HB.out.bel GB.out).trd hkm
          have HS := hid_ (qS_step hx o0)
          have h1 := HQ.out _ (List.mem_of_getElem? hx)
          have h2 := qN_le false HQ.out o0 k
          simp only at h1
          have hw : wrap64 (qN false (t.take k) o0 + tq) = qN false (t.take k) o0 + tq := by unfold wrap64; omega
          obtain ⟨N, hN⟩ : ∃ N, qN false (t.take k) o0 = N := ⟨_, rfl⟩
          rw [hN] at HS hw
          rw [hN]
          clear h1 h2 hN hx hbq
          have k0 : (0 : Int) ≤ (k : Int) := by omega
          have k1 : (k : Int) < (m : Int) := by omega
          by_cases e : ts = o0
          · have HS2 : Hid (qN false (t.take (k + 1)) o0 = N + tq) := hid_ (by rw [HS.out, if_pos e])
            have e1 : (ts == o0) = true := by simpa using e
            have e2 : decide (ts = o0) = true := decide_eq_true e
            clear HS e
            go_upto_region 9 with (fail)
            go_quiet (fail)
            go_wp2
            case roundEnd =>
              go_roundw
              case rel => exact ⟨k + 1, by omega, by go_num, by first | rw [HS2.out, hw] | rw [HS2.out], by first | exact BQ.out.drewN _ | exact (BQ.out.drewN _).drew | exact (BQ.out.drewN _).drewN _⟩
              case measure => simp [intOf]; omega
          · have HS2 : Hid (qN false (t.take (k + 1)) o0 = N) := hid_ (by rw [HS.out, if_neg e]; omega)
            have e1 : (ts == o0) = false := by simpa using e
            have e2 : decide (ts = o0) = false := decide_eq_false e
            clear HS e
            go_upto_region 9 with (fail)
            go_quiet (fail)
            go_wp2
            case roundEnd =>
              go_roundw
              case rel => exact ⟨k + 1, by omega, by go_num, by rw [HS2.out], BQ.out.drewN _⟩
              case measure => simp [intOf]; omega
        · obtain rfl : m = k := by omega
          have hfull : t.take m = t := by rw [← HT.out, List.take_length]
          rw [hfull]
          obtain ⟨l1, l2, l3⟩ := HF.out j _ HO.out
          have HG := hid_ (fun h => (opn_at (b := false) (t := t) (l := sd) (j := j) h))
          simp only at l1 l2
          have hpos : 0 ≤ qN false t o0 := by have := (qN_le false HQ.out o0 m).1; rw [hfull] at this; exact this
          obtain ⟨N, hN⟩ : ∃ N, qN false t o0 = N := ⟨_, rfl⟩
          have hopn : 0 < N → g1 = false := by
            intro h0
            cases hg : g1
            · rfl
            · obtain ⟨i, o', a1, a2, a3⟩ := HG.out (by rw [HG1.out, hg])
              exact absurd (by simp only; rw [hN]; exact h0) (l3 i o' a1 a2 a3)
          have HS2 : Hid (opn false t (sd.take (j + 1)) = (g1 || decide (N < o5))) := hid_ (by rw [HST.out, ← hN])
          rw [hN] at l1 l2 hpos
          rw [hN]
          have k2 : ¬ (m : Int) < (m : Int) := by omega
          have r1 : decide (o5 < N) = false := by simp; omega
          obtain ⟨g2, hg2⟩ : ∃ g, decide (N < o5) = g := ⟨_, rfl⟩
          rw [hg2] at HS2
          clear HST l3 HG hfull hN hbq HG1
          by_cases h0 : 0 < N
          · have r2 := l2 h0
            simp only [if_true, if_false, Bool.false_eq_true] at r2
            have r3 : decide (p < o4) = false := by simp; omega
            have r4 : decide (0 < N) = true := decide_eq_true h0
            obtain rfl := hopn h0
            clear l1 l2 hpos r2 hopn
            cases g2
            all_goals (
              go_wp2
              case roundEnd =>
                go_roundw
                case rel => exact ⟨j + 1, by omega, by go_num, by rw [HS2.out]; rfl, GB.out⟩
                case measure => simp [intOf]; omega)
          · have r4 : decide (0 < N) = false := decide_eq_false h0
            clear l1 l2 hpos hopn
            cases g1 <;> cases g2
            all_goals (
              go_wp2
              case roundEnd =>
                go_roundw
                case rel => exact ⟨j + 1, by omega, by go_num, by rw [HS2.out]; rfl, GB.out⟩
                case measure => simp [intOf]; omega)
    · obtain rfl : n = j := by omega
      have i1 : ¬ (n : Int) < (n : Int) := by omega
      go_wp2
      go_ret
      exact ⟨rfl, BR.out⟩
end Go.Proofs.Ytnpcnahnkfdgpaa
