/- few, and amounts, of layer 17's statements. -/
import Derived.Test.YtgnninpfhnpjoaaNt1
import Derived.Test.YtgnninpfhnpjoaaWrl
import Derived.Test.YtgnninpfhnpjoaaNv1
set_option linter.unusedSimpArgs false
set_option linter.unusedVariables false
namespace Go.Proofs.Ytgnninpfhnpjoaa
open Go.RowKit Go.Lib
def dueShort (a : Due) : Bool := decide (a.who.size ≤ 100) && decide (a.asset.size ≤ 100)
def few17 (l : List Due) : Bool := decide (l.length ≤ 100) && l.all dueShort
theorem few17_iff {l : List Due} : few17 l = true ↔ l.length ≤ 100 ∧ ∀ a ∈ l, a.who.size ≤ 100 ∧ a.asset.size ≤ 100 := by
  unfold few17 dueShort
  simp only [Bool.and_eq_true, decide_eq_true_eq, List.all_eq_true]
theorem few17_no {l : List Due} (h : ¬ (l.length ≤ 100 ∧ l.all dueShort = true)) : few17 l = false := by
  cases h2 : few17 l
  · rfl
  · unfold few17 at h2
    simp only [Bool.and_eq_true, decide_eq_true_eq] at h2
    exact absurd h2 h
set_option maxRecDepth 10000 in
set_option maxHeartbeats 2000000 in
theorem few17_any (A : Option Addr) (n c : Nat) (l : List Due) (w : World) (hA : Row dueT w A n l) :
    Calls Try.prog 16 #[.slice A n c] w fun e w' => e = .returned (.bool (few17 l)) ∧ Bel w w' := by
  have hn63 := hA.2.1
  have HA := hid_ hA
  have HL := hid_ hA.1
  obtain ⟨q, hq⟩ : ∃ q, few17 l = q := ⟨_, rfl⟩
  rw [hq]
  have HQ := hid_ hq
  clear hq hA
  go_enter Try.func16, Try.ntmps16
  by_cases h1 : 100 < n
  · have HF : Hid (q = false) := hid_ (by rw [← HQ.out]; exact few17_no (fun h => by have := h.1; rw [HL.out] at this; omega))
    go_wp2
    go_ret
    exact ⟨by rw [HF.out]; rfl, Bel.refl _⟩
  have d1 : decide (100 < n) = false := decide_eq_false h1
  have HN : Hid (n ≤ 100) := hid_ (by omega)
  go_wp2_with fail
  clear d1 h1
  go_loop [3] (fun i => ∃ k : Nat, k ≤ n ∧ i = .int .i64 k ∧ Hid ((l.take k).all dueShort = true)) (fun i => n - (intOf i).toNat)
  case atStart => exact ⟨0, Nat.zero_le _, rfl, hid_ rfl⟩
  case round =>
    obtain ⟨j, hj, rfl, hx⟩ := hrel
    by_cases hjm : j < n
    · obtain ⟨ad, who, asset, amount, rfl, ho, e0, e1, e2⟩ := HA.out.due hjm
      have HS := hid_ (all_take' dueShort l j ho)
      have HFA := hid_ (all_false' dueShort l j ho)
      clear ho
      have i0 : (0 : Int) ≤ (j : Int) := by omega
      have i1 : (j : Int) < (n : Int) := by omega
      by_cases q1 : (100 : Int) < (who.size : Int)
      · have HF : Hid (q = false) := hid_ (by rw [← HQ.out]; exact few17_no (fun h => by rw [HFA.out (by unfold dueShort; rw [decide_eq_false (show ¬ who.size ≤ 100 by omega)]; rfl)] at h; simp at h))
        clear hx HS HFA
        go_wp2
        go_ret
        exact ⟨by rw [HF.out]; rfl, Bel.refl _⟩
      by_cases q2 : (100 : Int) < (asset.size : Int)
      · have HF : Hid (q = false) := hid_ (by rw [← HQ.out]; exact few17_no (fun h => by rw [HFA.out (by unfold dueShort; rw [decide_eq_false (show ¬ asset.size ≤ 100 by omega), Bool.and_false])] at h; simp at h))
        clear hx HS HFA
        go_wp2
        go_ret
        exact ⟨by rw [HF.out]; rfl, Bel.refl _⟩
      · have HX : Hid ((l.take (j + 1)).all dueShort = true) := hid_ (by rw [HS.out, hx.out]; unfold dueShort; rw [decide_eq_true (show who.size ≤ 100 by omega), decide_eq_true (show asset.size ≤ 100 by omega)]; rfl)
        clear hx HS HFA
        go_wp2
        case roundEnd =>
          go_round
          case rel => exact ⟨j + 1, by omega, by go_num, HX⟩
          case measure => simp [intOf]; omega
    · obtain rfl : j = n := by omega
      have HF : Hid (q = true) := hid_ (by
        have h2 := hx.out
        rw [List.take_of_length_le (by rw [HL.out]; exact Nat.le_refl _)] at h2
        rw [← HQ.out]
        unfold few17
        rw [h2, HL.out, decide_eq_true HN.out]
        rfl)
      clear hx hjm
      go_wp2
      go_ret
      exact ⟨by rw [HF.out]; rfl, Bel.refl _⟩
set_option maxRecDepth 10000 in
set_option maxHeartbeats 2000000 in
theorem amts_any (A : Option Addr) (n c : Nat) (l : List Due) (p0 p1 : ByteArray) (w : World) (hA : Row dueT w A n l) (hn : n ≤ 90000) :
    Calls Try.prog 28 #[.slice A n c, .string p0, .string p1] w fun e w' => ∃ v, e = .returned v ∧ Own i64T w' w.heap.size v (amts l ⟨p0, p1⟩) ∧ Bel w w' := by
  have hn63 := hA.2.1
  have HA := hid_ hA
  have HL := hid_ hA.1
  have HN := hid_ hn
  clear hA hn
  go_enter Try.func28, Try.ntmps28
  go_wp2_with fail
  go_loopw [7, 8] (fun v i wr => ∃ j : Nat, j ≤ n ∧ i = .int .i64 j ∧ Hid (Own i64T wr w.heap.size v (amts (l.take j) ⟨p0, p1⟩)) ∧ Hid (Bel w wr)) (fun _ i _ => n - (intOf i).toNat)
  case atStart => exact ⟨0, Nat.zero_le _, rfl, hid_ (Own.nil_ _ _ _), hid_ (Bel.refl _)⟩
  case round =>
    obtain ⟨j, hj, rfl, hO, hB⟩ := hrel
    by_cases hjn : j < n
    · obtain ⟨ad, k0, k1, k2, rfl, ho, d0, d1, d2⟩ := (HA.out.bel hB.out).due hjn
      have HST := hid_ (amts_step ho ⟨p0, p1⟩)
      clear ho
      have i0 : (0 : Int) ≤ (j : Int) := by omega
      have i1 : (j : Int) < (n : Int) := by omega
      obtain ⟨e1, he1⟩ : ∃ e1, (k0.toList == p0.toList) = e1 := ⟨_, rfl⟩
      obtain ⟨e2, he2⟩ : ∃ e2, (k1.toList == p1.toList) = e2 := ⟨_, rfl⟩
      have h1 := he1
      have h2 := he2
      rw [bytesEq] at h1 h2
      have HEQ : Hid ((e1 && e2) = decide ((⟨k0, k1⟩ : Plc) = ⟨p0, p1⟩)) := hid_ (by rw [← h1, ← h2, ← Bool.decide_and]; simp only [Plc.mk.injEq])
      clear h1 h2
      cases e1
      · have HF : Hid (amts (l.take (j + 1)) ⟨p0, p1⟩ = amts (l.take j) ⟨p0, p1⟩) := hid_ (by rw [HST.out, if_neg (fun e => by have := HEQ.out; rw [decide_eq_true (show (⟨k0, k1⟩ : Plc) = ⟨p0, p1⟩ from e)] at this; cases this), List.append_nil])
        clear HST HEQ
        go_wp2
        case roundEnd =>
          go_round
          case rel => exact ⟨j + 1, by omega, by go_num, hid_ (by rw [HF.out]; exact hO.out), hB⟩
          case measure => simp [intOf]; omega
      · cases e2
        · have HF : Hid (amts (l.take (j + 1)) ⟨p0, p1⟩ = amts (l.take j) ⟨p0, p1⟩) := hid_ (by rw [HST.out, if_neg (fun e => by have := HEQ.out; rw [decide_eq_true (show (⟨k0, k1⟩ : Plc) = ⟨p0, p1⟩ from e)] at this; cases this), List.append_nil])
          clear HST HEQ
          go_wp2
          case roundEnd =>
            go_round
            case rel => exact ⟨j + 1, by omega, by go_num, hid_ (by rw [HF.out]; exact hO.out), hB⟩
            case measure => simp [intOf]; omega
        · have HF : Hid (amts (l.take (j + 1)) ⟨p0, p1⟩ = amts (l.take j) ⟨p0, p1⟩ ++ [k2]) := hid_ (by rw [HST.out, if_pos]; exact of_decide_eq_true HEQ.out.symm)
          have HSL : Hid (((amts (l.take j) ⟨p0, p1⟩).length + 1) * 8 ≤ 140737488355328) := hid_ (by
            have h1 := amts_len (l.take j) ⟨p0, p1⟩
            have h2 : (l.take j).length ≤ j := by rw [List.length_take]; omega
            have h3 := HN.out
            omega)
          clear HST HEQ
          go_wp2_with (at_builtin; refine wpApp (w0 := w) i64S rfl _ _ rfl _ (amts (l.take j) ⟨p0, p1⟩) [k2] (some ⟨wr.heap.size, 0, none⟩) 1 1 rfl rfl (hO.out.alloc_ _) (Row.one (T := i64T) k2 rfl rfl) (hB.out.alloc _) HSL.out ?_; intro v1 x1 hO1 hb1 _ _)
          case roundEnd =>
            go_round
            case rel => exact ⟨j + 1, by omega, by go_num, hid_ (by rw [HF.out]; exact hO1), hid_ hb1⟩
            case measure => simp [intOf]; omega
    · obtain rfl : n = j := by omega
      have hO2 := hO.out
      rw [show l.take n = l from List.take_of_length_le (by rw [HL.out]; exact Nat.le_refl _)] at hO2
      have HO := hid_ hO2
      clear hO hO2 hjn hj
      go_wp2
      go_ret
      exact ⟨_, rfl, HO.out, hB.out⟩
end Go.Proofs.Ytgnninpfhnpjoaa
