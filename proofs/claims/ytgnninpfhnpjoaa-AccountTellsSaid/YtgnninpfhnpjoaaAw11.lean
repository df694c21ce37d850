/- The head of layer 11's statements: awake. -/
import Derived.Test.YtgnninpfhnpjoaaAc8
import Derived.Test.YtgnninpfhnpjoaaTyLeg
import Derived.Test.YtgnninpfhnpjoaaPo2
import Derived.Test.YtgnninpfhnpjoaaTot
set_option linter.unusedSimpArgs false
set_option linter.unusedVariables false
namespace Go.Proofs.Ytgnninpfhnpjoaa
open Go.RowKit Go.Lib
def accShort (a : Acc) : Bool := decide (a.who.size ≤ 100) && decide (a.asset.size ≤ 100)
def legShort (a : Due) : Bool := decide (a.who.size ≤ 100) && decide (a.asset.size ≤ 100)
def few11 (l : List Acc) (legs : List Due) : Bool := decide (l.length ≤ 200) && (decide (legs.length ≤ 210) && (l.all accShort && legs.all legShort))
theorem few11_iff {l : List Acc} {legs : List Due} : few11 l legs = true ↔ l.length ≤ 200 ∧ legs.length ≤ 210 ∧ (∀ a ∈ l, a.who.size ≤ 100 ∧ a.asset.size ≤ 100) ∧ ∀ a ∈ legs, a.who.size ≤ 100 ∧ a.asset.size ≤ 100 := by
  unfold few11 accShort legShort
  simp only [Bool.and_eq_true, decide_eq_true_eq, List.all_eq_true]
theorem few11_no {l : List Acc} {legs : List Due} (h : ¬ (l.length ≤ 200 ∧ legs.length ≤ 210 ∧ l.all accShort = true ∧ legs.all legShort = true)) : few11 l legs = false := by
  cases h2 : few11 l legs
  · rfl
  · unfold few11 at h2
    simp only [Bool.and_eq_true, decide_eq_true_eq] at h2
    exact absurd h2 h
theorem few11_yes {l : List Acc} {legs : List Due} (h : l.length ≤ 200 ∧ legs.length ≤ 210 ∧ l.all accShort = true ∧ legs.all legShort = true) : few11 l legs = true := by
  unfold few11
  simp only [Bool.and_eq_true, decide_eq_true_eq]
  exact h
set_option maxRecDepth 10000 in
set_option maxHeartbeats 2000000 in
theorem few11_any (A : Option Addr) (n c : Nat) (l : List Acc) (B : Option Addr) (m d : Nat) (legs : List Due) (w : World) (hA : Row accT w A n l) (hB : Row legT w B m legs) :
    Calls Try.prog 30 #[.slice A n c, .slice B m d] w fun e w' => e = .returned (.bool (few11 l legs)) ∧ Bel w w' := by
  have hn63 := hA.2.1
  have hm63 := hB.2.1
  have HA := hid_ hA
  have HB := hid_ hB
  have HLA := hid_ hA.1
  have HLB := hid_ hB.1
  obtain ⟨q, hq⟩ : ∃ q, few11 l legs = q := ⟨_, rfl⟩
  rw [hq]
  have HQ := hid_ hq
  clear hq hA hB
  go_enter Try.func30, Try.ntmps30
  by_cases h1 : 200 < n
  · have HF : Hid (q = false) := hid_ (by rw [← HQ.out]; exact few11_no (fun h => by have := h.1; rw [HLA.out] at this; omega))
    go_wp2
    go_ret
    exact ⟨by rw [HF.out]; rfl, Bel.refl _⟩
  have d1 : decide (200 < n) = false := decide_eq_false h1
  by_cases h2 : 210 < m
  · have HF : Hid (q = false) := hid_ (by rw [← HQ.out]; exact few11_no (fun h => by have := h.2.1; rw [HLB.out] at this; omega))
    go_wp2
    go_ret
    exact ⟨by rw [HF.out]; rfl, Bel.refl _⟩
  have d2 : decide (210 < m) = false := decide_eq_false h2
  have HN : Hid (n ≤ 200 ∧ m ≤ 210) := hid_ (by omega)
  go_wp2_with fail
  clear d1 d2 h1 h2
  go_loop [5] (fun i => ∃ k : Nat, k ≤ n ∧ i = .int .i64 k ∧ Hid ((l.take k).all accShort = true)) (fun i => n - (intOf i).toNat)
  case atStart => exact ⟨0, Nat.zero_le _, rfl, hid_ rfl⟩
  case round =>
    obtain ⟨j, hj, rfl, hx⟩ := hrel
    by_cases hjm : j < n
    · obtain ⟨ad, who, asset, balance, held, rfl, ho, e0, e1, e2, e3⟩ := HA.out.acc hjm
      have HS := hid_ (all_take' accShort l j ho)
      have HFA := hid_ (all_false' accShort l j ho)
      have HO := hid_ ho
      clear ho
      have i0 : (0 : Int) ≤ (j : Int) := by omega
      have i1 : (j : Int) < (n : Int) := by omega
      by_cases q1 : (100 : Int) < (who.size : Int)
      · have HF : Hid (q = false) := hid_ (by rw [← HQ.out]; exact few11_no (fun h => by rw [HFA.out (by unfold accShort; rw [decide_eq_false (show ¬ who.size ≤ 100 by omega)]; rfl)] at h; simp at h))
        clear hx HS HFA HO
        go_wp2
        go_ret
        exact ⟨by rw [HF.out]; rfl, Bel.refl _⟩
      by_cases q2 : (100 : Int) < (asset.size : Int)
      · have HF : Hid (q = false) := hid_ (by rw [← HQ.out]; exact few11_no (fun h => by rw [HFA.out (by unfold accShort; rw [decide_eq_false (show ¬ asset.size ≤ 100 by omega), Bool.and_false])] at h; simp at h))
        clear hx HS HFA HO
        go_wp2
        go_ret
        exact ⟨by rw [HF.out]; rfl, Bel.refl _⟩
      · have HX : Hid ((l.take (j + 1)).all accShort = true) := hid_ (by rw [HS.out, hx.out]; unfold accShort; rw [decide_eq_true (show who.size ≤ 100 by omega), decide_eq_true (show asset.size ≤ 100 by omega)]; rfl)
        clear hx HS HFA HO
        go_wp2
        case roundEnd =>
          go_round
          case rel => exact ⟨j + 1, by omega, by go_num, HX⟩
          case measure => simp [intOf]; omega
    · obtain rfl : j = n := by omega
      have HX1 : Hid (l.all accShort = true) := hid_ (by
        have h2 := hx.out
        rw [List.take_of_length_le (by rw [HLA.out]; exact Nat.le_refl _)] at h2
        exact h2)
      clear hx hjm
      go_wp2_with fail
      go_loop [6] (fun i => ∃ k : Nat, k ≤ m ∧ i = .int .i64 k ∧ Hid ((legs.take k).all legShort = true)) (fun i => m - (intOf i).toNat)
      case atStart => exact ⟨0, Nat.zero_le _, rfl, hid_ rfl⟩
      case round =>
        obtain ⟨j, hj, rfl, hx⟩ := hrel
        by_cases hjm : j < m
        · obtain ⟨ad, who, asset, amount, rfl, ho, e0, e1, e2⟩ := HB.out.leg hjm
          have HS := hid_ (all_take' legShort legs j ho)
          have HFA := hid_ (all_false' legShort legs j ho)
          have HO := hid_ ho
          clear ho
          have i0 : (0 : Int) ≤ (j : Int) := by omega
          have i1 : (j : Int) < (m : Int) := by omega
          by_cases q1 : (100 : Int) < (who.size : Int)
          · have HF : Hid (q = false) := hid_ (by rw [← HQ.out]; exact few11_no (fun h => by rw [HFA.out (by unfold legShort; rw [decide_eq_false (show ¬ who.size ≤ 100 by omega)]; rfl)] at h; simp at h))
            clear hx HS HFA HO
            go_wp2
            go_ret
            exact ⟨by rw [HF.out]; rfl, Bel.refl _⟩
          by_cases q2 : (100 : Int) < (asset.size : Int)
          · have HF : Hid (q = false) := hid_ (by rw [← HQ.out]; exact few11_no (fun h => by rw [HFA.out (by unfold legShort; rw [decide_eq_false (show ¬ asset.size ≤ 100 by omega), Bool.and_false])] at h; simp at h))
            clear hx HS HFA HO
            go_wp2
            go_ret
            exact ⟨by rw [HF.out]; rfl, Bel.refl _⟩
          · have HX : Hid ((legs.take (j + 1)).all legShort = true) := hid_ (by rw [HS.out, hx.out]; unfold legShort; rw [decide_eq_true (show who.size ≤ 100 by omega), decide_eq_true (show asset.size ≤ 100 by omega)]; rfl)
            clear hx HS HFA HO
            go_wp2
            case roundEnd =>
              go_round
              case rel => exact ⟨j + 1, by omega, by go_num, HX⟩
              case measure => simp [intOf]; omega
        · obtain rfl : j = m := by omega
          have HX2 : Hid (legs.all legShort = true) := hid_ (by
            have h2 := hx.out
            rw [List.take_of_length_le (by rw [HLB.out]; exact Nat.le_refl _)] at h2
            exact h2)
          clear hx hjm
          have HF : Hid (q = true) := hid_ (by
            rw [← HQ.out]
            exact few11_yes ⟨by rw [HLA.out]; exact HN.out.1, by rw [HLB.out]; exact HN.out.2, HX1.out, HX2.out⟩)
          go_wp2
          go_ret
          exact ⟨by rw [HF.out]; rfl, Bel.refl _⟩
end Go.Proofs.Ytgnninpfhnpjoaa
set_option linter.unusedSimpArgs false
set_option linter.unusedVariables false
namespace Go.Proofs.Ytgnninpfhnpjoaa
open Go.RowKit Go.Lib
abbrev annA : ByteArray := ⟨#[97, 110, 110]⟩
abbrev bobA : ByteArray := ⟨#[98, 111, 98]⟩
abbrev wldA : ByteArray := ⟨#[119, 111, 114, 108, 100]⟩
abbrev usdA : ByteArray := ⟨#[85, 83, 68]⟩
abbrev lgA : List Due := [⟨wldA, usdA, -500⟩, ⟨annA, usdA, 500⟩]
abbrev lgB : List Due := [⟨annA, usdA, -300⟩, ⟨bobA, usdA, 300⟩]
abbrev acA : List Acc := [⟨annA, usdA, 500, 0⟩, ⟨wldA, usdA, -500, 0⟩]
abbrev acH : List Acc := [⟨annA, usdA, 500, 300⟩, ⟨wldA, usdA, -500, 0⟩]
theorem aw11a : postE [] lgA = 0 := by decide +kernel
theorem aw11b : postO [] lgA = acA := by kernel_rfl
theorem aw11c : mvE ⟨annA, usdA⟩ 300 (if wrap64 ((findA acA ⟨annA, usdA⟩).balance - (findA acA ⟨annA, usdA⟩).held) < 300 then 111 else 0) = 0 := by decide +kernel
theorem aw11d : mvO acA ⟨annA, usdA⟩ 300 (if wrap64 ((findA acA ⟨annA, usdA⟩).balance - (findA acA ⟨annA, usdA⟩).held) < 300 then 111 else 0) 300 = acH := by kernel_rfl
theorem aw11e : postE acH lgB = 111 := by decide +kernel
theorem aw11f : mvE ⟨annA, usdA⟩ 301 (if (findA acH ⟨annA, usdA⟩).held < 301 then 112 else 0) = 112 := by decide +kernel
theorem aw11g : sumV (balA acH usdA) = 0 := by decide +kernel
theorem aw11h : sumE (balA acH usdA) = 0 := by decide +kernel
theorem aw11i : chkAE acH = 0 := by decide +kernel
theorem aw11j : findA acH ⟨annA, usdA⟩ = ⟨annA, usdA, 500, 300⟩ := by kernel_rfl
theorem aw11r (W : World) : (Instr.field 49 (.agg #[.string annA, .string usdA, .int .i64 500, .int .i64 300]) 3).run Try.prog W = .ok (.int .i64 300) W := by kernel_rfl
theorem aw11k : Srt acA := by unfold Srt; decide +kernel
theorem aw11l : Srt acH := by unfold Srt; decide +kernel
theorem aw11m : Srt [] := List.Pairwise.nil
theorem aw11n : ∀ x ∈ lgA, x.who.size ≤ 9223372036854775807 ∧ x.asset.size ≤ 9223372036854775807 ∧ i64w x.amount := by unfold i64w; decide +kernel
theorem aw11o : ∀ x ∈ lgB, x.who.size ≤ 9223372036854775807 ∧ x.asset.size ≤ 9223372036854775807 ∧ i64w x.amount := by unfold i64w; decide +kernel
theorem aw11p : ∀ a ∈ acH, i64w a.balance := by unfold i64w; decide +kernel
theorem aw11q : ∀ a ∈ acH, a.who.size ≤ 9223372036854775807 ∧ a.asset.size ≤ 9223372036854775807 := by decide +kernel
set_option maxRecDepth 10000 in
set_option maxHeartbeats 4000000 in
theorem awake11 (w : World) : Calls Try.prog 29 #[] w fun e w' => e = .returned (.bool true) ∧ Bel w w' := by
  have RX : Row legT (w.alloc (.cells #[.string wldA, .string usdA, .int .i64 (-500), .string annA, .string usdA, .int .i64 500] 52)) (some ⟨w.heap.size, 0, none⟩) 2 lgA := Row.lit (T := legT) w lgA (0, 0) (by decide)
  have HRX := hid_ RX
  have FB := hid_ ((Bel.refl w).alloc (.cells #[.string wldA, .string usdA, .int .i64 (-500), .string annA, .string usdA, .int .i64 500] 52))
  clear RX
  go_enter Try.func29, Try.ntmps29
  go_wp2_with fail
  refine (post_any none 0 0 [] (some ⟨w.heap.size, 0, none⟩) 2 2 lgA _ (Row.none_ _ _ _) aw11m (by decide) HRX.out aw11n (by simp)).mono ?_
  rintro e v1 ⟨v, rfl, o, b⟩
  have bb := b
  rw [aw11a]
  rw [aw11b] at o
  obtain ⟨A1, c1, rfl, hc1, r1⟩ := o.reads
  have r1 : Row accT v1 A1 2 acA := r1
  have HC1 := hid_ hc1
  clear HRX o hc1
  have f1B := hid_ (FB.out.trans bb)
  have f1L := hid_ r1
  clear b bb FB r1
  go_wp2_with fail
  refine (hold_any A1 2 c1 acA annA usdA 300 _ f1L.out HC1.out aw11k (by decide) (by decide) (by decide)).mono ?_
  rintro e v2 ⟨v, rfl, o, b⟩
  have bb := b
  rw [aw11c]
  rw [aw11d] at o
  obtain ⟨A2, c2, rfl, hc2, r2⟩ := o.reads
  have r2 : Row accT v2 A2 2 acH := r2
  have HC2 := hid_ hc2
  clear o hc2
  have f2B := hid_ (f1B.out.trans bb)
  have f2L := hid_ (f1L.out.bel bb)
  have f2H := hid_ r2
  clear b bb f1B f1L r2
  have RY : Row legT (v2.alloc (.cells #[.string annA, .string usdA, .int .i64 (-300), .string bobA, .string usdA, .int .i64 300] 52)) (some ⟨v2.heap.size, 0, none⟩) 2 lgB := Row.lit (T := legT) v2 lgB (0, 0) (by decide)
  have HRY := hid_ RY
  clear RY
  go_wp2_with fail
  refine (post_any A2 2 c2 acH (some ⟨v2.heap.size, 0, none⟩) 2 2 lgB _ (f2H.out.bel ((Bel.refl v2).alloc _)) aw11l (by decide) HRY.out aw11o aw11p).mono ?_
  rintro e v3 ⟨v, rfl, o, b⟩
  have bb := ((Bel.refl v2).alloc _).trans b
  rw [aw11e]
  clear HRY o
  have f3B := hid_ (f2B.out.trans bb)
  have f3L := hid_ (f2L.out.bel bb)
  have f3H := hid_ (f2H.out.bel bb)
  clear b bb f2B f2L f2H
  go_wp2_with fail
  refine (free_any A2 2 c2 acH annA usdA 301 _ f3H.out HC2.out aw11l (by decide) (by decide) (by decide)).mono ?_
  rintro e v4 ⟨v, rfl, o, b⟩
  have bb := b
  rw [aw11f]
  clear o
  have f4B := hid_ (f3B.out.trans bb)
  have f4L := hid_ (f3L.out.bel bb)
  have f4H := hid_ (f3H.out.bel bb)
  clear b bb f3B f3L f3H
  go_wp2_with fail
  refine (total_any A2 2 c2 acH usdA _ f4H.out (by decide) aw11p).mono ?_
  rintro e v5 ⟨rfl, b⟩
  have bb := b
  rw [aw11g, aw11h]
  have f5B := hid_ (f4B.out.trans bb)
  have f5L := hid_ (f4L.out.bel bb)
  have f5H := hid_ (f4H.out.bel bb)
  clear b bb f4B f4L f4H
  obtain ⟨adh0, wh0, sh0, bh0, eh0, e4, ho, h00, h01, h02, h03⟩ := f5L.out.acc (k := 0) (by decide)
  cases e4
  cases ho
  simp [Addr.add] at h00 h01 h02 h03
  obtain ⟨adh1, wh1, sh1, bh1, eh1, e4, ho, h10, h11, h12, h13⟩ := f5L.out.acc (k := 1) (by decide)
  cases e4
  cases ho
  simp [Addr.add] at h10 h11 h12 h13
  obtain ⟨adc0, wc0, sc0, bc0, ec0, e4, ho, c00, c01, c02, c03⟩ := f5H.out.acc (k := 0) (by decide)
  cases e4
  cases ho
  simp [Addr.add] at c00 c01 c02 c03
  go_wp2_with fail
  refine (checkA_any _ 2 c2 acH _ f5H.out aw11q).mono ?_
  rintro e v6 ⟨rfl, b⟩
  have bb := b
  rw [aw11i]
  have f6B := hid_ (f5B.out.trans bb)
  have f6L := hid_ (f5L.out.bel bb)
  have f6H := hid_ (f5H.out.bel bb)
  clear b bb f5B f5L f5H h00 h01 h02 h03 h10 h11 h12 h13 c00 c01 c02 c03
  go_wp2_with fail
  refine (find_any _ 2 c2 acH annA usdA _ f6H.out aw11l).mono ?_
  rintro e v7 ⟨rfl, b⟩
  have bb := b
  rw [aw11j, show (accC ⟨annA, usdA, 500, 300⟩).toArray = #[.string annA, .string usdA, .int .i64 500, .int .i64 300] from rfl]
  have f7B := hid_ (f6B.out.trans bb)
  have f7L := hid_ (f6L.out.bel bb)
  have f7H := hid_ (f6H.out.bel bb)
  clear b bb f6B f6L f6H
  have hfd := aw11r v7
  go_wp2
  go_ret
  exact ⟨rfl, f7B.out⟩
end Go.Proofs.Ytgnninpfhnpjoaa
