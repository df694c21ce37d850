/- Words that the statements of layer 18 share. -/
import Derived.Test.YtnpinolhhnpniaaNt3
import Derived.Test.YtnpinolhhnpniaaAc8
import Derived.Test.YtnpinolhhnpniaaNv1
import Derived.Test.YtnpinolhhnpniaaSt4
import Derived.Test.YtnpinolhhnpniaaSameAcc
import Derived.Test.YtnpinolhhnpniaaOpLeg
import Derived.Test.YtnpinolhhnpniaaOpDue
set_option linter.unusedSimpArgs false
set_option linter.unusedVariables false
namespace Go.Proofs.Ytnpinolhhnpniaa
open Go.RowKit Go.Lib
def dueShort (a : Due) : Bool := decide (a.who.size ≤ 100) && decide (a.asset.size ≤ 100)
def few18 (l : List Acc) (ds : List Due) : Bool := decide (l.length ≤ 100) && (decide (ds.length ≤ 100) && (okL l && ds.all dueShort))
theorem few18_iff {l : List Acc} {ds : List Due} : few18 l ds = true ↔ l.length ≤ 100 ∧ ds.length ≤ 100 ∧ OkL l ∧ ∀ a ∈ ds, a.who.size ≤ 100 ∧ a.asset.size ≤ 100 := by
  unfold few18 dueShort
  rw [← okL_iff]
  simp only [Bool.and_eq_true, decide_eq_true_eq, List.all_eq_true]
theorem few18_no {l : List Acc} {ds : List Due} (h : ¬ (l.length ≤ 100 ∧ ds.length ≤ 100 ∧ okL l = true ∧ ds.all dueShort = true)) : few18 l ds = false := by
  cases h2 : few18 l ds
  · rfl
  · unfold few18 at h2
    simp only [Bool.and_eq_true, decide_eq_true_eq] at h2
    exact absurd h2 h
set_option maxRecDepth 10000 in
set_option maxHeartbeats 2000000 in
theorem few18_any (A : Option Addr) (n c : Nat) (l : List Acc) (B : Option Addr) (m d : Nat) (ds : List Due) (w : World) (hA : Row accT w A n l) (hB : Row dueT w B m ds) (hz : ∀ a ∈ l, a.who.size ≤ 9223372036854775807 ∧ a.asset.size ≤ 9223372036854775807) :
    Calls Try.prog 7 #[.slice A n c, .slice B m d] w fun e w' => e = .returned (.bool (few18 l ds)) ∧ Bel w w' := by
  have hn63 := hA.2.1
  have hm63 := hB.2.1
  have HA := hid_ hA
  have HB := hid_ hB
  have HL := hid_ hA.1
  have HLB := hid_ hB.1
  have HZ := hid_ hz
  obtain ⟨q, hq⟩ : ∃ q, few18 l ds = q := ⟨_, rfl⟩
  rw [hq]
  have HQ := hid_ hq
  clear hq hA hB hz
  go_enter Try.func7, Try.ntmps7
  by_cases h1 : 100 < n
  · have HF : Hid (q = false) := hid_ (by rw [← HQ.out]; exact few18_no (fun h => by have := h.1; rw [HL.out] at this; omega))
    go_wp2
    go_ret
    exact ⟨by rw [HF.out]; rfl, Bel.refl _⟩
  have d1 : decide (100 < n) = false := decide_eq_false h1
  by_cases h2 : 100 < m
  · have HF : Hid (q = false) := hid_ (by rw [← HQ.out]; exact few18_no (fun h => by have := h.2.1; rw [HLB.out] at this; omega))
    go_wp2
    go_ret
    exact ⟨by rw [HF.out]; rfl, Bel.refl _⟩
  have d2 : decide (100 < m) = false := decide_eq_false h2
  have HNN : Hid (n ≤ 100 ∧ m ≤ 100) := hid_ ⟨by omega, by omega⟩
  go_wp2_with fail
  refine (checkA_any A n c l w HA.out HZ.out).mono ?_
  rintro e w1 ⟨rfl, b1⟩
  have B1 := hid_ b1
  clear b1
  obtain ⟨ok, hok⟩ : ∃ b, okL l = b := ⟨_, rfl⟩
  rw [show chkAE l = if ok then 0 else 110 from by unfold chkAE; rw [hok]]
  cases ok
  · have HF : Hid (q = false) := hid_ (by rw [← HQ.out]; exact few18_no (fun h => by have := h.2.2.1; rw [hok] at this; cases this))
    rw [show (if false = true then (0 : Int) else 110) = 110 from rfl]
    clear hok
    go_wp2
    go_ret
    exact ⟨by rw [HF.out]; rfl, B1.out⟩
  rw [show (if true = true then (0 : Int) else 110) = 0 from rfl]
  have HOK := hid_ hok
  clear hok
  go_wp2_with fail
  clear d1 h1 d2 h2
  go_loop [5] (fun i => ∃ k : Nat, k ≤ m ∧ i = .int .i64 k ∧ Hid ((ds.take k).all dueShort = true)) (fun i => m - (intOf i).toNat)
  case atStart => exact ⟨0, Nat.zero_le _, rfl, hid_ rfl⟩
  case round =>
    obtain ⟨j, hj, rfl, hx⟩ := hrel
    by_cases hjm : j < m
    · obtain ⟨ad, who, asset, amount, rfl, ho, e0, e1, e2⟩ := (HB.out.bel B1.out).due hjm
      have HS := hid_ (all_take' dueShort ds j ho)
      have HFA := hid_ (all_false' dueShort ds j ho)
      clear ho
      have i0 : (0 : Int) ≤ (j : Int) := by omega
      have i1 : (j : Int) < (m : Int) := by omega
      by_cases q1 : (100 : Int) < (who.size : Int)
      · have HF : Hid (q = false) := hid_ (by rw [← HQ.out]; exact few18_no (fun h => by have h := h.2.2.2; rw [HFA.out (by unfold dueShort; rw [decide_eq_false (show ¬ who.size ≤ 100 by omega)]; rfl)] at h; cases h))
        clear hx HS HFA
        go_wp2
        go_ret
        exact ⟨by rw [HF.out]; rfl, B1.out⟩
      by_cases q2 : (100 : Int) < (asset.size : Int)
      · have HF : Hid (q = false) := hid_ (by rw [← HQ.out]; exact few18_no (fun h => by have h := h.2.2.2; rw [HFA.out (by unfold dueShort; rw [decide_eq_false (show ¬ asset.size ≤ 100 by omega), Bool.and_false])] at h; cases h))
        clear hx HS HFA
        go_wp2
        go_ret
        exact ⟨by rw [HF.out]; rfl, B1.out⟩
      · have HX : Hid ((ds.take (j + 1)).all dueShort = true) := hid_ (by rw [HS.out, hx.out]; unfold dueShort; rw [decide_eq_true (show who.size ≤ 100 by omega), decide_eq_true (show asset.size ≤ 100 by omega)]; rfl)
        clear hx HS HFA
        go_wp2
        case roundEnd =>
          go_round
          case rel => exact ⟨j + 1, by omega, by go_num, HX⟩
          case measure => simp [intOf]; omega
    · obtain rfl : j = m := by omega
      have HF : Hid (q = true) := hid_ (by
        have h2 := hx.out
        rw [List.take_of_length_le (by rw [HLB.out]; exact Nat.le_refl _)] at h2
        rw [← HQ.out]
        unfold few18
        rw [h2, HLB.out, HL.out, decide_eq_true HNN.out.1, decide_eq_true HNN.out.2, HOK.out]
        rfl)
      clear hx hjm
      go_wp2
      go_ret
      exact ⟨by rw [HF.out]; rfl, B1.out⟩
end Go.Proofs.Ytnpinolhhnpniaa
set_option linter.unusedSimpArgs false
set_option linter.unusedVariables false
namespace Go.Proofs.Ytnpinolhhnpniaa
open Go.RowKit Go.Lib
abbrev annT : ByteArray := ⟨#[97, 110, 110]⟩
abbrev bobT : ByteArray := ⟨#[98, 111, 98]⟩
abbrev usdT : ByteArray := ⟨#[85, 83, 68]⟩
abbrev xyzT : ByteArray := ⟨#[88, 89, 90]⟩
abbrev acT0 : List Acc := [⟨annT, usdT, 100, 80⟩, ⟨bobT, xyzT, 4, 4⟩]
abbrev duT0 : List Due := [⟨annT, xyzT, 4⟩, ⟨annT, usdT, -80⟩, ⟨bobT, xyzT, -4⟩, ⟨bobT, usdT, 80⟩]
abbrev acT1 : List Acc := [⟨annT, usdT, 20, 0⟩, ⟨annT, xyzT, 4, 0⟩, ⟨bobT, usdT, 80, 0⟩]
abbrev acT2 : List Acc := [⟨annT, usdT, 100, 0⟩, ⟨bobT, xyzT, 4, 0⟩]
abbrev leT : List Due := [⟨annT, usdT, -80⟩, ⟨annT, xyzT, 4⟩, ⟨bobT, usdT, 80⟩, ⟨bobT, xyzT, -4⟩]
theorem aw18a : sfE acT0 duT0 = 0 := by decide +kernel
theorem aw18b : sfO acT0 duT0 = acT2 := by kernel_rfl
theorem aw18c : slE duT0 = 0 := by decide +kernel
theorem aw18d : slO duT0 = leT := by kernel_rfl
theorem aw18e : stE acT0 duT0 = 0 := by decide +kernel
theorem aw18f : stO acT0 duT0 = acT1 := by kernel_rfl
theorem aw18g : stL acT0 duT0 = leT := by kernel_rfl
theorem aw18h : sgE acT0 duT0 = 0 := by decide +kernel
theorem aw18i : sgO acT0 duT0 = acT1 := by kernel_rfl
theorem aw18j : stE acT0 (duT0.take 2) = 120 := by decide +kernel
theorem aw18k : stO acT0 (duT0.take 2) = [] := by kernel_rfl
theorem aw18l : stL acT0 (duT0.take 2) = [] := by kernel_rfl
theorem aw18m : OkL acT0 := okL_iff.1 (by decide +kernel)
theorem aw18n : BalI acT0 := by unfold BalI; decide +kernel
theorem aw18z : DueI duT0 := ⟨by decide, by unfold i64w'; decide +kernel⟩
theorem aw18y : DueI (duT0.take 2) := ⟨by decide, fun x hx => aw18z.sz x (List.mem_of_mem_take hx)⟩
set_option maxRecDepth 10000 in
set_option maxHeartbeats 4000000 in
theorem awake18 (w : World) : Calls Try.prog 6 #[] w fun e w' => e = .returned (.bool true) ∧ Bel w w' := by
  have RA0 : Row accT (w.alloc (.cells #[.string annT, .string usdT, .int .i64 100, .int .i64 80, .string bobT, .string xyzT, .int .i64 4, .int .i64 4] 38)) (some ⟨w.heap.size, 0, none⟩) 2 acT0 := Row.lit (T := accT) w acT0 (0, 0) (by decide)
  have RD0 : Row dueT ((w.alloc (.cells #[.string annT, .string usdT, .int .i64 100, .int .i64 80, .string bobT, .string xyzT, .int .i64 4, .int .i64 4] 38)).alloc (.cells #[.string annT, .string xyzT, .int .i64 4, .string annT, .string usdT, .int .i64 (-80), .string bobT, .string xyzT, .int .i64 (-4), .string bobT, .string usdT, .int .i64 80] 41)) (some ⟨(w.alloc (.cells #[.string annT, .string usdT, .int .i64 100, .int .i64 80, .string bobT, .string xyzT, .int .i64 4, .int .i64 4] 38)).heap.size, 0, none⟩) 4 duT0 := Row.lit (T := dueT) _ duT0 (0, 0) (by decide)
  have FA := hid_ (RA0.bel ((Bel.refl _).alloc (.cells #[.string annT, .string xyzT, .int .i64 4, .string annT, .string usdT, .int .i64 (-80), .string bobT, .string xyzT, .int .i64 (-4), .string bobT, .string usdT, .int .i64 80] 41)))
  rw [sizeAl] at RD0
  have FD := hid_ RD0
  have FB := hid_ (((Bel.refl w).alloc (.cells #[.string annT, .string usdT, .int .i64 100, .int .i64 80, .string bobT, .string xyzT, .int .i64 4, .int .i64 4] 38)).alloc (.cells #[.string annT, .string xyzT, .int .i64 4, .string annT, .string usdT, .int .i64 (-80), .string bobT, .string xyzT, .int .i64 (-4), .string bobT, .string usdT, .int .i64 80] 41))
  clear RA0 RD0
  go_enter Try.func6, Try.ntmps6
  go_wp2_with fail
  generalize (w.alloc (.cells #[.string annT, .string usdT, .int .i64 100, .int .i64 80, .string bobT, .string xyzT, .int .i64 4, .int .i64 4] 38)).alloc (.cells #[.string annT, .string xyzT, .int .i64 4, .string annT, .string usdT, .int .i64 (-80), .string bobT, .string xyzT, .int .i64 (-4), .string bobT, .string usdT, .int .i64 80] 41) = W0 at FA FD FB ⊢
  obtain ⟨gA, hgA⟩ : ∃ g, w.heap.size = g := ⟨_, rfl⟩
  rw [hgA] at FA FD ⊢
  clear hgA
  refine (settle_any (some ⟨gA, 0, none⟩) 2 2 acT0 (some ⟨gA + 1, 0, none⟩) 4 4 duT0 W0 FA.out aw18m aw18n (by decide) FD.out aw18z).mono ?_
  rintro e w1 ⟨v, u, rfl, r, o, b⟩
  rw [aw18e]
  rw [aw18f] at r
  rw [aw18g] at o
  obtain ⟨A1, n1, c1, rfl, hc1, r1⟩ := r
  obtain rfl : n1 = 3 := r1.1.symm
  obtain ⟨A2, c2, rfl, hc2, r2⟩ := o.reads
  have G1 : Hid (Row accT w1 A1 3 acT1) := hid_ r1
  have FB := hid_ (FB.out.trans b)
  have FA := hid_ (FA.out.bel b)
  have FD := hid_ (FD.out.bel b)
  clear b o r1 r2 hc1 hc2
  go_wp2_with fail
  refine (sgross_any (some ⟨gA, 0, none⟩) 2 2 acT0 (some ⟨gA + 1, 0, none⟩) 4 4 duT0 w1 FA.out aw18m aw18n (by decide) FD.out aw18z).mono ?_
  rintro e w2 ⟨v, rfl, r, b⟩
  rw [aw18h]
  rw [aw18i] at r
  obtain ⟨A3, n3, c3, rfl, hc3, r3⟩ := r
  obtain rfl : n3 = 3 := r3.1.symm
  have FB := hid_ (FB.out.trans b)
  have FA := hid_ (FA.out.bel b)
  have FD := hid_ (FD.out.bel b)
  have G1 := hid_ (G1.out.bel b)
  clear b r3 hc3
  have hcut := fun W => dueS.cutTo (P := Try.prog) .i64 (some ⟨gA + 1, 0, none⟩) 4 4 2 (by decide) W
  simp only [show ((2 : Nat) : Int) = 2 from rfl] at hcut
  go_wp2_with fail
  refine (settle_any (some ⟨gA, 0, none⟩) 2 2 acT0 (some ⟨gA + 1, 0, none⟩) 2 4 (duT0.take 2) w2 FA.out aw18m aw18n (by decide) (FD.out.take_ (by decide)) aw18y).mono ?_
  rintro e w3 ⟨v, u, rfl, r, o, b⟩
  rw [aw18j]
  rw [aw18k] at r
  rw [aw18l] at o
  obtain ⟨A4, n4, c4, rfl, hc4, r4⟩ := r
  obtain ⟨A5, c5, rfl, hc5, r5⟩ := o.reads
  have FB := hid_ (FB.out.trans b)
  have FA := hid_ (FA.out.bel b)
  have FD := hid_ (FD.out.bel b)
  have G1 := hid_ (G1.out.bel b)
  clear b o r4 r5 hc4 hc5 hcut
  go_wp2_with fail
  refine (sfree_any (some ⟨gA, 0, none⟩) 2 2 acT0 (some ⟨gA + 1, 0, none⟩) 4 4 duT0 w3 FA.out aw18m aw18n (by decide) FD.out (by decide) aw18z.sz aw18z.gross).mono ?_
  rintro e w4 ⟨v, rfl, r, b⟩
  rw [aw18a]
  rw [aw18b] at r
  obtain ⟨A6, n6, c6, rfl, hc6, r6⟩ := r
  obtain rfl : n6 = 2 := r6.1.symm
  have G2 : Hid (Row accT w4 A6 2 acT2) := hid_ r6
  have FB := hid_ (FB.out.trans b)
  have FD := hid_ (FD.out.bel b)
  have G1 := hid_ (G1.out.bel b)
  clear b r6 hc6 FA
  go_wp2_with fail
  refine (slegs_any (some ⟨gA + 1, 0, none⟩) 4 4 duT0 w4 FD.out (by decide) aw18z.sz).mono ?_
  rintro e w5 ⟨v, rfl, o, b⟩
  rw [aw18c]
  rw [aw18d] at o
  obtain ⟨A7, c7, rfl, hc7, r7⟩ := o.reads
  have FB := hid_ (FB.out.trans b)
  have G1 := hid_ (G1.out.bel b)
  have G2 := hid_ (G2.out.bel b)
  clear b o r7 hc7 FD
  obtain ⟨ad0, x0, x1, x2, x3, e0, h0, z00, z01, z02, z03⟩ := G1.out.acc (k := 0) (by decide)
  cases e0
  cases h0
  simp [Addr.add] at z00 z01 z02 z03
  obtain ⟨ad1, x0, x1, x2, x3, e1, h1, z10, z11, z12, z13⟩ := G1.out.acc (k := 1) (by decide)
  cases e1
  cases h1
  simp [Addr.add] at z10 z11 z12 z13
  obtain ⟨ad2, x0, x1, x2, x3, e2, h2, z20, z21, z22, z23⟩ := G1.out.acc (k := 2) (by decide)
  cases e2
  cases h2
  simp [Addr.add] at z20 z21 z22 z23
  obtain ⟨ad3, x0, x1, x2, x3, e3, h3, z30, z31, z32, z33⟩ := G2.out.acc (k := 0) (by decide)
  cases e3
  cases h3
  simp [Addr.add] at z30 z31 z32 z33
  go_wp2
  go_ret
  exact ⟨rfl, FB.out⟩
end Go.Proofs.Ytnpinolhhnpniaa
set_option linter.unusedSimpArgs false
set_option linter.unusedVariables false
namespace Go.Proofs.Ytnpinolhhnpniaa
open Go.RowKit Go.Lib
theorem i64w_wf {x : Int} (h : (Lit.int .i64 x).wf = true) : i64w x := by
  simp [Lit.wf, IntKind.min, IntKind.max, IntKind.signed, IntKind.bits] at h
  exact h
/-- What few lets in, for the walks. -/
theorem few18_in {l : List Acc} {ds : List Due} (h : few18 l ds = true) (hwa : ∀ x ∈ l, accWf x) (hwb : ∀ x ∈ ds, dueWf x) : l.length ≤ 100 ∧ OkL l ∧ BalI l ∧ DueI ds := by
  obtain ⟨h1, h2, h3, h4⟩ := few18_iff.1 h
  exact ⟨h1, h3, fun a ha => i64w_wf (hwa a ha).2.2.1, ⟨by omega, fun x hx => ⟨by have := h4 x hx; omega, by have := h4 x hx; omega, i64w_wf (hwb x hx).2.2⟩⟩⟩
theorem wf_sz {l : List Acc} (hwa : ∀ x ∈ l, accWf x) : ∀ a ∈ l, a.who.size ≤ 9223372036854775807 ∧ a.asset.size ≤ 9223372036854775807 := fun a ha => by
  have h := hwa a ha
  unfold accWf maxLen at h
  exact ⟨by omega, by omega⟩
end Go.Proofs.Ytnpinolhhnpniaa
