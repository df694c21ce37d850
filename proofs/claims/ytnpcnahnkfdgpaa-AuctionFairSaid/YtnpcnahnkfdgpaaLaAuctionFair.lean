/- AuctionFair, walked. -/
import Derived.Test.YtnpcnahnkfdgpaaAucW
import Derived.Test.YtnpcnahnkfdgpaaSo16
import Derived.Test.YtnpcnahnkfdgpaaOpOrd
set_option linter.unusedSimpArgs false
set_option linter.unusedVariables false
namespace Go.Proofs.Ytnpcnahnkfdgpaa
open Go.RowKit Go.Lib Go.Sort Go.Shelf
theorem tsum_step {t : List Trd} {k : Nat} {x : Trd} (h : t[k]? = some x) : tsum (t.take (k + 1)) = tsum (t.take k) + x.quantity := by
  unfold tsum
  rw [List.take_add_one, h]
  simp
theorem tsum_le {t : List Trd} (hq : ∀ x ∈ t, 1 ≤ x.quantity ∧ x.quantity ≤ 1000000) : ∀ k : Nat, 0 ≤ tsum (t.take k) ∧ tsum (t.take k) ≤ 1000000 * (k : Int)
  | 0 => by simp [tsum]
  | k + 1 => by
    have ih := tsum_le hq k
    cases hx : t[k]? with
    | none => rw [List.take_of_length_le (by have := List.getElem?_eq_none_iff.1 hx; omega)]; rw [List.take_of_length_le (by have := List.getElem?_eq_none_iff.1 hx; omega)] at ih; omega
    | some x =>
      have h1 := hq x (List.mem_of_getElem? hx)
      rw [tsum_step hx]
      omega
theorem trades_len (b s : List Ord) : (trades b s).length ≤ b.length + s.length := by
  unfold trades tradesA tradesB
  have h1 := pair_len (price b s).1 ((fills (highs b (price b s).1) (price b s).2).length + (fills (lows s (price b s).1) (price b s).2).length) (fills (highs b (price b s).1) (price b s).2) (fills (lows s (price b s).1) (price b s).2)
  have h2 := fills_len (highs b (price b s).1) (price b s).2
  have h3 := fills_len (lows s (price b s).1) (price b s).2
  have h4 := highs_len b (price b s).1
  have h5 := lows_len s (price b s).1
  omega
theorem unl_of {l : List Ord} (h : ∀ (a b : Nat) (x y : Ord), a < b → b < l.length → l[a]? = some x → l[b]? = some y → x.number ≠ y.number) : (l.map (·.number)).Nodup := by
  unfold List.Nodup
  rw [List.pairwise_iff_getElem]
  intro i j hi hj hij
  simp only [List.length_map] at hi hj
  simp only [List.getElem_map]
  exact h i j _ _ hij hj (List.getElem?_eq_getElem hi) (List.getElem?_eq_getElem hj)
set_option maxRecDepth 10000 in
set_option maxHeartbeats 4000000 in
theorem walkAuctionFair (w : World) (A : Option Addr) (n c : Nat) (l : List Ord) (w1 : n ≤ c ∧ Row ordT w A n l ∧ ∀ x ∈ l, ordWf x) (mk : ByteArray) (wm : mk.size ≤ maxLen) : Calls Try.prog 3 #[.slice A n c, .string mk] w fun e w' => e = .returned (.bool true) ∧ Bel w w' := by
  obtain ⟨_, hA, _⟩ := w1
  have FA := hid_ hA
  have HLN := hid_ hA.1
  have hn' := hA.2.1
  clear hA
  have FB := hid_ (Bel.refl w)
  go_enter Try.func3, Try.ntmps3
  go_wp2_with fail
  refine (awake_any _).mono ?_
  rintro e v1 ⟨rfl, b⟩
  have bb := b
  have f1A := hid_ (FA.out.bel bb)
  have f1B := hid_ (FB.out.trans bb)
  clear b bb FA FB
  go_wp2_with fail
  refine (may_any A n c l _ f1A.out).mono ?_
  rintro e _ ⟨rfl, rfl⟩
  obtain ⟨mb, hmb⟩ : ∃ q, mayB l = q := ⟨_, rfl⟩
  rw [hmb]
  cases mb
  · go_wp2
    go_ret
    exact ⟨rfl, f1B.out⟩
  have HMB := hid_ hmb
  have hn2 : n ≤ 200 := by have := ((mayB_iff l).1 hmb).1; rw [HLN.out] at this; exact this
  clear hmb
  go_wp2_with fail
  go_loopw [6] (fun i wr => ∃ j : Nat, j ≤ n ∧ i = .int .i64 j ∧ Hid (∀ (a b : Nat) (x y : Ord), a < b → b < j → l[a]? = some x → l[b]? = some y → x.number ≠ y.number) ∧ Bel v1 wr) (fun i _ => n - (intOf i).toNat)
  case atStart => exact ⟨0, Nat.zero_le _, rfl, hid_ (fun a b x y _ h => absurd h (by omega)), Bel.refl _⟩
  case round =>
    obtain ⟨j, hj, rfl, hx, hbr⟩ := hrel
    obtain ⟨wo, hwo⟩ : ∃ wo, wo = wr := ⟨_, rfl⟩
    subst hwo
    have BR := hid_ hbr
    clear hbr
    by_cases hjn : j < n
    · have i0 : (0 : Int) ≤ (j : Int) := by omega
      have i1 : (j : Int) < (n : Int) := by omega
      obtain ⟨o, hjo⟩ : ∃ o, l[j]? = some o := ⟨_, List.getElem?_eq_getElem (by rw [HLN.out]; exact hjn)⟩
      have HJO := hid_ hjo
      clear hjo
      go_wp2_with fail
      go_loopw [7] (fun i wq => ∃ k : Nat, k ≤ j ∧ i = .int .i64 k ∧ Hid (∀ (a : Nat) (x : Ord), a < k → l[a]? = some x → x.number ≠ o.number) ∧ Bel wo wq) (fun i _ => j - (intOf i).toNat)
      case atStart => exact ⟨0, Nat.zero_le _, rfl, hid_ (fun a x h => absurd h (by omega)), Bel.refl _⟩
      case round =>
      obtain ⟨k, hk, rfl, hy, hbq⟩ := hrel
      have BQ := hid_ hbq
      have GB := hid_ (BR.out.trans hbq)
      clear hbq
      by_cases hkj : k < j
      · obtain ⟨ad, o0, o1, o2, o3, o4, o5, rfl, ho, d0, d1, d2, d3, d4, d5⟩ := (f1A.out.bel GB.out).ord hjn
        obtain ⟨ad2, p0, p1, p2, p3, p4, p5, e2, hp, f0, f1, f2, f3, f4, f5⟩ := (f1A.out.bel GB.out).ord (show k < n by omega)
        cases e2
        rw [HJO.out] at ho
        cases ho
        have HP := hid_ hp
        clear hp d1 d2 d3 d4 d5 f1 f2 f3 f4 f5
        have k0 : (0 : Int) ≤ (k : Int) := by omega
        have k1 : (k : Int) < (j : Int) := by omega
        have k2 : (k : Int) < (n : Int) := by omega
        by_cases e : p0 = o0
        · have e1 : (p0 == o0) = true := by simpa using e
          subst e
          go_upto_region 10 with (fail)
          go_quiet (fail)
          go_wp2
          go_ret
          exact ⟨rfl, (f1B.out.trans GB.out).drewN _⟩
        · have e1 : (p0 == o0) = false := by simpa using e
          have e2 : decide (p0 = o0) = false := decide_eq_false e
          have HY : Hid (∀ (a : Nat) (x : Ord), a < k + 1 → l[a]? = some x → x.number ≠ o0) := hid_ (by
            intro a x ha hax
            rcases Nat.lt_or_ge a k with h | h
            · exact hy.out a x h hax
            · obtain rfl : a = k := by omega
              rw [HP.out] at hax
              cases hax
              exact e)
          clear hy e HP
          go_upto_region 10 with (fail)
          go_quiet (fail)
          go_wp2
          case roundEnd =>
            go_roundw
            case rel => exact ⟨k + 1, by omega, by go_num, HY, BQ.out.drewN _⟩
            case measure => simp [intOf]; omega
      · obtain rfl : j = k := by omega
        have k1 : ¬ (j : Int) < (j : Int) := by omega
        have HX : Hid (∀ (a b : Nat) (x y : Ord), a < b → b < j + 1 → l[a]? = some x → l[b]? = some y → x.number ≠ y.number) := hid_ (by
          intro a b x y hab hb hax hby
          rcases Nat.lt_or_ge b j with h | h
          · exact hx.out a b x y hab h hax hby
          · obtain rfl : b = j := by omega
            rw [HJO.out] at hby
            cases hby
            exact hy.out a x hab hax)
        clear hx hy HJO
        go_wp2
        case roundEnd =>
          go_roundw
          case rel => exact ⟨j + 1, by omega, by go_num, HX, GB.out⟩
          case measure => simp [intOf]; omega
    · obtain rfl : n = j := by omega
      have i1 : ¬ (n : Int) < (n : Int) := by omega
      have hu := unl_of (l := l) (fun a b x y hab hb => hx.out a b x y hab (by rw [← HLN.out]; exact hb))
      have hfair := fair_law mk HMB.out hu
      have hbl := okl_side HMB.out ltB (pick mk true)
      have hsl := okl_side HMB.out ltS (pick mk false)
      change OkL (buysL l mk) ∧ (buysL l mk).length ≤ 200 at hbl
      change OkL (sellsL l mk) ∧ (sellsL l mk).length ≤ 200 at hsl
      have hpl := price_le hbl.1 hsl.1
      have HFR := hid_ hfair
      have HBL := hid_ (And.intro hbl.2 hsl.2)
      have HPL := hid_ hpl
      have GA := hid_ (f1A.out.bel BR.out)
      have GB := hid_ (f1B.out.trans BR.out)
      clear hu hfair hbl hsl hpl hx hjn hj BR f1A f1B
      go_wp2_with fail
      refine (sides_any A n c l mk _ GA.out (by omega)).mono ?_
      rintro e v2 ⟨t1, t2, rfl, q1, q2, b⟩
      have bb := b
      obtain ⟨X, cx, rfl, _, rx⟩ := q1.reads
      obtain ⟨Y, cy, rfl, _, ry⟩ := q2.reads
      clear q1 q2
      have f2A := hid_ (GA.out.bel bb)
      have f2B := hid_ (GB.out.trans bb)
      have f2X := hid_ rx
      have f2Y := hid_ ry
      clear b bb GA GB rx ry
      obtain ⟨bs, hbs⟩ : ∃ r, buysL l mk = r := ⟨_, rfl⟩
      obtain ⟨ss, hss⟩ : ∃ r, sellsL l mk = r := ⟨_, rfl⟩
      rw [hbs] at HFR HBL HPL f2X
      rw [hss] at HFR HBL HPL f2Y
      rw [hbs, hss]
      clear hbs hss
      go_wp2_with fail
      refine (price_any X Y _ cx _ cy bs ss _ f2X.out f2Y.out (by have := HBL.out; omega) (by have := HBL.out; omega)).mono ?_
      rintro e v3 ⟨rfl, b⟩
      have bb := b
      have f3A := hid_ (f2A.out.bel bb)
      have f3B := hid_ (f2B.out.trans bb)
      have f3X := hid_ (f2X.out.bel bb)
      have f3Y := hid_ (f2Y.out.bel bb)
      clear b bb f2A f2B f2X f2Y
      go_wp2_with fail
      refine (trades_any X Y _ cx _ cy bs ss _ f3X.out f3Y.out (by have := HBL.out; omega) (by have := HBL.out; omega)).mono ?_
      rintro e v4 ⟨t9, rfl, q9, b⟩
      have bb := b
      obtain ⟨T, ct, rfl, _, rt⟩ := q9.reads
      clear q9
      have f4A := hid_ (f3A.out.bel bb)
      have f4B := hid_ (f3B.out.trans bb)
      have f4X := hid_ (f3X.out.bel bb)
      have f4Y := hid_ (f3Y.out.bel bb)
      have f4T := hid_ rt
      clear b bb f3A f3B f3X f3Y rt
      have HTL : Hid ((trades bs ss).length ≤ 400) := hid_ (by have h1 := trades_len bs ss; have h2 := HBL.out; omega)
      obtain ⟨tt, htt⟩ : ∃ t, trades bs ss = t := ⟨_, rfl⟩
      obtain ⟨p, hp⟩ : ∃ p, (price bs ss).1 = p := ⟨_, rfl⟩
      obtain ⟨v, hv⟩ : ∃ p, (price bs ss).2 = p := ⟨_, rfl⟩
      rw [htt] at HTL f4T
      rw [htt, hp, hv] at HFR
      rw [htt, hp, hv]
      clear htt hp hv
      obtain ⟨m, hm⟩ : ∃ m, tt.length = m := ⟨_, rfl⟩
      rw [hm] at HTL f4T
      rw [hm]
      have HM := hid_ hm
      have hm4 := HTL.out
      clear hm
      have HQ := hid_ (fun x h => And.intro (HFR.out.1 x h).1 (HFR.out.1 x h).2.1)
      go_wp2_with fail
      go_loop [14, 15] (fun s i => ∃ k : Nat, k ≤ m ∧ i = .int .i64 k ∧ s = .int .i64 (tsum (tt.take k))) (fun _ i => m - (intOf i).toNat)
      case atStart => exact ⟨0, Nat.zero_le _, rfl, rfl⟩
      case round =>
        obtain ⟨k, hk, rfl, rfl⟩ := hrel
        by_cases hkm : k < m
        · obtain ⟨ad2, tb, ts, tq, tp, rfl, hx, f0, f1, f2, f3⟩ := f4T.out.trd hkm
          have h1 := HFR.out.1 _ (List.mem_of_getElem? hx)
          simp only at h1
          obtain ⟨h1, h3, rfl⟩ := h1
          have h2 := tsum_le HQ.out k
          have HS := hid_ (tsum_step hx)
          obtain ⟨N, hN⟩ : ∃ N, tsum (tt.take k) = N := ⟨_, rfl⟩
          rw [hN] at h2 HS
          rw [hN]
          have hw : wrap64 (N + tq) = N + tq := by unfold wrap64; omega
          clear hN hx h2
          have k0 : (0 : Int) ≤ (k : Int) := by omega
          have k1 : (k : Int) < (m : Int) := by omega
          have r1 : decide (tq < 1) = false := by simp; omega
          go_wp2
          case roundEnd =>
            go_round
            case rel => exact ⟨k + 1, by omega, by go_num, by first | rw [HS.out, hw] | rw [HS.out]⟩
            case measure => simp [intOf]; omega
        · obtain rfl : m = k := by omega
          have k1 : ¬ (m : Int) < (m : Int) := by omega
          have hfull : tt.take m = tt := by rw [← HM.out, List.take_length]
          rw [hfull, HFR.out.2.1]
          clear hfull hkm hk
          go_wp2_with fail
          refine (filled_t X T _ cx _ ct bs tt p _ f4X.out f4T.out HFR.out.2.2.1 HQ.out (by omega)).mono ?_
          rintro e v5 ⟨rfl, b⟩
          have bb := b
          have f5A := hid_ (f4A.out.bel bb)
          have f5B := hid_ (f4B.out.trans bb)
          have f5X := hid_ (f4X.out.bel bb)
          have f5Y := hid_ (f4Y.out.bel bb)
          have f5T := hid_ (f4T.out.bel bb)
          clear b bb f4A f4B f4X f4Y f4T
          go_wp2_with fail
          refine (filled_f Y T _ cy _ ct ss tt p _ f5Y.out f5T.out HFR.out.2.2.2 HQ.out (by omega)).mono ?_
          rintro e v6 ⟨rfl, b⟩
          have bb := b
          have f6A := hid_ (f5A.out.bel bb)
          have f6B := hid_ (f5B.out.trans bb)
          have f6X := hid_ (f5X.out.bel bb)
          have f6Y := hid_ (f5Y.out.bel bb)
          have f6T := hid_ (f5T.out.bel bb)
          clear b bb f5A f5B f5X f5Y f5T
          go_wp2
          go_ret
          exact ⟨rfl, f6B.out⟩
end Go.Proofs.Ytnpcnahnkfdgpaa
