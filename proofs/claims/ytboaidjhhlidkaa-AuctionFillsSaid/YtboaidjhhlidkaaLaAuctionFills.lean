/- Fills are of the orders in turn, as much as there is: the walk. -/
import Derived.Test.YtboaidjhhlidkaaAucP
import Derived.Test.YtboaidjhhlidkaaOpOrd
import Derived.Deep.QuietTactic
import Derived.BigQuiet
set_option linter.unusedSimpArgs false
set_option linter.unusedVariables false
namespace Go.Proofs.Ytboaidjhhlidkaa
open Go.RowKit
set_option maxRecDepth 10000 in
set_option maxHeartbeats 1000000 in
theorem walkAuctionFills (w : World) (A : Option Addr) (n c : Nat) (l : List Ord) (w0 : n ≤ c ∧ Row ordT w A n l ∧ ∀ x ∈ l, ordWf x) (q : Int) (w1 : (Lit.int .i64 q).wf = true) :
    Calls Try.prog 4 #[.slice A n c, .int .i64 q] w fun e w' => e = .returned (.bool true) ∧ Below w.heap.size w w' := by
  obtain ⟨_, hr, _⟩ := w0
  have hq : q ≤ 9223372036854775807 := by
    simp [Lit.wf, IntKind.min, IntKind.max, IntKind.signed, IntKind.bits] at w1
    omega
  clear w1
  have HQ := hid_ hq
  clear hq
  have hlen := hr.1
  go_enter Try.func4, Try.ntmps4
  go_wp2_with fail
  refine (awake_any _).mono ?_
  rintro e wa ⟨rfl, b1⟩
  go_wp2_with fail
  refine (may_any A n c l _ (hr.bel b1)).mono ?_
  rintro e _ ⟨rfl, rfl⟩
  by_cases hok : mayB l = true
  · rw [hok]
    obtain ⟨hl200, hall⟩ := (mayB_iff l).1 hok
    obtain ⟨hf1, hf2⟩ := fills_law l q hall HQ.out
    have hn200 : n ≤ 200 := by omega
    go_wp2_with fail
    refine (fills_any A n c l q _ (hr.bel b1) (by omega)).mono ?_
    rintro e wb ⟨v, rfl, o, b2⟩
    obtain ⟨X, k, rfl, _, rf⟩ := o.reads
    have b12 := b1.trans b2
    have hra := hr.bel b12
    have hfl := fills_len l q
    have hws := wsum_eq l hall (by omega)
    have hqs := qsum_eq (fills l q) (fun x hx => by
      obtain ⟨i, hi, rfl⟩ := List.getElem_of_mem hx
      have h1 := hf1 i l[i] _ (List.getElem?_eq_getElem (by omega)) (List.getElem?_eq_getElem hi)
      have h2 := (okOi _).1 (List.all_eq_true.1 hall l[i] (List.getElem_mem _))
      omega) (by omega)
    have hin := isum_nonneg l hall
    have HF := hid_ hf1
    have HE : Hid (qsum (fills l q) = min (max q 0) (wsum l)) := by rw [hws, hqs]; exact hf2
    have HP : Hid (0 ≤ wsum l) := by rw [hws]; exact hin.1
    clear hf1 hf2 hws hqs hin o hok hall b1 b2 hr
    generalize fills l q = fs at *
    go_wp2
    go_loop [7, 8] (fun s i => ∃ j : Nat, j ≤ n ∧ i = .int .i64 j ∧ s = .int .i64 (wsum (l.take j))) (fun _ i => n - (intOf i).toNat)
    case atStart => exact ⟨0, by omega, rfl, rfl⟩
    case round =>
      obtain ⟨j, hj, rfl, rfl⟩ := hrel
      by_cases hjn : j < n
      · obtain ⟨ad, number, who, market, buy, price, left, rfl, ho, d0, d1, d2, d3, d4, d5⟩ := hra.ord hjn
        have hs := wsum_take l j ho
        simp only at hs
        clear rf hra d0 d1 d2 d3 d4
        go_wp2
        case roundEnd =>
          go_round
          case rel => exact ⟨j + 1, by omega, by go_num, by rw [hs]⟩
          case measure => simp [intOf]; omega
      · have : j = n := by omega
        subst this
        have hfull : l.take j = l := by rw [← hlen, List.take_length]
        rw [hfull]
        go_wp2
        go_loopw [9, 10] (fun s i wr => ∃ m : Nat, m ≤ fs.length ∧ i = .int .i64 m ∧ s = .int .i64 (qsum (fs.take m)) ∧ Bel wb wr) (fun _ i _ => fs.length - (intOf i).toNat)
        case atStart => exact ⟨0, by omega, rfl, rfl, Bel.refl _⟩
        case round =>
          obtain ⟨m, hm, rfl, rfl, hbr⟩ := hrel
          by_cases hmn : m < fs.length
          · obtain ⟨af, fnum, fqty, rfl, hfo, f0, f1⟩ := (rf.bel hbr).fil hmn
            obtain ⟨ad, number, who, market, buy, price, left, rfl, ho, d0, d1, d2, d3, d4, d5⟩ := (hra.bel hbr).ord (show m < j by omega)
            obtain ⟨k1, k2, k3, k4⟩ := HF.out m _ _ ho hfo
            simp only at k1 k2 k3 k4
            subst k1
            have hqs := qsum_take fs m hfo
            simp only at hqs
            have HQS := hid_ hqs
            have e0 : m < j := by omega
            have HM : Hid (m < 200) := by show m < 200; omega
            have e1 : decide (j ≤ m) = false := by simp; omega
            obtain ⟨z, hz⟩ : ∃ z, IntKind.i64.wrap ((fs.length : Int) - 1) = z := ⟨_, rfl⟩
            have kz : z = (fs.length : Int) - 1 := by rw [← hz]; exact IntWalk.i64_in _ (by omega)
            clear hqs rf hra d1 d2 d3 d4 HE HP HF hl200 hfl hfull
            have HL := hid_ hlen
            have HB := hid_ hbr
            have k5 : decide (fqty < 1) = false := by simp; omega
            have k6 : decide (left < fqty) = false := by simp; omega
            by_cases hl : m + 1 < fs.length
            · have k7 := k4 hl
              subst k7
              have e2 : decide ((m : Int) < z) = true := by simp; omega
              clear kz k4 k3 k2 hl ho hfo hlen hbr hn200 hjn
              go_wp2_with fail
              go_quiet (fail)
              obtain ⟨W2, hW2, hb2⟩ : ∃ W2, wr.drewN nq = W2 ∧ Bel wr W2 := ⟨_, rfl, (Bel.refl wr).drewN _⟩
              rw [hW2]
              have f1' := hb2.cell_ f1
              have HB2 : Hid (Bel wb W2) := HB.out.trans hb2
              clear hW2 hb2 f0 f1 d0 d5 e0 e1 e2 k5 k6
              go_wp2
              have hm200 := HM.out
              have hw : wrap64 ((m : Int) + 1) = ((m + 1 : Nat) : Int) := by unfold wrap64; omega
              rw [hw]
              go_roundw
              case rel => exact ⟨m + 1, by omega, rfl, by rw [HQS.out], HB2.out⟩
              case measure => simp [intOf]; omega
            · have e2 : decide ((m : Int) < z) = false := by simp; omega
              clear kz k4 k3 k2 hl ho hfo hlen hbr hn200 hjn
              go_wp2_with fail
              go_quiet (fail)
              obtain ⟨W2, hW2, hb2⟩ : ∃ W2, wr.drewN nq = W2 ∧ Bel wr W2 := ⟨_, rfl, (Bel.refl wr).drewN _⟩
              rw [hW2]
              have f1' := hb2.cell_ f1
              have HB2 : Hid (Bel wb W2) := HB.out.trans hb2
              clear hW2 hb2 f0 f1 d0 d5 e0 e1 e2 k5 k6
              go_wp2
              have hm200 := HM.out
              have hw : wrap64 ((m : Int) + 1) = ((m + 1 : Nat) : Int) := by unfold wrap64; omega
              rw [hw]
              go_roundw
              case rel => exact ⟨m + 1, by omega, rfl, by rw [HQS.out], HB2.out⟩
              case measure => simp [intOf]; omega
          · have : m = fs.length := by omega
            subst this
            have hfull : fs.take fs.length = fs := List.take_length
            rw [hfull, HE.out]
            have hp := HP.out
            clear rf hra HF
            go_wp2
            all_goals go_ret
            all_goals (refine ⟨?_, b12.trans hbr⟩; congr 1; simp; omega)
  · have hf : mayB l = false := by simpa using hok
    rw [hf]
    clear hok hf
    go_wp2
    go_ret
    exact ⟨rfl, b1⟩
end Go.Proofs.Ytboaidjhhlidkaa
