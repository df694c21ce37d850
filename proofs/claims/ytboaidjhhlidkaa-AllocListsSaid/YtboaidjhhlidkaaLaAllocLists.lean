/- AllocLists, walked. -/
import Derived.Test.YtboaidjhhlidkaaAl25
import Derived.Test.YtboaidjhhlidkaaAlP
import Derived.Test.YtboaidjhhlidkaaOpLists
set_option linter.unusedSimpArgs false
set_option linter.unusedVariables false
namespace Go.Proofs.Ytboaidjhhlidkaa
open Go.RowKit
theorem same_eq (h : Int) (A B A' B' : Option Addr) (n c m d n' c' m' d' : Nat) (F L : List Int) (w : World) (hA : Row intT w A n F) (hB : Row intT w B m L) (hA' : Row intT w A' n' F) (hB' : Row intT w B' m' L) :
    Calls Try.prog 37 #[.agg #[.int .i64 h, .slice A n c, .slice B m d], .agg #[.int .i64 h, .slice A' n' c', .slice B' m' d']] w fun e w' => e = .returned (.bool true) ∧ Bel w w' := by
  refine (same_any h h A B A' B' n c m d n' c' m' d' F L F L w hA hB hA' hB').mono ?_
  rintro e w1 ⟨rfl, b⟩
  exact ⟨by simp, b⟩
theorem sameLists_eq (A A' : Option Addr) (n c n' c' : Nat) (s s' : List SV) (l : List (List Int)) (w : World) (hA : Row svT w A n s) (hA' : Row svT w A' n' s') (hB : RowsAt w s l) (hB' : RowsAt w s' l) :
    Calls Try.prog 44 #[.slice A n c, .slice A' n' c'] w fun e w' => e = .returned (.bool true) ∧ Bel w w' := by
  refine (sameLists_any A A' n c n' c' s s' l l w hA hA' hB hB').mono ?_
  rintro e w1 ⟨rfl, b⟩
  exact ⟨by simp, b⟩
theorem flat_le_mul : ∀ (ys : List (List Int)), (∀ y ∈ ys, y.length ≤ 300) → ys.flatten.length ≤ ys.length * 300
  | [], _ => by simp
  | y :: ys, h => by
    have h1 := h y (List.mem_cons_self ..)
    have h2 := flat_le_mul ys (fun z hz => h z (List.mem_cons_of_mem _ hz))
    rw [List.flatten_cons, List.length_append, List.length_cons]
    omega
theorem flat_bound {w : World} {Q : Option Addr} {N : Nat} {ss : List SV} {ys : List (List Int)} (hQ : Row svT w Q N ss) (hY : RowsAt w ss ys) (h10 : N ≤ 10) (h : ∀ (j : Nat) (s : SV), j < N → ss[j]? = some s → s.2.1 ≤ 300) : ys.flatten.length ≤ 1000000 := by
  have hl : ys.length = N := by rw [← hY.1, hQ.1]
  have h1 : ∀ y ∈ ys, y.length ≤ 300 := by
    intro y hy
    obtain ⟨j, hj⟩ := List.mem_iff_getElem?.1 hy
    have hjl := (List.getElem?_eq_some_iff.1 hj).1
    have hjs : j < ss.length := by rw [hQ.1]; omega
    have hs := List.getElem?_eq_getElem hjs
    have h2 := hY.2 j _ y hs hj
    rw [h2.1]
    exact h j _ (by omega) hs
  have := flat_le_mul ys h1
  omega
set_option maxRecDepth 10000 in
set_option maxHeartbeats 8000000 in
theorem walkAllocLists (w : World) (h : Int) (A B : Option Addr) (n c m d : Nat) (F L : List Int) (high : Int) (Q : Option Addr) (N cq : Nat) (ss : List SV) (ys : List (List Int)) (hh : intWf h) (hnc : n ≤ c) (hmd : m ≤ d) (hA : Row intT w A n F) (hB : Row intT w B m L) (hF : ∀ y ∈ F, intWf y) (hL : ∀ y ∈ L, intWf y) (hhi : intWf high) (hcq : N ≤ cq) (hQ : Row svT w Q N ss) (hY : RowsAt w ss ys) :
    Calls Try.prog 9 #[.agg #[.int .i64 h, .slice A n c, .slice B m d], .int .i64 high, .slice Q N cq] w fun e w' => e = .returned (.bool true) ∧ Bel w w' := by
  have hn63 := hA.2.1
  have hm63 := hB.2.1
  have HN := hid_ hn63
  have HM := hid_ hm63
  clear hn63 hm63
  go_enter Try.func9, Try.ntmps9
  have K0 := hid_ (Bx.new w 48 [.int .i64 h, .slice A n c, .slice B m d])
  have B0 : Hid (Bel w (w.alloc (.cells #[.int .i64 h, .slice A n c, .slice B m d] 48))) := (Bel.refl w).alloc _
  go_wp2_with fail
  refine (awake06 _).mono ?_
  rintro e w1 ⟨rfl, b1⟩
  have K1 := hid_ (K0.out.bel b1)
  have B1 := hid_ (B0.out.trans b1)
  have e0 := K1.out.cell 0 rfl
  have e1 := K1.out.cell 1 rfl
  have e2 := K1.out.cell 2 rfl
  clear K0 B0 b1
  go_wp2_with fail
  refine (few_any h A B n c m d _ HN.out HM.out).mono ?_
  rintro e w2 ⟨rfl, b2⟩
  have K2 := hid_ (K1.out.bel b2)
  have B2 := hid_ (B1.out.trans b2)
  clear K1 B1 b2 e0 e1 e2
  have e0 := K2.out.cell 0 rfl
  have e1 := K2.out.cell 1 rfl
  have e2 := K2.out.cell 2 rfl
  obtain ⟨fb, hfb⟩ : ∃ fb, fewB n m = fb := ⟨_, rfl⟩
  rw [hfb]
  have HF := hid_ hfb
  clear hfb
  cases fb
  · go_wp2
    go_ret
    exact ⟨rfl, B2.out⟩
  have hfew := few_le HF.out
  clear HF
  have hN63 := hQ.2.1
  have HQN := hid_ hN63
  clear hN63
  by_cases h10 : (10 : Int) < (N : Int)
  · go_wp2
    go_ret
    exact ⟨rfl, B2.out⟩
  go_wp2_with fail
  go_loop [8] (fun i => ∃ k : Nat, k ≤ N ∧ i = .int .i64 k ∧ Hid (∀ (j : Nat) (s : SV), j < k → ss[j]? = some s → s.2.1 ≤ 300)) (fun i => N - (intOf i).toNat)
  case atStart => exact ⟨0, Nat.zero_le _, rfl, fun j s hj => absurd hj (by omega)⟩
  case round =>
    obtain ⟨k, hk, rfl, hall⟩ := hrel
    by_cases hkn : k < N
    · obtain ⟨ad, X, m', c', rfl, ho, d0⟩ := (hQ.bel B2.out).sv hkn
      by_cases h300 : (300 : Int) < (m' : Int)
      · clear ho
        go_wp2
        go_ret
        exact ⟨rfl, B2.out⟩
      · have hnx : Hid (∀ (j : Nat) (s : SV), j < k + 1 → ss[j]? = some s → s.2.1 ≤ 300) := by
          intro j s hj hs
          rcases Nat.lt_or_ge j k with h | h
          · exact hall.out j s h hs
          · obtain rfl : j = k := by omega
            rw [ho] at hs
            cases hs
            show m' ≤ 300
            omega
        clear ho hall
        go_wp2
        case roundEnd =>
          go_round
          case rel => exact ⟨k + 1, by omega, by go_num, hnx⟩
          case measure => simp [intOf]; omega
    · have hkN : k = N := by omega
      subst hkN
      have hfl : ys.flatten.length ≤ 1000000 := flat_bound hQ hY (by omega) hall.out
      have HFL := hid_ hfl
      have HFW := hid_ hfew
      clear hfl hall hfew
      go_wp2_with fail
      refine (of_any high Q k cq ss ys _ (hQ.bel B2.out) (hY.bel B2.out) HFL.out).mono ?_
      rintro e w4 ⟨v, rfl, ⟨A1, n1, c1, B1, m1, d1, rfl, _, _, ra, rb⟩, b⟩
      have bb := b.alloc (.cells #[.int .i64 (ofH high ys), .slice A1 n1 c1, .slice B1 m1 d1] 48)
      have f1K := hid_ (K2.out.bel bb)
      have f1B := hid_ (B2.out.trans bb)
      have f1P1 := hid_ (Bx.new w4 48 [.int .i64 (ofH high ys), .slice A1 n1 c1, .slice B1 m1 d1])
      have f1RA1 := hid_ ((ra).bel ((Bel.refl w4).alloc (.cells #[.int .i64 (ofH high ys), .slice A1 n1 c1, .slice B1 m1 d1] 48)))
      have f1RB1 := hid_ ((rb).bel ((Bel.refl w4).alloc (.cells #[.int .i64 (ofH high ys), .slice A1 n1 c1, .slice B1 m1 d1] 48)))
      clear b bb K2 B2 e0 e1 e2 ra rb
      go_wp2_with fail
      refine (ofR_any high Q k cq ss ys _ (hQ.bel f1B.out) (hY.bel f1B.out) HFL.out).mono ?_
      rintro e w5 ⟨v, rfl, ⟨A2, n2, c2, B2, m2, d2, rfl, _, _, ra, rb⟩, b⟩
      have bb := b.alloc (.cells #[.int .i64 (ofH high ys), .slice A2 n2 c2, .slice B2 m2 d2] 48)
      have f2K := hid_ (f1K.out.bel bb)
      have f2B := hid_ (f1B.out.trans bb)
      have f2P1 := hid_ (f1P1.out.bel bb)
      have f2RA1 := hid_ (f1RA1.out.bel bb)
      have f2RB1 := hid_ (f1RB1.out.bel bb)
      have f2P2 := hid_ (Bx.new w5 48 [.int .i64 (ofH high ys), .slice A2 n2 c2, .slice B2 m2 d2])
      have f2RA2 := hid_ ((ra).bel ((Bel.refl w5).alloc (.cells #[.int .i64 (ofH high ys), .slice A2 n2 c2, .slice B2 m2 d2] 48)))
      have f2RB2 := hid_ ((rb).bel ((Bel.refl w5).alloc (.cells #[.int .i64 (ofH high ys), .slice A2 n2 c2, .slice B2 m2 d2] 48)))
      clear b bb f1K f1B f1P1 f1RA1 f1RB1 ra rb
      have q00 := f2P1.out.cell 0 rfl
      have q01 := f2P1.out.cell 1 rfl
      have q02 := f2P1.out.cell 2 rfl
      have q10 := f2P2.out.cell 0 rfl
      have q11 := f2P2.out.cell 1 rfl
      have q12 := f2P2.out.cell 2 rfl
      go_wp2_with fail
      refine (same_eq (ofH high ys) A1 B1 A2 B2 n1 c1 m1 d1 n2 c2 m2 d2 _ _ _ f2RA1.out f2RB1.out f2RA2.out f2RB2.out).mono ?_
      rintro e w6 ⟨rfl, b⟩
      have bb := b
      have f3K := hid_ (f2K.out.bel bb)
      have f3B := hid_ (f2B.out.trans bb)
      have f3P1 := hid_ (f2P1.out.bel bb)
      have f3RA1 := hid_ (f2RA1.out.bel bb)
      have f3RB1 := hid_ (f2RB1.out.bel bb)
      have f3P2 := hid_ (f2P2.out.bel bb)
      have f3RA2 := hid_ (f2RA2.out.bel bb)
      have f3RB2 := hid_ (f2RB2.out.bel bb)
      clear b bb f2K f2B f2P1 f2RA1 f2RB1 f2P2 f2RA2 f2RB2 q00 q01 q02 q10 q11 q12 
      clear f3P1 f3P2 f3RA1 f3RB1 f3RA2 f3RB2
      have q00 := f3K.out.cell 0 rfl
      have q01 := f3K.out.cell 1 rfl
      have q02 := f3K.out.cell 2 rfl
      go_wp2_with fail
      go_region_held3 (fun W => W.cell? ⟨w.heap.size, 0, none⟩ = some (.int .i64 h) ∧ W.cell? ⟨w.heap.size, 1, none⟩ = some (.slice A n c) ∧ W.cell? ⟨w.heap.size, 2, none⟩ = some (.slice B m d)) (first | exact ⟨q00, q01, q02⟩ | exact ⟨b9.cell_ q00, b9.cell_ q01, b9.cell_ q02⟩ | exact ⟨b8.cell_ q00, b8.cell_ q01, b8.cell_ q02⟩ | exact ⟨b7.cell_ q00, b7.cell_ q01, b7.cell_ q02⟩)
        (first | (go_at_call 45; refine' (lists_any h A B n c m d F L _ (hA.bel (f3B.out.trans (by first | exact Bel.refl _ | exact (Bel.refl _).drew))) (hB.bel (f3B.out.trans (by first | exact Bel.refl _ | exact (Bel.refl _).drew))) (by have := HFW.out; omega) (by have := HFW.out; omega)).mono ?_; rintro e w20 ⟨X7, q7, k7, s7, rfl, _, ra7, rb7, b⟩; have b7 : Bel w6 w20 := Bel.trans (by first | exact Bel.refl _ | exact (Bel.refl _).drew) b; clear b) | (go_at_call 46; refine' (listsR_any h A B n c m d F L _ (hA.bel (f3B.out.trans b7)) (hB.bel (f3B.out.trans b7)) (by have := HFW.out; omega) (by have := HFW.out; omega)).mono ?_; rintro e w21 ⟨X8, q8, k8, s8, rfl, _, ra8, rb8, b⟩; have b8 : Bel w6 w21 := b7.trans b; have ra7' := ra7.bel b; have rb7' := rb7.bel b; clear b ra7 rb7) | (go_at_call 44; refine' (sameLists_eq X7 X8 q7 k7 q8 k8 s7 s8 _ _ ra7' ra8 rb7' rb8).mono ?_; rintro e w22 ⟨rfl, b⟩; have b9 : Bel w6 w22 := b8.trans b; clear b ra7' rb7' ra8 rb8))
      have BB := hid_ (f3B.out.trans b9)
      clear f3K f3B q00 q01 q02 b9 b8 b7
      go_wp2
      go_ret
      exact ⟨rfl, BB.out⟩
end Go.Proofs.Ytboaidjhhlidkaa
