/- At no price is more traded, and at none below it as much: the walk. -/
import Derived.Test.YtboaidjhhlidkaaAucB
import Derived.Test.YtboaidjhhlidkaaOpOrd
import Derived.Deep.QuietTactic
import Derived.BigQuiet
set_option linter.unusedSimpArgs false
set_option linter.unusedVariables false
namespace Go.Proofs.Ytboaidjhhlidkaa
open Go.RowKit
set_option maxRecDepth 10000 in
set_option maxHeartbeats 2000000 in
theorem walkAuctionBest (w : World) (A0 : Option Addr) (n0 c0 : Nat) (l0 : List Ord) (w0 : n0 ≤ c0 ∧ Row ordT w A0 n0 l0 ∧ ∀ x ∈ l0, ordWf x) (A1 : Option Addr) (n1 c1 : Nat) (l1 : List Ord) (w1 : n1 ≤ c1 ∧ Row ordT w A1 n1 l1 ∧ ∀ x ∈ l1, ordWf x) (q : Int) (w2 : (Lit.int .i64 q).wf = true) (near : Int) (w3 : (Lit.int .i8 near).wf = true) :
    Calls Try.prog 3 #[.slice A0 n0 c0, .slice A1 n1 c1, .int .i64 q, .int .i8 near] w fun e w' => e = .returned (.bool true) ∧ Below w.heap.size w w' := by
  obtain ⟨_, hr0, _⟩ := w0
  obtain ⟨_, hr1, _⟩ := w1
  clear w2 w3
  have hlen0 := hr0.1
  have hlen1 := hr1.1
  go_enter Try.func3, Try.ntmps3
  go_wp2_with fail
  refine (awake_any _).mono ?_
  rintro e wa ⟨rfl, b1⟩
  go_wp2_with fail
  refine (may_any A0 n0 c0 l0 _ (hr0.bel b1)).mono ?_
  rintro e _ ⟨rfl, rfl⟩
  by_cases hok0 : mayB l0 = true
  · rw [hok0]
    go_wp2_with fail
    refine (may_any A1 n1 c1 l1 _ (hr1.bel b1)).mono ?_
    rintro e _ ⟨rfl, rfl⟩
    by_cases hok1 : mayB l1 = true
    · rw [hok1]
      obtain ⟨hl0, hall0⟩ := (mayB_iff l0).1 hok0
      obtain ⟨hl1, hall1⟩ := (mayB_iff l1).1 hok1
      have k0 : OkL l0 := ⟨hall0, by omega⟩
      have k1 : OkL l1 := ⟨hall1, by omega⟩
      have hB := best_price k0 k1
      have hn0 : n0 ≤ 200 := by omega
      have hn1 : n1 ≤ 200 := by omega
      clear hok0 hok1 hall0 hall1
      go_wp2_with fail
      refine (price_any A0 A1 n0 c0 n1 c1 l0 l1 _ (hr0.bel b1) (hr1.bel b1) (by omega) (by omega)).mono ?_
      rintro e wb ⟨rfl, b2⟩
      have b12 := b1.trans b2
      have r0 := hr0.bel b12
      have r1 := hr1.bel b12
      clear hr0 hr1 b1 b2
      have HA : Hid (okO ⟨0, ⟨#[]⟩, ⟨#[]⟩, false, 0, 0⟩ = okO ⟨0, ⟨#[]⟩, ⟨#[]⟩, false, 0, 0⟩) := rfl
      generalize price l0 l1 = a at hB ⊢
      obtain ⟨pp, v⟩ := a
      obtain ⟨h1, h2, h3, h4⟩ := hB
      simp only at h1 h2 h3 h4
      have H4 : Hid (∀ q, vol l0 l1 q ≤ v ∧ (vol l0 l1 q = v → 0 < v → pp ≤ q)) := h4
      have R0 := hid_ r0
      have R1 := hid_ r1
      clear r0 r1 h4 k0 k1
      obtain hv | hv : v = 0 ∨ 0 < v := by omega
      · have hp := h2.1 hv
        subst hv hp
        clear h1 h2 h3
        have RR0 := R0.out
        have RR1 := R1.out
        have BW := b12
        clear R0 R1
        go_wp2_with (at_builtin; first | (refine wpApp (w0 := wb) ordS rfl _ _ rfl _ [] l0 A0 n0 c0 rfl rfl (Own.lit (T := ordT) wb wb.heap.size [] (Nat.le_refl _) (by simp)) (RR0.bel ((Bel.refl _).alloc _)) ((Bel.refl _).alloc _) (by simp; omega) ?_; intro v1 x1 hO1 hb1 hg1 hat1) | (refine wpApp (w0 := wb) ordS rfl _ _ rfl v1 l0 l1 A1 n1 c1 rfl rfl hO1 (RR1.bel hb1) hb1 (by omega) ?_; intro v2 x2 hO2 hb2 hg2 hat2))
        obtain ⟨X, c, rfl, _, rx⟩ := hO2.reads
        have RX := hid_ rx
        have hln : (l0 ++ l1).length = n0 + n1 := by rw [List.length_append, hlen0, hlen1]
        have B2 : Bel w x2 := BW.trans hb2
        have r0 := RR0.bel hb2
        have r1 := RR1.bel hb2
        have R0 := hid_ r0
        have R1 := hid_ r1
        clear r0 r1 rx hO2 hO1 hb1 hb2 hg1 hg2 hat1 hat2
        rw [hln] at RX ⊢
        have HLN := hid_ hln
        clear hln
        have wf0 : Nat := 0
        clear wf0
        go_wp2_with fail
        go_loopw [13, 14, 15] (fun i _ _ wr => ∃ k : Nat, k ≤ n0 + n1 ∧ i = .int .i64 k ∧ Bel x2 wr) (fun i _ _ _ => n0 + n1 - (intOf i).toNat)
        case atStart => exact ⟨0, by omega, rfl, Bel.refl _⟩
        case round =>
          obtain ⟨k, hk, rfl, hbr⟩ := hrel
          by_cases hkn : k < n0 + n1
          · obtain ⟨ad, number, who, market, buy, price, left, rfl, ho, d0, d1, d2, d3, d4, d5⟩ := (RX.out.bel hbr).ord hkn
            clear d0 d1 d2 d3 d5 ho
            have hkk : (k : Int) + 1 ≤ 1000 := by omega
            go_wp2_with fail
            obtain ⟨qq, hqq⟩ : ∃ qq, wrap64 (price + wrap64 near) = qq := ⟨_, rfl⟩
            rw [hqq]
            refine (volume_any A0 A1 n0 c0 n1 c1 l0 l1 qq _ (R0.out.bel hbr) (R1.out.bel hbr) (by omega) (by omega)).mono ?_
            rintro e wd ⟨rfl, b5⟩
            obtain ⟨g1, g2⟩ := H4.out qq
            have HB5 : Hid (Bel x2 wd) := hbr.trans b5
            clear hbr b5 d4 hqq
            generalize vol l0 l1 qq = x at g1 g2 ⊢
            have g3 : ¬ 0 < x := by omega
            clear g1
            by_cases cq : 1 ≤ qq
            · by_cases cx : x = 0
              · have g4 := g2 cx
                subst cx
                clear g4
                clear g2 g3
                go_wp2
                case roundEnd =>
                  go_roundw
                  case rel => exact ⟨k + 1, by omega, by go_num, HB5.out⟩
                  case measure => simp [intOf]; omega
              · have cx' : (x == 0) = false := by simp [cx]
                clear g2
                go_wp2
                case roundEnd =>
                  go_roundw
                  case rel => exact ⟨k + 1, by omega, by go_num, HB5.out⟩
                  case measure => simp [intOf]; omega
            · clear g2 g3
              go_wp2
              case roundEnd =>
                go_roundw
                case rel => exact ⟨k + 1, by omega, by go_num, HB5.out⟩
                case measure => simp [intOf]; omega
          · have hkk : k = n0 + n1 := by omega
            clear hk hkn
            subst hkk
            clear RX
            go_wp2_with fail
            refine (volume_any A0 A1 n0 c0 n1 c1 l0 l1 q _ (R0.out.bel hbr) (R1.out.bel hbr) (by omega) (by omega)).mono ?_
            rintro e wd ⟨rfl, b5⟩
            obtain ⟨g1, g2⟩ := H4.out q
            have HB5 : Hid (Bel w wd) := B2.trans (hbr.trans b5)
            clear hbr b5
            generalize vol l0 l1 q = x at g1 g2 ⊢
            by_cases cq : q < 1
            · clear g1 g2
              go_wp2
              go_ret
              exact ⟨rfl, HB5.out⟩
            · by_cases cx : x = 0
              · have g4 := g2 cx
                subst cx
                clear g4
                clear g1 g2
                go_wp2
                go_ret
                exact ⟨rfl, HB5.out⟩
              · have cx' : x < 0 := by omega
                clear g2 cx
                go_wp2
                go_ret
                exact ⟨rfl, HB5.out⟩
      · obtain ⟨h5, h6⟩ := h3 hv
        have e1 : (v == 0) = false := by simp; omega
        have e2 : (pp == 0) = false := by simp; omega
        have e3 : ¬ v < 0 := by omega
        clear h1 h2 h3
        go_wp2_with fail
        refine (volume_any A0 A1 n0 c0 n1 c1 l0 l1 pp _ R0.out R1.out (by omega) (by omega)).mono ?_
        rintro e wc ⟨rfl, b3⟩
        rw [h6]
        clear h6
        have RR0 := R0.out.bel b3
        have RR1 := R1.out.bel b3
        have BW := b12.trans b3
        clear R0 R1
        go_wp2_with (at_builtin; first | (refine wpApp (w0 := wc) ordS rfl _ _ rfl _ [] l0 A0 n0 c0 rfl rfl (Own.lit (T := ordT) wc wc.heap.size [] (Nat.le_refl _) (by simp)) (RR0.bel ((Bel.refl _).alloc _)) ((Bel.refl _).alloc _) (by simp; omega) ?_; intro v1 x1 hO1 hb1 hg1 hat1) | (refine wpApp (w0 := wc) ordS rfl _ _ rfl v1 l0 l1 A1 n1 c1 rfl rfl hO1 (RR1.bel hb1) hb1 (by omega) ?_; intro v2 x2 hO2 hb2 hg2 hat2))
        obtain ⟨X, c, rfl, _, rx⟩ := hO2.reads
        have RX := hid_ rx
        have hln : (l0 ++ l1).length = n0 + n1 := by rw [List.length_append, hlen0, hlen1]
        have B2 : Bel w x2 := BW.trans hb2
        have r0 := RR0.bel hb2
        have r1 := RR1.bel hb2
        have R0 := hid_ r0
        have R1 := hid_ r1
        clear r0 r1 rx hO2 hO1 hb1 hb2 hg1 hg2 hat1 hat2
        rw [hln] at RX ⊢
        have HLN := hid_ hln
        clear hln
        have wf0 : Nat := 0
        clear wf0
        go_wp2_with fail
        go_loopw [13, 14, 15] (fun i _ _ wr => ∃ k : Nat, k ≤ n0 + n1 ∧ i = .int .i64 k ∧ Bel x2 wr) (fun i _ _ _ => n0 + n1 - (intOf i).toNat)
        case atStart => exact ⟨0, by omega, rfl, Bel.refl _⟩
        case round =>
          obtain ⟨k, hk, rfl, hbr⟩ := hrel
          by_cases hkn : k < n0 + n1
          · obtain ⟨ad, number, who, market, buy, price, left, rfl, ho, d0, d1, d2, d3, d4, d5⟩ := (RX.out.bel hbr).ord hkn
            clear d0 d1 d2 d3 d5 ho
            have hkk : (k : Int) + 1 ≤ 1000 := by omega
            go_wp2_with fail
            obtain ⟨qq, hqq⟩ : ∃ qq, wrap64 (price + wrap64 near) = qq := ⟨_, rfl⟩
            rw [hqq]
            refine (volume_any A0 A1 n0 c0 n1 c1 l0 l1 qq _ (R0.out.bel hbr) (R1.out.bel hbr) (by omega) (by omega)).mono ?_
            rintro e wd ⟨rfl, b5⟩
            obtain ⟨g1, g2⟩ := H4.out qq
            have HB5 : Hid (Bel x2 wd) := hbr.trans b5
            clear hbr b5 d4 hqq
            generalize vol l0 l1 qq = x at g1 g2 ⊢
            have g3 : ¬ v < x := by omega
            clear g1
            by_cases cq : 1 ≤ qq
            · by_cases cx : x = v
              · have g4 := g2 cx
                subst cx
                have g5 := g4 hv
                clear g4
                clear g2 g3
                go_wp2
                case roundEnd =>
                  go_roundw
                  case rel => exact ⟨k + 1, by omega, by go_num, HB5.out⟩
                  case measure => simp [intOf]; omega
              · have cx' : (x == v) = false := by simp [cx]
                clear g2
                go_wp2
                case roundEnd =>
                  go_roundw
                  case rel => exact ⟨k + 1, by omega, by go_num, HB5.out⟩
                  case measure => simp [intOf]; omega
            · clear g2 g3
              go_wp2
              case roundEnd =>
                go_roundw
                case rel => exact ⟨k + 1, by omega, by go_num, HB5.out⟩
                case measure => simp [intOf]; omega
          · have hkk : k = n0 + n1 := by omega
            clear hk hkn
            subst hkk
            clear RX
            go_wp2_with fail
            refine (volume_any A0 A1 n0 c0 n1 c1 l0 l1 q _ (R0.out.bel hbr) (R1.out.bel hbr) (by omega) (by omega)).mono ?_
            rintro e wd ⟨rfl, b5⟩
            obtain ⟨g1, g2⟩ := H4.out q
            have HB5 : Hid (Bel w wd) := B2.trans (hbr.trans b5)
            clear hbr b5
            generalize vol l0 l1 q = x at g1 g2 ⊢
            by_cases cq : q < 1
            · clear g1 g2
              go_wp2
              go_ret
              exact ⟨rfl, HB5.out⟩
            · by_cases cx : x = v
              · have g4 := g2 cx
                subst cx
                have g5 := g4 hv
                clear g4
                clear g1 g2
                go_wp2
                go_ret
                exact ⟨rfl, HB5.out⟩
              · have cx' : x < v := by omega
                clear g2 cx
                go_wp2
                go_ret
                exact ⟨rfl, HB5.out⟩
    · have hf : mayB l1 = false := by simpa using hok1
      rw [hf]
      clear hok1 hf
      go_wp2
      go_ret
      exact ⟨rfl, b1⟩
  · have hf : mayB l0 = false := by simpa using hok0
    rw [hf]
    clear hok0 hf
    go_wp2
    go_ret
    exact ⟨rfl, b1⟩
end Go.Proofs.Ytboaidjhhlidkaa
