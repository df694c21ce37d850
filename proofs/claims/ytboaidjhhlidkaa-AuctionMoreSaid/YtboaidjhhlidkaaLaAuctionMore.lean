/- More orders never let less be traded: the walk. -/
import Derived.Test.YtboaidjhhlidkaaAucB
import Derived.Test.YtboaidjhhlidkaaOpOrd
import Derived.Deep.QuietTactic
import Derived.BigQuiet
set_option linter.unusedSimpArgs false
set_option linter.unusedVariables false
namespace Go.Proofs.Ytboaidjhhlidkaa
open Go.RowKit
set_option maxRecDepth 10000 in
set_option maxHeartbeats 2000000 in
theorem walkAuctionMore (w : World) (A0 : Option Addr) (n0 c0 : Nat) (l0 : List Ord) (w0 : n0 ≤ c0 ∧ Row ordT w A0 n0 l0 ∧ ∀ x ∈ l0, ordWf x) (A1 : Option Addr) (n1 c1 : Nat) (l1 : List Ord) (w1 : n1 ≤ c1 ∧ Row ordT w A1 n1 l1 ∧ ∀ x ∈ l1, ordWf x) (at_ : Int) (w2 : (Lit.int .i64 at_).wf = true) (pr : Int) (w3 : (Lit.int .i64 pr).wf = true) (lf : Int) (w4 : (Lit.int .i64 lf).wf = true) :
    Calls Try.prog 5 #[.slice A0 n0 c0, .slice A1 n1 c1, .int .i64 at_, .int .i64 pr, .int .i64 lf] w fun e w' => e = .returned (.bool true) ∧ Below w.heap.size w w' := by
  obtain ⟨hc0, hr0, _⟩ := w0
  obtain ⟨hc1, hr1, _⟩ := w1
  have hat : -9223372036854775808 ≤ at_ ∧ at_ ≤ 9223372036854775807 := by
    simp [Lit.wf, IntKind.min, IntKind.max, IntKind.signed, IntKind.bits] at w2
    omega
  have HAT := hid_ hat
  clear w2 w3 w4 hat
  have hlen0 := hr0.1
  have hlen1 := hr1.1
  go_enter Try.func5, Try.ntmps5
  go_wp2_with fail
  refine (awake_any _).mono ?_
  rintro e wa ⟨rfl, b1⟩
  go_wp2_with fail
  refine (may_any A0 n0 c0 l0 _ (hr0.bel b1)).mono ?_
  rintro e _ ⟨rfl, rfl⟩
  by_cases hok0 : mayB l0 = true
  · rw [hok0]
    go_wp2_with fail
    refine (may_any A1 n1 c1 l1 _ (hr1.bel b1)).mono ?_
    rintro e _ ⟨rfl, rfl⟩
    by_cases hok1 : mayB l1 = true
    · rw [hok1]
      obtain ⟨hl0, hall0⟩ := (mayB_iff l0).1 hok0
      obtain ⟨hl1, hall1⟩ := (mayB_iff l1).1 hok1
      have k0 : OkL l0 := ⟨hall0, by omega⟩
      have k1 : OkL l1 := ⟨hall1, by omega⟩
      have hn0 : n0 ≤ 200 := by omega
      have hn1 : n1 ≤ 200 := by omega
      clear hok0 hok1
      by_cases t1 : 100 < n0
      · go_wp2
        go_ret
        exact ⟨rfl, b1⟩
      · by_cases t2 : pr < 1
        · go_wp2
          go_ret
          exact ⟨rfl, b1⟩
        · by_cases t3 : 1000000 < pr
          · go_wp2
            go_ret
            exact ⟨rfl, b1⟩
          · by_cases t4 : lf < 1
            · go_wp2
              go_ret
              exact ⟨rfl, b1⟩
            · by_cases t5 : 1000000 < lf
              · go_wp2
                go_ret
                exact ⟨rfl, b1⟩
              · by_cases hneg : at_ < 0
                · go_wp2_with fail
                  obtain ⟨z, hz⟩ : ∃ z, wrap64 (-wrap64 (at_ + 1)) = z := ⟨_, rfl⟩
                  rw [hz]
                  have hz2 : 0 ≤ z ∧ z ≤ 9223372036854775807 := by
                    have h1 := HAT.out
                    have h2 : wrap64 (at_ + 1) = at_ + 1 := IntWalk.wrap64_in _ (by omega)
                    rw [h2, IntWalk.wrap64_in _ (by omega)] at hz
                    omega
                  have HZ := hid_ hz2
                  clear hz2 hz HAT
                  clear t1 hneg
                  refine (price_any A0 A1 n0 c0 n1 c1 l0 l1 _ (hr0.bel b1) (hr1.bel b1) (by omega) (by omega)).mono ?_
                  rintro e wb ⟨rfl, b2⟩
                  have b12 := b1.trans b2
                  have r0 := hr0.bel b12
                  have r1 := hr1.bel b12
                  obtain ⟨zz, hzz⟩ : ∃ zz, wrap64 ((n1 : Int) + 1) = zz := ⟨_, rfl⟩
                  have hz1 : zz = (n1 : Int) + 1 := by rw [← hzz]; exact IntWalk.wrap64_in _ (by omega)
                  have hz0 : (zz == 0) = false := by simp; omega
                  clear hr0 hr1 b1 b2
                  go_wp2_with fail
                  clear hzz hz0 hz1
                  obtain ⟨kk, hkk, hle⟩ : ∃ kk : Nat, z.tmod ((n1 : Int) + 1) = (kk : Int) ∧ kk ≤ n1 := by
                    have h1 := HZ.out
                    have h2 := Int.emod_nonneg z (show (n1 : Int) + 1 ≠ 0 by omega)
                    have h3 := Int.emod_lt_of_pos z (show (0 : Int) < (n1 : Int) + 1 by omega)
                    exact ⟨(z % ((n1 : Int) + 1)).toNat, by rw [Int.tmod_eq_emod_of_nonneg h1.1]; omega, by omega⟩
                  rw [hkk]
                  clear hkk HZ
                  obtain ⟨A', hcut, hrow⟩ := ordS.cutFrom .i64 A1 n1 c1 kk hle hc1
                  have hcut2 := fun W => ordS.cutTo .i64 A1 n1 c1 kk (by omega) W
                  have ra := hrow _ _ r1
                  have rb := r1.take_ hle
                  clear hrow
                  have hs0 : ((l1.drop kk).length) = n1 - kk := by rw [List.length_drop, hlen1]
                  go_region_held3 (fun W => Bel wb W) (first | exact Bel.refl _ | (repeat first | exact Bel.refl _ | exact hb1 | exact hb2 | apply Bel.drew | apply Bel.alloc))
                    (first | (refine stepApp (w0 := wb) ordS rfl _ _ rfl _ [] (l1.drop kk) A' (n1 - kk) (c1 - kk) rfl rfl ((Own.lit (T := ordT) wb wb.heap.size [] (Nat.le_refl _) (by simp)).bel ((Bel.refl _).drew)) (ra.bel ((Bel.refl _).alloc _).drew) ((Bel.refl _).alloc _).drew (by simp; omega) ?_; intro v1 x1 hO1 hb1 hg1 hat1) | (refine stepApp (w0 := wb) ordS rfl _ _ rfl v1 ([] ++ l1.drop kk) (l1.take kk) A1 kk c1 rfl rfl (by first | exact hO1 | exact hO1.bel (Bel.refl _).drew) (rb.bel (by first | exact hb1 | exact hb1.drew)) (by first | exact hb1 | exact hb1.drew) (by simp; omega) ?_; intro v2 x2 hO2 hb2 hg2 hat2))
                  have hx2 : Bel w x2 := b12.trans hb2
                  obtain ⟨X2, d2, rfl, _, r2⟩ := hO2.reads
                  have hln : ([] ++ l1.drop kk ++ l1.take kk).length = n1 := by simp [hlen1]; omega
                  rw [hln] at r2
                  have hperm : l1.Perm ([] ++ l1.drop kk ++ l1.take kk) := by
                    have h := List.perm_append_comm (l₁ := l1.take kk) (l₂ := l1.drop kk)
                    rw [List.take_append_drop] at h
                    simpa using h
                  have hpt := price_perm k0 k1 hperm
                  have q0 := r0.bel hb2
                  have q1 := r1.bel hb2
                  rw [hln]
                  clear ra rb hcut hcut2 hO1 hO2 hb1 hb2 hg1 hg2 hat1 hat2 r0 r1 b12 hs0 hperm hln
                  go_wp2_with fail
                  refine (price_any A0 X2 n0 c0 n1 d2 l0 ([] ++ l1.drop kk ++ l1.take kk) _ q0 r2 (by omega) (by omega)).mono ?_
                  rintro e x3 ⟨rfl, b3⟩
                  rw [← hpt]
                  have hx3 : Bel w x3 := hx2.trans b3
                  have p0 := q0.bel b3
                  have p1 := q1.bel b3
                  clear q0 q1 r2 b3 hx2 hpt
                  go_wp2_with (at_builtin; refine wpApp (w0 := x3) ordS rfl _ _ rfl _ [] l0 A0 n0 c0 rfl rfl (Own.lit (T := ordT) x3 x3.heap.size [] (Nat.le_refl _) (by simp)) (p0.bel ((Bel.refl _).alloc _)) ((Bel.refl _).alloc _) (by simp; omega) ?_; intro v4 x4 hO4 hb4 hg4 hat4)
                  refine (one_any _ _ _ _).mono ?_
                  rintro e x5 ⟨rfl, b5⟩
                  go_wp2_with (at_builtin; refine wpApp (w0 := x3) ordS rfl _ _ rfl v4 ([] ++ l0) [⟨9, ⟨#[]⟩, ⟨#[]⟩, false, pr, lf⟩] _ 1 1 rfl rfl ((hO4.bel b5).bel ((Bel.refl _).alloc _)) (Row.one (T := ordT) _ rfl rfl) ((hb4.trans b5).alloc _) (by simp; omega) ?_; intro v6 x6 hO6 hb6 hg6 hat6)
                  obtain ⟨X6, d6, rfl, _, r6⟩ := hO6.reads
                  have hx6 : Bel w x6 := hx3.trans hb6
                  have s0 := p0.bel hb6
                  have s1 := p1.bel hb6
                  have hl6 : ([] ++ l0 ++ [(⟨9, ⟨#[]⟩, ⟨#[]⟩, false, pr, lf⟩ : Ord)]).length = n0 + 1 := by simp [hlen0]
                  rw [hl6] at r6 ⊢
                  clear hO4 hO6 hb4 hb6 hg4 hg6 hat4 hat6 p0 p1 b5 hx3 hl6
                  refine (price_any X6 A1 (n0 + 1) d6 n1 c1 ([] ++ l0 ++ [⟨9, ⟨#[]⟩, ⟨#[]⟩, false, pr, lf⟩]) l1 _ r6 s1 (by omega) (by omega)).mono ?_
                  rintro e x7 ⟨rfl, b7⟩
                  have hx7 : Bel w x7 := hx6.trans b7
                  have p0 := s0.bel b7
                  have p1 := s1.bel b7
                  clear r6 s0 s1 b7 hx6
                  go_wp2_with (at_builtin; refine wpApp (w0 := x7) ordS rfl _ _ rfl _ [] l1 A1 n1 c1 rfl rfl (Own.lit (T := ordT) x7 x7.heap.size [] (Nat.le_refl _) (by simp)) (p1.bel ((Bel.refl _).alloc _)) ((Bel.refl _).alloc _) (by simp; omega) ?_; intro v4 x4 hO4 hb4 hg4 hat4)
                  refine (one_any _ _ _ _).mono ?_
                  rintro e x5 ⟨rfl, b5⟩
                  go_wp2_with (at_builtin; refine wpApp (w0 := x7) ordS rfl _ _ rfl v4 ([] ++ l1) [⟨9, ⟨#[]⟩, ⟨#[]⟩, false, pr, lf⟩] _ 1 1 rfl rfl ((hO4.bel b5).bel ((Bel.refl _).alloc _)) (Row.one (T := ordT) _ rfl rfl) ((hb4.trans b5).alloc _) (by simp; omega) ?_; intro v6 x6 hO6 hb6 hg6 hat6)
                  obtain ⟨X6, d6, rfl, _, r6⟩ := hO6.reads
                  have hx6 : Bel w x6 := hx7.trans hb6
                  have s0 := p0.bel hb6
                  have hl6 : ([] ++ l1 ++ [(⟨9, ⟨#[]⟩, ⟨#[]⟩, false, pr, lf⟩ : Ord)]).length = n1 + 1 := by simp [hlen1]
                  rw [hl6] at r6 ⊢
                  clear hO4 hO6 hb4 hb6 hg4 hg6 hat4 hat6 p0 p1 b5 hx7 hl6
                  refine (price_any A0 X6 n0 c0 (n1 + 1) d6 l0 ([] ++ l1 ++ [⟨9, ⟨#[]⟩, ⟨#[]⟩, false, pr, lf⟩]) _ s0 r6 (by omega) (by omega)).mono ?_
                  rintro e x8 ⟨rfl, b8⟩
                  have hx8 : Bel w x8 := hx6.trans b8
                  have ho : okO ⟨9, ⟨#[]⟩, ⟨#[]⟩, false, pr, lf⟩ = true := (okOi _).2 ⟨by show 1 ≤ pr; omega, by show pr ≤ 1000000; omega, by show 1 ≤ lf; omega, by show lf ≤ 1000000; omega⟩
                  have m1 := price_more_buy k0 k1 (o := ⟨9, ⟨#[]⟩, ⟨#[]⟩, false, pr, lf⟩) (okl_snoc hall0 (by omega) ho)
                  have m2 := price_more_sell k0 k1 (o := ⟨9, ⟨#[]⟩, ⟨#[]⟩, false, pr, lf⟩) (okl_snoc hall1 (by omega) ho)
                  have m3 := price_le k0 k1
                  clear r6 s0 b8 hx6 k0 k1 ho
                  simp only [List.nil_append] at m1 m2 ⊢
                  generalize price l0 l1 = a1 at m1 m2 m3 ⊢
                  generalize price (l0 ++ [⟨9, ⟨#[]⟩, ⟨#[]⟩, false, pr, lf⟩]) l1 = a2 at m1 ⊢
                  generalize price l0 (l1 ++ [⟨9, ⟨#[]⟩, ⟨#[]⟩, false, pr, lf⟩]) = a3 at m2 ⊢
                  obtain ⟨P1, V1⟩ := a1
                  obtain ⟨P2, V2⟩ := a2
                  obtain ⟨P3, V3⟩ := a3
                  simp only at m1 m2 m3 ⊢
                  obtain ⟨m4, m5⟩ := m1
                  obtain ⟨m6, m7⟩ := m2
                  have hww : wrap64 (V1 + lf) = V1 + lf := IntWalk.wrap64_in _ (by omega)
                  clear m3
                  go_wp2
                  go_ret
                  exact ⟨rfl, hx8⟩
                · go_wp2_with fail
                  have hz2 : 0 ≤ at_ ∧ at_ ≤ 9223372036854775807 := ⟨by omega, HAT.out.2⟩
                  have HZ := hid_ hz2
                  clear hz2 HAT
                  clear t1 hneg
                  refine (price_any A0 A1 n0 c0 n1 c1 l0 l1 _ (hr0.bel b1) (hr1.bel b1) (by omega) (by omega)).mono ?_
                  rintro e wb ⟨rfl, b2⟩
                  have b12 := b1.trans b2
                  have r0 := hr0.bel b12
                  have r1 := hr1.bel b12
                  obtain ⟨zz, hzz⟩ : ∃ zz, wrap64 ((n1 : Int) + 1) = zz := ⟨_, rfl⟩
                  have hz1 : zz = (n1 : Int) + 1 := by rw [← hzz]; exact IntWalk.wrap64_in _ (by omega)
                  have hz0 : (zz == 0) = false := by simp; omega
                  clear hr0 hr1 b1 b2
                  go_wp2_with fail
                  clear hzz hz0 hz1
                  obtain ⟨kk, hkk, hle⟩ : ∃ kk : Nat, at_ % ((n1 : Int) + 1) = (kk : Int) ∧ kk ≤ n1 := by
                    have h1 := HZ.out
                    have h2 := Int.emod_nonneg at_ (show (n1 : Int) + 1 ≠ 0 by omega)
                    have h3 := Int.emod_lt_of_pos at_ (show (0 : Int) < (n1 : Int) + 1 by omega)
                    exact ⟨(at_ % ((n1 : Int) + 1)).toNat, by omega, by omega⟩
                  rw [hkk]
                  clear hkk HZ
                  obtain ⟨A', hcut, hrow⟩ := ordS.cutFrom .i64 A1 n1 c1 kk hle hc1
                  have hcut2 := fun W => ordS.cutTo .i64 A1 n1 c1 kk (by omega) W
                  have ra := hrow _ _ r1
                  have rb := r1.take_ hle
                  clear hrow
                  have hs0 : ((l1.drop kk).length) = n1 - kk := by rw [List.length_drop, hlen1]
                  go_region_held3 (fun W => Bel wb W) (first | exact Bel.refl _ | (repeat first | exact Bel.refl _ | exact hb1 | exact hb2 | apply Bel.drew | apply Bel.alloc))
                    (first | (refine stepApp (w0 := wb) ordS rfl _ _ rfl _ [] (l1.drop kk) A' (n1 - kk) (c1 - kk) rfl rfl ((Own.lit (T := ordT) wb wb.heap.size [] (Nat.le_refl _) (by simp)).bel ((Bel.refl _).drew)) (ra.bel ((Bel.refl _).alloc _).drew) ((Bel.refl _).alloc _).drew (by simp; omega) ?_; intro v1 x1 hO1 hb1 hg1 hat1) | (refine stepApp (w0 := wb) ordS rfl _ _ rfl v1 ([] ++ l1.drop kk) (l1.take kk) A1 kk c1 rfl rfl (by first | exact hO1 | exact hO1.bel (Bel.refl _).drew) (rb.bel (by first | exact hb1 | exact hb1.drew)) (by first | exact hb1 | exact hb1.drew) (by simp; omega) ?_; intro v2 x2 hO2 hb2 hg2 hat2))
                  have hx2 : Bel w x2 := b12.trans hb2
                  obtain ⟨X2, d2, rfl, _, r2⟩ := hO2.reads
                  have hln : ([] ++ l1.drop kk ++ l1.take kk).length = n1 := by simp [hlen1]; omega
                  rw [hln] at r2
                  have hperm : l1.Perm ([] ++ l1.drop kk ++ l1.take kk) := by
                    have h := List.perm_append_comm (l₁ := l1.take kk) (l₂ := l1.drop kk)
                    rw [List.take_append_drop] at h
                    simpa using h
                  have hpt := price_perm k0 k1 hperm
                  have q0 := r0.bel hb2
                  have q1 := r1.bel hb2
                  rw [hln]
                  clear ra rb hcut hcut2 hO1 hO2 hb1 hb2 hg1 hg2 hat1 hat2 r0 r1 b12 hs0 hperm hln
                  go_wp2_with fail
                  refine (price_any A0 X2 n0 c0 n1 d2 l0 ([] ++ l1.drop kk ++ l1.take kk) _ q0 r2 (by omega) (by omega)).mono ?_
                  rintro e x3 ⟨rfl, b3⟩
                  rw [← hpt]
                  have hx3 : Bel w x3 := hx2.trans b3
                  have p0 := q0.bel b3
                  have p1 := q1.bel b3
                  clear q0 q1 r2 b3 hx2 hpt
                  go_wp2_with (at_builtin; refine wpApp (w0 := x3) ordS rfl _ _ rfl _ [] l0 A0 n0 c0 rfl rfl (Own.lit (T := ordT) x3 x3.heap.size [] (Nat.le_refl _) (by simp)) (p0.bel ((Bel.refl _).alloc _)) ((Bel.refl _).alloc _) (by simp; omega) ?_; intro v4 x4 hO4 hb4 hg4 hat4)
                  refine (one_any _ _ _ _).mono ?_
                  rintro e x5 ⟨rfl, b5⟩
                  go_wp2_with (at_builtin; refine wpApp (w0 := x3) ordS rfl _ _ rfl v4 ([] ++ l0) [⟨9, ⟨#[]⟩, ⟨#[]⟩, false, pr, lf⟩] _ 1 1 rfl rfl ((hO4.bel b5).bel ((Bel.refl _).alloc _)) (Row.one (T := ordT) _ rfl rfl) ((hb4.trans b5).alloc _) (by simp; omega) ?_; intro v6 x6 hO6 hb6 hg6 hat6)
                  obtain ⟨X6, d6, rfl, _, r6⟩ := hO6.reads
                  have hx6 : Bel w x6 := hx3.trans hb6
                  have s0 := p0.bel hb6
                  have s1 := p1.bel hb6
                  have hl6 : ([] ++ l0 ++ [(⟨9, ⟨#[]⟩, ⟨#[]⟩, false, pr, lf⟩ : Ord)]).length = n0 + 1 := by simp [hlen0]
                  rw [hl6] at r6 ⊢
                  clear hO4 hO6 hb4 hb6 hg4 hg6 hat4 hat6 p0 p1 b5 hx3 hl6
                  refine (price_any X6 A1 (n0 + 1) d6 n1 c1 ([] ++ l0 ++ [⟨9, ⟨#[]⟩, ⟨#[]⟩, false, pr, lf⟩]) l1 _ r6 s1 (by omega) (by omega)).mono ?_
                  rintro e x7 ⟨rfl, b7⟩
                  have hx7 : Bel w x7 := hx6.trans b7
                  have p0 := s0.bel b7
                  have p1 := s1.bel b7
                  clear r6 s0 s1 b7 hx6
                  go_wp2_with (at_builtin; refine wpApp (w0 := x7) ordS rfl _ _ rfl _ [] l1 A1 n1 c1 rfl rfl (Own.lit (T := ordT) x7 x7.heap.size [] (Nat.le_refl _) (by simp)) (p1.bel ((Bel.refl _).alloc _)) ((Bel.refl _).alloc _) (by simp; omega) ?_; intro v4 x4 hO4 hb4 hg4 hat4)
                  refine (one_any _ _ _ _).mono ?_
                  rintro e x5 ⟨rfl, b5⟩
                  go_wp2_with (at_builtin; refine wpApp (w0 := x7) ordS rfl _ _ rfl v4 ([] ++ l1) [⟨9, ⟨#[]⟩, ⟨#[]⟩, false, pr, lf⟩] _ 1 1 rfl rfl ((hO4.bel b5).bel ((Bel.refl _).alloc _)) (Row.one (T := ordT) _ rfl rfl) ((hb4.trans b5).alloc _) (by simp; omega) ?_; intro v6 x6 hO6 hb6 hg6 hat6)
                  obtain ⟨X6, d6, rfl, _, r6⟩ := hO6.reads
                  have hx6 : Bel w x6 := hx7.trans hb6
                  have s0 := p0.bel hb6
                  have hl6 : ([] ++ l1 ++ [(⟨9, ⟨#[]⟩, ⟨#[]⟩, false, pr, lf⟩ : Ord)]).length = n1 + 1 := by simp [hlen1]
                  rw [hl6] at r6 ⊢
                  clear hO4 hO6 hb4 hb6 hg4 hg6 hat4 hat6 p0 p1 b5 hx7 hl6
                  refine (price_any A0 X6 n0 c0 (n1 + 1) d6 l0 ([] ++ l1 ++ [⟨9, ⟨#[]⟩, ⟨#[]⟩, false, pr, lf⟩]) _ s0 r6 (by omega) (by omega)).mono ?_
                  rintro e x8 ⟨rfl, b8⟩
                  have hx8 : Bel w x8 := hx6.trans b8
                  have ho : okO ⟨9, ⟨#[]⟩, ⟨#[]⟩, false, pr, lf⟩ = true := (okOi _).2 ⟨by show 1 ≤ pr; omega, by show pr ≤ 1000000; omega, by show 1 ≤ lf; omega, by show lf ≤ 1000000; omega⟩
                  have m1 := price_more_buy k0 k1 (o := ⟨9, ⟨#[]⟩, ⟨#[]⟩, false, pr, lf⟩) (okl_snoc hall0 (by omega) ho)
                  have m2 := price_more_sell k0 k1 (o := ⟨9, ⟨#[]⟩, ⟨#[]⟩, false, pr, lf⟩) (okl_snoc hall1 (by omega) ho)
                  have m3 := price_le k0 k1
                  clear r6 s0 b8 hx6 k0 k1 ho
                  simp only [List.nil_append] at m1 m2 ⊢
                  generalize price l0 l1 = a1 at m1 m2 m3 ⊢
                  generalize price (l0 ++ [⟨9, ⟨#[]⟩, ⟨#[]⟩, false, pr, lf⟩]) l1 = a2 at m1 ⊢
                  generalize price l0 (l1 ++ [⟨9, ⟨#[]⟩, ⟨#[]⟩, false, pr, lf⟩]) = a3 at m2 ⊢
                  obtain ⟨P1, V1⟩ := a1
                  obtain ⟨P2, V2⟩ := a2
                  obtain ⟨P3, V3⟩ := a3
                  simp only at m1 m2 m3 ⊢
                  obtain ⟨m4, m5⟩ := m1
                  obtain ⟨m6, m7⟩ := m2
                  have hww : wrap64 (V1 + lf) = V1 + lf := IntWalk.wrap64_in _ (by omega)
                  clear m3
                  go_wp2
                  go_ret
                  exact ⟨rfl, hx8⟩
    · have hf : mayB l1 = false := by simpa using hok1
      rw [hf]
      clear hok1 hf
      go_wp2
      go_ret
      exact ⟨rfl, b1⟩
  · have hf : mayB l0 = false := by simpa using hok0
    rw [hf]
    clear hok0 hf
    go_wp2
    go_ret
    exact ⟨rfl, b1⟩
end Go.Proofs.Ytboaidjhhlidkaa
